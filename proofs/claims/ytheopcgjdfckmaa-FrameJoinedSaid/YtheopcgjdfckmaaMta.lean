/- Layer 6: walks. Printed by a program of mine. -/
import Derived.KernelRfl
import Derived.Test.YtheopcgjdfckmaaMd
namespace Go.Proofs.Ytheopcgjdfckmaa
open Go Go.Proofs.Ytheopcgjdfckmaa.Sx
set_option linter.unusedVariables false
set_option linter.unusedSimpArgs false

abbrev crc_nibbles_st (r : TArr16Int) : Prop := SCon Try.prog 39 [] [] (.a (.agg ((eTArr16Int r).map .v))) [] []
theorem crc_nibbles_con0 {k : Nat}  {r : TArr16Int}  (H0 : crc_nibbles.f k = some r) : crc_nibbles_st r := by
  rw [crc_nibbles.f] at H0
  refine spec_of [] [] 24 Try.func39 rfl Try.ntmps39 rfl rfl rfl rfl (fun β W F => ?_)
  refine G.seq ?_
  refine G.rg ?_
  refine K.alloc Y 100 [_, _, _, _, _, _, _, _, _, _, _, _, _, _, _, _] (gd0 rfl) t65 rfl rfl rfl rfl rfl ?_
  refine K.nil ?_
  refine At.next ?_
  refine G.seq ?_
  refine G.rg ?_
  refine K.alloc Y 101 [_, _, _, _, _, _, _, _, _, _, _, _, _, _, _, _] (gd0 rfl) t65 rfl rfl rfl rfl rfl ?_
  refine K.nil ?_
  refine At.next ?_
  obtain ⟨x1, H1, H0⟩ := bnd H0
  refine G.sJ (σ := { v : TArr16Int // x1 = v }) (fun q => [(0, .a (.c (.p 102 0))), (1, .a (.c (.p 103 0)))]) (fun q => [(102, blk 102 [.v (.int .u32 0), .v (.int .u32 0), .v (.int .u32 0), .v (.int .u32 0), .v (.int .u32 0), .v (.int .u32 0), .v (.int .u32 0), .v (.int .u32 0), .v (.int .u32 0), .v (.int .u32 0), .v (.int .u32 0), .v (.int .u32 0), .v (.int .u32 0), .v (.int .u32 0), .v (.int .u32 0), .v (.int .u32 0)] 65), (103, blk 103 [.v (.int .u32 q.1.i0), .v (.int .u32 q.1.i1), .v (.int .u32 q.1.i2), .v (.int .u32 q.1.i3), .v (.int .u32 q.1.i4), .v (.int .u32 q.1.i5), .v (.int .u32 q.1.i6), .v (.int .u32 q.1.i7), .v (.int .u32 q.1.i8), .v (.int .u32 q.1.i9), .v (.int .u32 q.1.i10), .v (.int .u32 q.1.i11), .v (.int .u32 q.1.i12), .v (.int .u32 q.1.i13), .v (.int .u32 q.1.i14), .v (.int .u32 q.1.i15)] 65)]) ?_ ?_
  ·
    refine G.seq ?_
    refine G.rg ?_
    refine K.move (.inl rfl) (gd0 rfl) rfl rfl ?_
    refine K.nil ?_
    refine At.next ?_
    refine G.block ?_
    refine G.lp (σ := { q : Nat × (TArr16Int × Int) // crc_nibbles.l0 k q.1 q.2 = some x1 }) (fun q => [(0, .a (.c (.p 108 0))), (1, .a (.c (.p 109 0))), (4, .a (.c (.v (.int .i64 q.1.2.2))))]) (fun q => [(108, blk 108 [.v (.int .u32 0), .v (.int .u32 0), .v (.int .u32 0), .v (.int .u32 0), .v (.int .u32 0), .v (.int .u32 0), .v (.int .u32 0), .v (.int .u32 0), .v (.int .u32 0), .v (.int .u32 0), .v (.int .u32 0), .v (.int .u32 0), .v (.int .u32 0), .v (.int .u32 0), .v (.int .u32 0), .v (.int .u32 0)] 65), (109, blk 109 [.v (.int .u32 q.1.2.1.i0), .v (.int .u32 q.1.2.1.i1), .v (.int .u32 q.1.2.1.i2), .v (.int .u32 q.1.2.1.i3), .v (.int .u32 q.1.2.1.i4), .v (.int .u32 q.1.2.1.i5), .v (.int .u32 q.1.2.1.i6), .v (.int .u32 q.1.2.1.i7), .v (.int .u32 q.1.2.1.i8), .v (.int .u32 q.1.2.1.i9), .v (.int .u32 q.1.2.1.i10), .v (.int .u32 q.1.2.1.i11), .v (.int .u32 q.1.2.1.i12), .v (.int .u32 q.1.2.1.i13), .v (.int .u32 q.1.2.1.i14), .v (.int .u32 q.1.2.1.i15)] 65)]) (fun q => q.1.1) ⟨(k, ((TArr16Int.mk 0 0 0 0 0 0 0 0 0 0 0 0 0 0 0 0), 0)), H1⟩ ?_ ?_
    · exact At.into [(108, 100), (109, 101)] [_, _] rfl ⟨rfl, rfl, rfl, trivial⟩ ⟨rfl, (blk_ren rfl rfl), rfl, (blk_ren rfl rfl), trivial⟩ rfl
    ·
      rintro ⟨⟨n0, v1, v2⟩, H1⟩
      show G _ _ [(0, .a (.c (.p 108 0))), (1, .a (.c (.p 109 0))), (4, .a (.c (.v (.int .i64 v2))))] [(108, some (blk 108 [.v (.int .u32 0), .v (.int .u32 0), .v (.int .u32 0), .v (.int .u32 0), .v (.int .u32 0), .v (.int .u32 0), .v (.int .u32 0), .v (.int .u32 0), .v (.int .u32 0), .v (.int .u32 0), .v (.int .u32 0), .v (.int .u32 0), .v (.int .u32 0), .v (.int .u32 0), .v (.int .u32 0), .v (.int .u32 0)] 65)), (109, some (blk 109 [.v (.int .u32 v1.i0), .v (.int .u32 v1.i1), .v (.int .u32 v1.i2), .v (.int .u32 v1.i3), .v (.int .u32 v1.i4), .v (.int .u32 v1.i5), .v (.int .u32 v1.i6), .v (.int .u32 v1.i7), .v (.int .u32 v1.i8), .v (.int .u32 v1.i9), .v (.int .u32 v1.i10), .v (.int .u32 v1.i11), .v (.int .u32 v1.i12), .v (.int .u32 v1.i13), .v (.int .u32 v1.i14), .v (.int .u32 v1.i15)] 65))] _ _
      cases n0 with
      | zero => exact absurd H1 (by simp [crc_nibbles.l0])
      | succ n0 =>
        have HL0 := H1
        rw [crc_nibbles.l0] at H1
        refine G.seq ?_
        refine G.rg ?_
        refine K.bin (V := .bool (decide (v2 < 16))) (gd0 rfl) rfl rfl (fun _ => rfl) rfl ?_
        refine K.nil ?_
        refine At.next ?_
        refine G.seq ?_
        refine G.cond rfl (fun h1 => ?_) (fun h1 => ?_)
        ·
          replace H1 := bif_t H1 h1
          refine G.skip ?_
          refine At.next ?_
          obtain ⟨x2, H2, H1⟩ := bnd H1
          refine G.sJ (σ := { v : TArr16Int // x2 = v }) (fun q => [(0, .a (.c (.p 110 0))), (1, .a (.c (.p 111 0))), (4, .a (.c (.v (.int .i64 v2))))]) (fun q => [(110, blk 110 [.v (.int .u32 0), .v (.int .u32 0), .v (.int .u32 0), .v (.int .u32 0), .v (.int .u32 0), .v (.int .u32 0), .v (.int .u32 0), .v (.int .u32 0), .v (.int .u32 0), .v (.int .u32 0), .v (.int .u32 0), .v (.int .u32 0), .v (.int .u32 0), .v (.int .u32 0), .v (.int .u32 0), .v (.int .u32 0)] 65), (111, blk 111 [.v (.int .u32 q.1.i0), .v (.int .u32 q.1.i1), .v (.int .u32 q.1.i2), .v (.int .u32 q.1.i3), .v (.int .u32 q.1.i4), .v (.int .u32 q.1.i5), .v (.int .u32 q.1.i6), .v (.int .u32 q.1.i7), .v (.int .u32 q.1.i8), .v (.int .u32 q.1.i9), .v (.int .u32 q.1.i10), .v (.int .u32 q.1.i11), .v (.int .u32 q.1.i12), .v (.int .u32 q.1.i13), .v (.int .u32 q.1.i14), .v (.int .u32 q.1.i15)] 65)]) ?_ ?_
          ·
            refine G.block ?_
            refine G.seq ?_
            refine G.rg ?_
            refine K.move (.inl rfl) (gd0 rfl) rfl rfl ?_
            refine K.move (.inr rfl) (gd0 rfl) rfl rfl ?_
            refine K.nil ?_
            refine At.next ?_
            refine G.seq ?_
            refine G.rg ?_
            refine K.move (.inl rfl) (gd0 rfl) rfl rfl ?_
            refine K.conv (V := .int .u32 (IntKind.u32.wrap v2)) (gd0 rfl) rfl (cv_int (by rw [Try.underlying3]; rfl) Try.underlying37) rfl ?_
            refine K.move (.inr rfl) (gd0 rfl) rfl rfl ?_
            refine K.nil ?_
            refine At.next ?_
            obtain ⟨x3, H3, H2⟩ := bnd H2
            refine G.sJ (σ := { v : Int // x3 = v }) (fun q => [(0, .a (.c (.p 112 0))), (1, .a (.c (.p 113 0))), (2, .a (.c (.v (.int .i64 v2)))), (3, .a (.c (.v (.int .u32 q.1)))), (4, .a (.c (.v (.int .i64 v2))))]) (fun q => [(112, blk 112 [.v (.int .u32 0), .v (.int .u32 0), .v (.int .u32 0), .v (.int .u32 0), .v (.int .u32 0), .v (.int .u32 0), .v (.int .u32 0), .v (.int .u32 0), .v (.int .u32 0), .v (.int .u32 0), .v (.int .u32 0), .v (.int .u32 0), .v (.int .u32 0), .v (.int .u32 0), .v (.int .u32 0), .v (.int .u32 0)] 65), (113, blk 113 [.v (.int .u32 v1.i0), .v (.int .u32 v1.i1), .v (.int .u32 v1.i2), .v (.int .u32 v1.i3), .v (.int .u32 v1.i4), .v (.int .u32 v1.i5), .v (.int .u32 v1.i6), .v (.int .u32 v1.i7), .v (.int .u32 v1.i8), .v (.int .u32 v1.i9), .v (.int .u32 v1.i10), .v (.int .u32 v1.i11), .v (.int .u32 v1.i12), .v (.int .u32 v1.i13), .v (.int .u32 v1.i14), .v (.int .u32 v1.i15)] 65)]) ?_ ?_
            ·
              refine G.seq ?_
              refine G.rg ?_
              refine K.move (.inl rfl) (gd0 rfl) rfl rfl ?_
              refine K.nil ?_
              refine At.next ?_
              refine G.block ?_
              refine G.lp (σ := { q : Nat × (Int × Int) // crc_nibbles.l1 k q.1 q.2 = some x3 }) (fun q => [(0, .a (.c (.p 118 0))), (1, .a (.c (.p 119 0))), (2, .a (.c (.v (.int .i64 v2)))), (3, .a (.c (.v (.int .u32 q.1.2.1)))), (4, .a (.c (.v (.int .i64 v2)))), (9, .a (.c (.v (.int .i64 q.1.2.2))))]) (fun q => [(118, blk 118 [.v (.int .u32 0), .v (.int .u32 0), .v (.int .u32 0), .v (.int .u32 0), .v (.int .u32 0), .v (.int .u32 0), .v (.int .u32 0), .v (.int .u32 0), .v (.int .u32 0), .v (.int .u32 0), .v (.int .u32 0), .v (.int .u32 0), .v (.int .u32 0), .v (.int .u32 0), .v (.int .u32 0), .v (.int .u32 0)] 65), (119, blk 119 [.v (.int .u32 v1.i0), .v (.int .u32 v1.i1), .v (.int .u32 v1.i2), .v (.int .u32 v1.i3), .v (.int .u32 v1.i4), .v (.int .u32 v1.i5), .v (.int .u32 v1.i6), .v (.int .u32 v1.i7), .v (.int .u32 v1.i8), .v (.int .u32 v1.i9), .v (.int .u32 v1.i10), .v (.int .u32 v1.i11), .v (.int .u32 v1.i12), .v (.int .u32 v1.i13), .v (.int .u32 v1.i14), .v (.int .u32 v1.i15)] 65)]) (fun q => q.1.1) ⟨(k, ((IntKind.u32.wrap v2), 0)), H3⟩ ?_ ?_
              · exact At.into [(118, 108), (119, 109)] [_, _] rfl ⟨rfl, rfl, rfl, rfl, rfl, rfl, trivial⟩ ⟨rfl, (blk_ren rfl rfl), rfl, (blk_ren rfl rfl), trivial⟩ rfl
              ·
                rintro ⟨⟨n0, v101, v102⟩, H3⟩
                show G _ _ [(0, .a (.c (.p 118 0))), (1, .a (.c (.p 119 0))), (2, .a (.c (.v (.int .i64 v2)))), (3, .a (.c (.v (.int .u32 v101)))), (4, .a (.c (.v (.int .i64 v2)))), (9, .a (.c (.v (.int .i64 v102))))] [(118, some (blk 118 [.v (.int .u32 0), .v (.int .u32 0), .v (.int .u32 0), .v (.int .u32 0), .v (.int .u32 0), .v (.int .u32 0), .v (.int .u32 0), .v (.int .u32 0), .v (.int .u32 0), .v (.int .u32 0), .v (.int .u32 0), .v (.int .u32 0), .v (.int .u32 0), .v (.int .u32 0), .v (.int .u32 0), .v (.int .u32 0)] 65)), (119, some (blk 119 [.v (.int .u32 v1.i0), .v (.int .u32 v1.i1), .v (.int .u32 v1.i2), .v (.int .u32 v1.i3), .v (.int .u32 v1.i4), .v (.int .u32 v1.i5), .v (.int .u32 v1.i6), .v (.int .u32 v1.i7), .v (.int .u32 v1.i8), .v (.int .u32 v1.i9), .v (.int .u32 v1.i10), .v (.int .u32 v1.i11), .v (.int .u32 v1.i12), .v (.int .u32 v1.i13), .v (.int .u32 v1.i14), .v (.int .u32 v1.i15)] 65))] _ _
                cases n0 with
                | zero => exact absurd H3 (by simp [crc_nibbles.l1])
                | succ n0 =>
                  have HL1 := H3
                  rw [crc_nibbles.l1] at H3
                  refine G.seq ?_
                  refine G.rg ?_
                  refine K.bin (V := .bool (decide (v102 < 4))) (gd0 rfl) rfl rfl (fun _ => rfl) rfl ?_
                  refine K.nil ?_
                  refine At.next ?_
                  refine G.seq ?_
                  refine G.cond rfl (fun h2 => ?_) (fun h2 => ?_)
                  ·
                    replace H3 := bif_t H3 h2
                    refine G.skip ?_
                    refine At.next ?_
                    refine G.seq ?_
                    refine G.block ?_
                    refine G.rg ?_
                    refine K.move (.inl rfl) (gd0 rfl) rfl rfl ?_
                    refine K.bin (V := .int .u32 (gshr .u32 v101 1)) (gd0 rfl) rfl rfl (bt_shr _ _ _ _ (by decide)) rfl ?_
                    refine K.move (.inl rfl) (gd0 rfl) rfl rfl ?_
                    refine K.bin (V := .int .u32 (gand .u32 v101 1)) (gd0 rfl) rfl rfl (bt_and _ _ _) rfl ?_
                    refine K.un (V := .int .u32 (IntKind.u32.wrap (0 - (gand .u32 v101 1)))) (gd0 rfl) rfl (fun _ => rfl) rfl ?_
                    refine K.bin (V := .int .u32 (gand .u32 3988292384 (IntKind.u32.wrap (0 - (gand .u32 v101 1))))) (gd0 rfl) rfl rfl (bt_and _ _ _) rfl ?_
                    refine K.bin (V := .int .u32 (gxor .u32 (gshr .u32 v101 1) (gand .u32 3988292384 (IntKind.u32.wrap (0 - (gand .u32 v101 1)))))) (gd0 rfl) rfl rfl (bt_xor _ _ _) rfl ?_
                    refine K.move (.inr rfl) (gd0 rfl) rfl rfl ?_
                    refine K.nil ?_
                    refine At.block_normal ?_
                    refine At.next ?_
                    refine G.rg ?_
                    refine K.bin (V := .int .i64 (w64 (v102 + 1))) (gd0 rfl) rfl rfl (fun _ => rfl) rfl ?_
                    refine K.move (.inl rfl) (gd0 rfl) rfl rfl ?_
                    refine K.nil ?_
                    exact At.ag ⟨(n0, ((gxor .u32 (gshr .u32 v101 1) (gand .u32 3988292384 (IntKind.u32.wrap (0 - (gand .u32 v101 1))))), (w64 (v102 + 1)))), H3⟩ [] [_, _] (Nat.lt_succ_self _) rfl ⟨rfl, rfl, rfl, rfl, rfl, rfl, trivial⟩ ⟨rfl, (blk_ren rfl rfl), rfl, (blk_ren rfl rfl), trivial⟩ rfl
                  ·
                    replace H3 := bif_f H3 h2
                    refine G.exit ?_
                    refine At.over_exit ?_
                    refine At.over_exit ?_
                    refine At.block_hit ?_
                    exact At.jd ⟨v101, oi H3⟩ [(112, 118), (113, 119)] [_, _] rfl ⟨rfl, rfl, rfl, rfl, rfl, trivial⟩ ⟨rfl, (blk_ren rfl rfl), rfl, (blk_ren rfl rfl), trivial⟩ rfl
            ·
              rintro ⟨_, rfl⟩
              show G _ _ [(0, .a (.c (.p 112 0))), (1, .a (.c (.p 113 0))), (2, .a (.c (.v (.int .i64 v2)))), (3, .a (.c (.v (.int .u32 x3)))), (4, .a (.c (.v (.int .i64 v2))))] [(112, some (blk 112 [.v (.int .u32 0), .v (.int .u32 0), .v (.int .u32 0), .v (.int .u32 0), .v (.int .u32 0), .v (.int .u32 0), .v (.int .u32 0), .v (.int .u32 0), .v (.int .u32 0), .v (.int .u32 0), .v (.int .u32 0), .v (.int .u32 0), .v (.int .u32 0), .v (.int .u32 0), .v (.int .u32 0), .v (.int .u32 0)] 65)), (113, some (blk 113 [.v (.int .u32 v1.i0), .v (.int .u32 v1.i1), .v (.int .u32 v1.i2), .v (.int .u32 v1.i3), .v (.int .u32 v1.i4), .v (.int .u32 v1.i5), .v (.int .u32 v1.i6), .v (.int .u32 v1.i7), .v (.int .u32 v1.i8), .v (.int .u32 v1.i9), .v (.int .u32 v1.i10), .v (.int .u32 v1.i11), .v (.int .u32 v1.i12), .v (.int .u32 v1.i13), .v (.int .u32 v1.i14), .v (.int .u32 v1.i15)] 65))] _ _
              obtain ⟨x4, hx4, H2⟩ := bnd H2
              refine G.rg ?_
              refine K.move (.inl rfl) (gd0 rfl) rfl rfl ?_
              refine K.move (.inl rfl) (gd0 rfl) rfl rfl ?_
              refine K.idxD (off' := v2.toNat) _ tA65 (atL_lt hx4).1 (atL_lt hx4).2 (gd0 rfl) rfl rfl (by omega) rfl ?_
              refine K.store Y _ (gd0 rfl) rfl rfl rfl t37 rfl rfl rfl (TArr16Int_st_u32 v1 x3 _ (atL_lt hx4).2) (Nat.ble_eq_true_of_le (atL_lt hx4).2) ?_
              refine K.nil ?_
              refine At.block_normal ?_
              exact At.jd ⟨(TArr16Int.st v1 v2.toNat x3), oi H2⟩ [(110, 112), (111, 113)] [_, _] rfl ⟨rfl, rfl, rfl, trivial⟩ ⟨rfl, (blk_ren rfl rfl), rfl, (blk_ren rfl rfl), trivial⟩ rfl
          ·
            rintro ⟨_, rfl⟩
            show G _ _ [(0, .a (.c (.p 110 0))), (1, .a (.c (.p 111 0))), (4, .a (.c (.v (.int .i64 v2))))] [(110, some (blk 110 [.v (.int .u32 0), .v (.int .u32 0), .v (.int .u32 0), .v (.int .u32 0), .v (.int .u32 0), .v (.int .u32 0), .v (.int .u32 0), .v (.int .u32 0), .v (.int .u32 0), .v (.int .u32 0), .v (.int .u32 0), .v (.int .u32 0), .v (.int .u32 0), .v (.int .u32 0), .v (.int .u32 0), .v (.int .u32 0)] 65)), (111, some (blk 111 [.v (.int .u32 x2.i0), .v (.int .u32 x2.i1), .v (.int .u32 x2.i2), .v (.int .u32 x2.i3), .v (.int .u32 x2.i4), .v (.int .u32 x2.i5), .v (.int .u32 x2.i6), .v (.int .u32 x2.i7), .v (.int .u32 x2.i8), .v (.int .u32 x2.i9), .v (.int .u32 x2.i10), .v (.int .u32 x2.i11), .v (.int .u32 x2.i12), .v (.int .u32 x2.i13), .v (.int .u32 x2.i14), .v (.int .u32 x2.i15)] 65))] _ _
            refine G.rg ?_
            refine K.bin (V := .int .i64 (w64 (v2 + 1))) (gd0 rfl) rfl rfl (fun _ => rfl) rfl ?_
            refine K.move (.inl rfl) (gd0 rfl) rfl rfl ?_
            refine K.nil ?_
            exact At.ag ⟨(n0, (x2, (w64 (v2 + 1)))), H1⟩ [(108, 110), (109, 111)] [_, _] (Nat.lt_succ_self _) rfl ⟨rfl, rfl, rfl, trivial⟩ ⟨rfl, (blk_ren rfl rfl), rfl, (blk_ren rfl rfl), trivial⟩ rfl
        ·
          replace H1 := bif_f H1 h1
          refine G.exit ?_
          refine At.over_exit ?_
          refine At.over_exit ?_
          refine At.block_hit ?_
          exact At.jd ⟨v1, oi H1⟩ [(102, 108), (103, 109)] [_, _] rfl ⟨rfl, rfl, trivial⟩ ⟨rfl, (blk_ren rfl rfl), rfl, (blk_ren rfl rfl), trivial⟩ rfl
  ·
    rintro ⟨_, rfl⟩
    show G _ _ [(0, .a (.c (.p 102 0))), (1, .a (.c (.p 103 0)))] [(102, some (blk 102 [.v (.int .u32 0), .v (.int .u32 0), .v (.int .u32 0), .v (.int .u32 0), .v (.int .u32 0), .v (.int .u32 0), .v (.int .u32 0), .v (.int .u32 0), .v (.int .u32 0), .v (.int .u32 0), .v (.int .u32 0), .v (.int .u32 0), .v (.int .u32 0), .v (.int .u32 0), .v (.int .u32 0), .v (.int .u32 0)] 65)), (103, some (blk 103 [.v (.int .u32 x1.i0), .v (.int .u32 x1.i1), .v (.int .u32 x1.i2), .v (.int .u32 x1.i3), .v (.int .u32 x1.i4), .v (.int .u32 x1.i5), .v (.int .u32 x1.i6), .v (.int .u32 x1.i7), .v (.int .u32 x1.i8), .v (.int .u32 x1.i9), .v (.int .u32 x1.i10), .v (.int .u32 x1.i11), .v (.int .u32 x1.i12), .v (.int .u32 x1.i13), .v (.int .u32 x1.i14), .v (.int .u32 x1.i15)] 65))] _ _
    refine G.seq ?_
    refine G.rg ?_
    refine K.loadS Y [_, _, _, _, _, _, _, _, _, _, _, _, _, _, _, _] (gd0 rfl) rfl rfl t65 rfl rfl rfl ?_
    refine K.store Y [_, _, _, _, _, _, _, _, _, _, _, _, _, _, _, _] (gd0 rfl) rfl rfl rfl t65 rfl rfl rfl rfl rfl ?_
    refine K.nil ?_
    refine At.next ?_
    refine G.ret ?_
    refine At.done Y [(.cell 0 65, .agg [_, _, _, _, _, _, _, _, _, _, _, _, _, _, _, _])] rfl ⟨.st rfl rfl t65 rfl rfl, trivial⟩ (to' := []) trivial ?_ ?_ rfl rfl rfl (.inl rfl)
    · cases H0; rfl
    · cases H0; rfl
theorem crc_nibbles_con {k : Nat}  {r : TArr16Int}  (H0 : crc_nibbles.f k = some r) : crc_nibbles_st r :=
  SCon.ren (rn []) (crc_nibbles_con0 (k := k)   H0) trivial trivial (by simp) (by simp)
abbrev crc_More_st (S : Foot) (W0 : World) (s1 : Value) (a0 : Int) (r : Int) : Prop := SCon Try.prog 26 [.a (.c (.v (.int .u32 a0))), SV.raw s1] [(0, rd S W0)] (.a (.c (.v (.int .u32 r)))) [(0, rd S W0)] []
theorem crc_More_con0 {k : Nat}  {S : Foot} {W0 : World} {s1 : Value} {a0 : Int} {l1 : List Int} {r : Int} (hL1 : LArg S W0 s1 u8E 1 l1) (H0 : crc_More.f k a0 l1 = some r) : crc_More_st S W0 s1 a0 r := by
  rw [crc_More.f] at H0
  obtain ⟨b1, o1, hI1⟩ := hL1
  refine spec_of [(0, _), (1, _)] [(0, _)] 38 Try.func26 rfl Try.ntmps26 rfl rfl rfl rfl (fun β W F => ?_)
  refine G.seq ?_
  refine G.rg ?_
  refine K.move (.inr rfl) (gd0 rfl) rfl rfl ?_
  refine K.nil ?_
  refine At.next ?_
  refine G.seq ?_
  obtain ⟨x1, hx1, H0⟩ := bnd H0
  refine G.rg ?_
  refine K.cR (cf 39 rfl) (crc_nibbles_con (k := k) hx1) (gd0 rfl) rfl rfl rfl rfl ?_
  refine K.alloc Y 100 [_, _, _, _, _, _, _, _, _, _, _, _, _, _, _, _] (gd0 rfl) t65 rfl rfl rfl rfl rfl ?_
  refine K.store Y [_, _, _, _, _, _, _, _, _, _, _, _, _, _, _, _] (gd0 rfl) rfl rfl rfl t65 rfl rfl rfl rfl rfl ?_
  refine K.nil ?_
  refine At.next ?_
  refine G.seq ?_
  refine G.rg ?_
  refine K.move (.inl rfl) (gd0 rfl) rfl rfl ?_
  refine K.un (V := .int .u32 (gcom .u32 a0)) (gd0 rfl) rfl (bt_com _ _) rfl ?_
  refine K.move (.inr rfl) (gd0 rfl) rfl rfl ?_
  refine K.nil ?_
  refine At.next ?_
  obtain ⟨x2, H1, H0⟩ := bnd H0
  refine G.sJ (σ := { v : Int // x2 = v }) (fun q => [(0, .a (.c (.v (.int .u32 q.1))))]) (fun q => [(0, rd S W0)]) ?_ ?_
  ·
    refine G.seq ?_
    refine G.rg ?_
    refine K.move (.inl rfl) (gd0 rfl) rfl rfl ?_
    refine K.lenL (rV 0 S W0 s1 b1 o1 u8E 1 l1) (hI1.is 0) (gd0 rfl) rfl rfl Try.underlying36 rfl ?_
    refine K.move (.inl rfl) (gd0 rfl) rfl rfl ?_
    refine K.nil ?_
    refine At.next ?_
    refine G.block ?_
    refine G.lp (σ := { q : Nat × (Int × Int) // crc_More.l0 k l1 x1 q.1 q.2 = some x2 }) (fun q => [(0, .a (.c (.v (.int .u32 q.1.2.1)))), (5, .a (.c (.p 103 0))), (11, SV.raw s1), (12, .a (.c (.v (.int .i64 (l1.length : Int))))), (13, .a (.c (.v (.int .i64 q.1.2.2))))]) (fun q => [(0, rd S W0), (103, blk 103 [.v (.int .u32 x1.i0), .v (.int .u32 x1.i1), .v (.int .u32 x1.i2), .v (.int .u32 x1.i3), .v (.int .u32 x1.i4), .v (.int .u32 x1.i5), .v (.int .u32 x1.i6), .v (.int .u32 x1.i7), .v (.int .u32 x1.i8), .v (.int .u32 x1.i9), .v (.int .u32 x1.i10), .v (.int .u32 x1.i11), .v (.int .u32 x1.i12), .v (.int .u32 x1.i13), .v (.int .u32 x1.i14), .v (.int .u32 x1.i15)] 65)]) (fun q => q.1.1) ⟨(k, ((gcom .u32 a0), 0)), H1⟩ ?_ ?_
    · exact At.into [(103, 100)] [_, _] rfl ⟨rfl, rfl, rfl, rfl, rfl, trivial⟩ ⟨rfl, (fun _ => rfl), rfl, (blk_ren rfl rfl), trivial⟩ rfl
    ·
      rintro ⟨⟨n0, v1, v2⟩, H1⟩
      show G _ _ [(0, .a (.c (.v (.int .u32 v1)))), (5, .a (.c (.p 103 0))), (11, SV.raw s1), (12, .a (.c (.v (.int .i64 (l1.length : Int))))), (13, .a (.c (.v (.int .i64 v2))))] [(0, some (rd S W0)), (103, some (blk 103 [.v (.int .u32 x1.i0), .v (.int .u32 x1.i1), .v (.int .u32 x1.i2), .v (.int .u32 x1.i3), .v (.int .u32 x1.i4), .v (.int .u32 x1.i5), .v (.int .u32 x1.i6), .v (.int .u32 x1.i7), .v (.int .u32 x1.i8), .v (.int .u32 x1.i9), .v (.int .u32 x1.i10), .v (.int .u32 x1.i11), .v (.int .u32 x1.i12), .v (.int .u32 x1.i13), .v (.int .u32 x1.i14), .v (.int .u32 x1.i15)] 65))] _ _
      cases n0 with
      | zero => exact absurd H1 (by simp [crc_More.l0])
      | succ n0 =>
        have HL0 := H1
        rw [crc_More.l0] at H1
        refine G.seq ?_
        refine G.rg ?_
        refine K.bin (V := .bool (decide (v2 < (l1.length : Int)))) (gd0 rfl) rfl rfl (fun _ => rfl) rfl ?_
        refine K.nil ?_
        refine At.next ?_
        refine G.seq ?_
        refine G.cond rfl (fun h1 => ?_) (fun h1 => ?_)
        ·
          replace H1 := bif_t H1 h1
          refine G.skip ?_
          refine At.next ?_
          refine G.seq ?_
          refine G.block ?_
          refine G.seq ?_
          obtain ⟨x3, hx3, H1⟩ := bnd H1
          refine G.rg ?_
          refine K.idxL (rV 0 S W0 s1 b1 o1 u8E 1 l1) ((v2).toNat) (hI1.is 0) (atL_get hx3) (atL_nn hx3) (gd0 rfl) rfl rfl rfl Try.underlying36 el36.size_run rfl ?_
          refine K.load1L Y (rV 0 S W0 s1 b1 o1 u8E 1 l1) ((v2).toNat) 0 (hI1.is 0) (atL_get hx3) (gd0 rfl) rfl rfl t5 rfl rfl ?_
          refine K.move (.inr rfl) (gd0 rfl) rfl rfl ?_
          refine K.nil ?_
          refine At.next ?_
          refine G.seq ?_
          refine G.rg ?_
          refine K.move (.inl rfl) (gd0 rfl) rfl rfl ?_
          refine K.move (.inl rfl) (gd0 rfl) rfl rfl ?_
          refine K.conv (V := .int .u32 (IntKind.u32.wrap x3)) (gd0 rfl) rfl (cv_int (by rw [Try.underlying5]; rfl) Try.underlying37) rfl ?_
          refine K.bin (V := .int .u32 (gxor .u32 v1 (IntKind.u32.wrap x3))) (gd0 rfl) rfl rfl (bt_xor _ _ _) rfl ?_
          refine K.move (.inr rfl) (gd0 rfl) rfl rfl ?_
          refine K.nil ?_
          refine At.next ?_
          refine G.seq ?_
          obtain ⟨x4, hx4, H1⟩ := bnd H1
          refine G.rg ?_
          refine K.move (.inl rfl) (gd0 rfl) rfl rfl ?_
          refine K.bin (V := .int .u32 (gshr .u32 (gxor .u32 v1 (IntKind.u32.wrap x3)) 4)) (gd0 rfl) rfl rfl (bt_shr _ _ _ _ (by decide)) rfl ?_
          refine K.move (.inl rfl) (gd0 rfl) rfl rfl ?_
          refine K.bin (V := .int .u32 (gand .u32 (gxor .u32 v1 (IntKind.u32.wrap x3)) 15)) (gd0 rfl) rfl rfl (bt_and _ _ _) rfl ?_
          refine K.idxD (off' := (gand .u32 (gxor .u32 v1 (IntKind.u32.wrap x3)) 15).toNat) _ tA65 (atL_lt hx4).1 (atL_lt hx4).2 (gd0 rfl) rfl rfl (by omega) rfl ?_
          refine K.load1 Y (gd0 rfl) rfl rfl t37 (cells_at (f := fun z => .v (.int .u32 z)) hx4) rfl ?_
          refine K.bin (V := .int .u32 (gxor .u32 (gshr .u32 (gxor .u32 v1 (IntKind.u32.wrap x3)) 4) x4)) (gd0 rfl) rfl rfl (bt_xor _ _ _) rfl ?_
          refine K.move (.inr rfl) (gd0 rfl) rfl rfl ?_
          refine K.nil ?_
          refine At.next ?_
          obtain ⟨x5, hx5, H1⟩ := bnd H1
          refine G.rg ?_
          refine K.move (.inl rfl) (gd0 rfl) rfl rfl ?_
          refine K.bin (V := .int .u32 (gshr .u32 (gxor .u32 (gshr .u32 (gxor .u32 v1 (IntKind.u32.wrap x3)) 4) x4) 4)) (gd0 rfl) rfl rfl (bt_shr _ _ _ _ (by decide)) rfl ?_
          refine K.move (.inl rfl) (gd0 rfl) rfl rfl ?_
          refine K.bin (V := .int .u32 (gand .u32 (gxor .u32 (gshr .u32 (gxor .u32 v1 (IntKind.u32.wrap x3)) 4) x4) 15)) (gd0 rfl) rfl rfl (bt_and _ _ _) rfl ?_
          refine K.idxD (off' := (gand .u32 (gxor .u32 (gshr .u32 (gxor .u32 v1 (IntKind.u32.wrap x3)) 4) x4) 15).toNat) _ tA65 (atL_lt hx5).1 (atL_lt hx5).2 (gd0 rfl) rfl rfl (by omega) rfl ?_
          refine K.load1 Y (gd0 rfl) rfl rfl t37 (cells_at (f := fun z => .v (.int .u32 z)) hx5) rfl ?_
          refine K.bin (V := .int .u32 (gxor .u32 (gshr .u32 (gxor .u32 (gshr .u32 (gxor .u32 v1 (IntKind.u32.wrap x3)) 4) x4) 4) x5)) (gd0 rfl) rfl rfl (bt_xor _ _ _) rfl ?_
          refine K.move (.inr rfl) (gd0 rfl) rfl rfl ?_
          refine K.nil ?_
          refine At.block_normal ?_
          refine At.next ?_
          refine G.rg ?_
          refine K.bin (V := .int .i64 (w64 (v2 + 1))) (gd0 rfl) rfl rfl (fun _ => rfl) rfl ?_
          refine K.move (.inl rfl) (gd0 rfl) rfl rfl ?_
          refine K.nil ?_
          exact At.ag ⟨(n0, ((gxor .u32 (gshr .u32 (gxor .u32 (gshr .u32 (gxor .u32 v1 (IntKind.u32.wrap x3)) 4) x4) 4) x5), (w64 (v2 + 1)))), H1⟩ [] [_, _] (Nat.lt_succ_self _) rfl ⟨rfl, rfl, rfl, rfl, rfl, trivial⟩ ⟨rfl, (fun _ => rfl), rfl, (blk_ren rfl rfl), trivial⟩ rfl
        ·
          replace H1 := bif_f H1 h1
          refine G.exit ?_
          refine At.over_exit ?_
          refine At.over_exit ?_
          refine At.block_hit ?_
          exact At.jd ⟨v1, oi H1⟩ [] [_] rfl ⟨rfl, trivial⟩ ⟨rfl, (fun _ => rfl), trivial⟩ rfl
  ·
    rintro ⟨_, rfl⟩
    show G _ _ [(0, .a (.c (.v (.int .u32 x2))))] [(0, some (rd S W0))] _ _
    refine G.seq ?_
    refine G.rg ?_
    refine K.move (.inl rfl) (gd0 rfl) rfl rfl ?_
    refine K.un (V := .int .u32 (gcom .u32 x2)) (gd0 rfl) rfl (bt_com _ _) rfl ?_
    refine K.move (.inr rfl) (gd0 rfl) rfl rfl ?_
    refine K.nil ?_
    refine At.next ?_
    refine G.ret ?_
    exact At.dr Y [4] rfl rfl (by cases H0; rfl) (by cases H0; rfl) rfl rfl rfl
theorem crc_More_con {k : Nat}  {S : Foot} {W0 : World} {s1 : Value} {a0 : Int} {l1 : List Int} {r : Int} (hL1 : LArg S W0 s1 u8E 1 l1) (H0 : crc_More.f k a0 l1 = some r) : crc_More_st S W0 s1 a0 r :=
  SCon.ren (rn []) (crc_More_con0 (k := k)  hL1 H0) ⟨(fun _ => rfl), trivial⟩ ⟨(fun _ => rfl), trivial⟩ (by simp) (by simp)
abbrev crc_Sum_st (S : Foot) (W0 : World) (s0 : Value) (r : Int) : Prop := SCon Try.prog 24 [SV.raw s0] [(0, rd S W0)] (.a (.c (.v (.int .u32 r)))) [(0, rd S W0)] []
theorem crc_Sum_con0 {k : Nat}  {S : Foot} {W0 : World} {s0 : Value} {l0 : List Int} {r : Int} (hL0 : LArg S W0 s0 u8E 1 l0) (H0 : crc_Sum.f k l0 = some r) : crc_Sum_st S W0 s0 r := by
  rw [crc_Sum.f] at H0
  obtain ⟨b0, o0, hI0⟩ := hL0
  refine spec_of [(0, _)] [(0, _)] 5 Try.func24 rfl Try.ntmps24 rfl rfl rfl rfl (fun β W F => ?_)
  refine G.seq ?_
  refine G.rg ?_
  refine K.move (.inr rfl) (gd0 rfl) rfl rfl ?_
  refine K.nil ?_
  refine At.next ?_
  refine G.seq ?_
  obtain ⟨x1, hx1, H0⟩ := bnd H0
  refine G.rg ?_
  refine K.move (.inl rfl) (gd0 rfl) rfl rfl ?_
  refine K.cV (cf 26 rfl) [0] (fun β w S2 h => crc_More_con (k := k) ((hI0.isC 0).larg ⟨_, List.mem_cons_self⟩ h) hx1) (gd0 rfl) (fun _ => rfl) rfl rfl rfl ?_
  refine K.move (.inr rfl) (gd0 rfl) rfl rfl ?_
  refine K.nil ?_
  refine At.next ?_
  refine G.ret ?_
  exact At.dr Y [2] rfl rfl (by cases H0; rfl) (by cases H0; rfl) rfl rfl rfl
theorem crc_Sum_con {k : Nat}  {S : Foot} {W0 : World} {s0 : Value} {l0 : List Int} {r : Int} (hL0 : LArg S W0 s0 u8E 1 l0) (H0 : crc_Sum.f k l0 = some r) : crc_Sum_st S W0 s0 r :=
  SCon.ren (rn []) (crc_Sum_con0 (k := k)  hL0 H0) ⟨(fun _ => rfl), trivial⟩ ⟨(fun _ => rfl), trivial⟩ (by simp) (by simp)
abbrev R01_Rest_st (a0 : Int) (a1 : Int) (r : Int) : Prop := SCon Try.prog 20 [.a (.c (.v (.int .i64 a0))), .a (.c (.v (.int .i64 a1)))] [] (.a (.c (.v (.int .i64 r)))) [] []
theorem R01_Rest_con0 {k : Nat}  {a0 : Int} {a1 : Int} {r : Int}  (H0 : R01_Rest.f k a0 a1 = some r) : R01_Rest_st a0 a1 r := by
  rw [R01_Rest.f] at H0
  refine spec_of [(0, _), (1, _)] [] 12 Try.func20 rfl Try.ntmps20 rfl rfl rfl rfl (fun β W F => ?_)
  refine G.seq ?_
  refine G.rg ?_
  refine K.move (.inr rfl) (gd0 rfl) rfl rfl ?_
  refine K.nil ?_
  refine At.next ?_
  refine G.seq ?_
  obtain ⟨h1, H0⟩ := grd H0
  obtain ⟨h2, H0⟩ := grd H0
  refine G.rg ?_
  refine K.move (.inl rfl) (gd0 rfl) rfl rfl ?_
  refine K.move (.inl rfl) (gd0 rfl) rfl rfl ?_
  refine K.bin (V := .int .i64 (a0.tmod a1)) (gd0 rfl) rfl rfl (rem_run h1) rfl ?_
  refine K.move (.inl rfl) (gd0 rfl) rfl rfl ?_
  refine K.bin (V := .int .i64 (w64 ((a0.tmod a1) + a1))) (gd0 rfl) rfl rfl (fun _ => rfl) rfl ?_
  refine K.move (.inl rfl) (gd0 rfl) rfl rfl ?_
  refine K.bin (V := .int .i64 ((w64 ((a0.tmod a1) + a1)).tmod a1)) (gd0 rfl) rfl rfl (rem_run h2) rfl ?_
  refine K.move (.inr rfl) (gd0 rfl) rfl rfl ?_
  refine K.nil ?_
  refine At.next ?_
  refine G.ret ?_
  exact At.dr Y [4] rfl rfl (by cases H0; rfl) (by cases H0; rfl) rfl rfl rfl
theorem R01_Rest_con {k : Nat}  {a0 : Int} {a1 : Int} {r : Int}  (H0 : R01_Rest.f k a0 a1 = some r) : R01_Rest_st a0 a1 r :=
  SCon.ren (rn []) (R01_Rest_con0 (k := k)   H0) trivial trivial (by simp) (by simp)
abbrev R18_Sum_st (a0 : ByteArray) (r : Int) : Prop := SCon Try.prog 25 [.a (.c (.v (.string a0)))] [] (.a (.c (.v (.int .u32 r)))) [] []
theorem R18_Sum_con0 {k : Nat}  {a0 : ByteArray} {r : Int}  (H0 : R18_Sum.f k a0 = some r) : R18_Sum_st a0 r := by
  rw [R18_Sum.f] at H0
  refine spec_of [(0, _)] [] 33 Try.func25 rfl Try.ntmps25 rfl rfl rfl rfl (fun β W F => ?_)
  refine G.seq ?_
  refine G.rg ?_
  refine K.move (.inr rfl) (gd0 rfl) rfl rfl ?_
  refine K.nil ?_
  refine At.next ?_
  refine G.seq ?_
  refine G.rg ?_
  refine K.move (.inr rfl) (gd0 rfl) rfl rfl ?_
  refine K.nil ?_
  refine At.next ?_
  obtain ⟨x1, H1, H0⟩ := bnd H0
  refine G.sJ (σ := { v : Int // x1 = v }) (fun q => [(3, .a (.c (.v (.int .u32 q.1))))]) (fun q => []) ?_ ?_
  ·
    refine G.seq ?_
    refine G.rg ?_
    refine K.move (.inr rfl) (gd0 rfl) rfl rfl ?_
    refine K.nil ?_
    refine At.next ?_
    refine G.block ?_
    refine G.lp (σ := { q : Nat × (Int × Int) // R18_Sum.l0 k a0 q.1 q.2 = some x1 }) (fun q => [(0, .a (.c (.v (.string a0)))), (3, .a (.c (.v (.int .u32 q.1.2.1)))), (4, .a (.c (.v (.int .i64 q.1.2.2))))]) (fun q => []) (fun q => q.1.1) ⟨(k, (4294967295, 0)), H1⟩ ?_ ?_
    · exact At.into [] [] rfl ⟨rfl, rfl, rfl, trivial⟩ trivial rfl
    ·
      rintro ⟨⟨n0, v1, v2⟩, H1⟩
      show G _ _ [(0, .a (.c (.v (.string a0)))), (3, .a (.c (.v (.int .u32 v1)))), (4, .a (.c (.v (.int .i64 v2))))] [] _ _
      cases n0 with
      | zero => exact absurd H1 (by simp [R18_Sum.l0])
      | succ n0 =>
        have HL0 := H1
        rw [R18_Sum.l0] at H1
        refine G.seq ?_
        refine G.seq ?_
        refine G.rg ?_
        refine K.move (.inl rfl) (gd0 rfl) rfl rfl ?_
        refine K.move (.inl rfl) (gd0 rfl) rfl rfl ?_
        refine K.bi1 (X := SV.raw (.string a0)) (V := .int .i64 (a0.size : Int)) (gd0 rfl) rfl (fun _ _ w => lenStr Try.underlying9 _ w) rfl ?_
        refine K.bin (V := .bool (decide (v2 < (a0.size : Int)))) (gd0 rfl) rfl rfl (fun _ => rfl) rfl ?_
        refine K.nil ?_
        refine At.next ?_
        refine G.cond rfl (fun h1 => ?_) (fun h1 => ?_)
        ·
          replace H1 := bif_t H1 h1
          refine G.skip ?_
          refine At.next ?_
          obtain ⟨x2, H2, H1⟩ := bnd H1
          refine G.sJ (σ := { v : Int // x2 = v }) (fun q => [(0, .a (.c (.v (.string a0)))), (3, .a (.c (.v (.int .u32 q.1)))), (4, .a (.c (.v (.int .i64 v2))))]) (fun q => []) ?_ ?_
          ·
            refine G.block ?_
            refine G.seq ?_
            obtain ⟨x3, hx3, H2⟩ := bnd H2
            refine G.rg ?_
            refine K.move (.inl rfl) (gd0 rfl) rfl rfl ?_
            refine K.move (.inl rfl) (gd0 rfl) rfl rfl ?_
            refine K.move (.inl rfl) (gd0 rfl) rfl rfl ?_
            refine K.sidx (gd0 rfl) rfl rfl (bAt_run Try.underlying9 hx3) rfl ?_
            refine K.conv (V := .int .u32 (IntKind.u32.wrap x3)) (gd0 rfl) rfl (cv_int (by rw [Try.underlying5]; rfl) Try.underlying37) rfl ?_
            refine K.bin (V := .int .u32 (gxor .u32 v1 (IntKind.u32.wrap x3))) (gd0 rfl) rfl rfl (bt_xor _ _ _) rfl ?_
            refine K.move (.inr rfl) (gd0 rfl) rfl rfl ?_
            refine K.nil ?_
            refine At.next ?_
            refine G.seq ?_
            refine G.rg ?_
            refine K.move (.inr rfl) (gd0 rfl) rfl rfl ?_
            refine K.nil ?_
            refine At.next ?_
            refine G.block ?_
            refine G.lp (σ := { q : Nat × (Int × Int) // R18_Sum.l1 k q.1 q.2 = some x2 }) (fun q => [(0, .a (.c (.v (.string a0)))), (3, .a (.c (.v (.int .u32 q.1.2.1)))), (4, .a (.c (.v (.int .i64 v2)))), (5, .a (.c (.v (.int .i64 q.1.2.2))))]) (fun q => []) (fun q => q.1.1) ⟨(k, ((gxor .u32 v1 (IntKind.u32.wrap x3)), 0)), H2⟩ ?_ ?_
            · exact At.into [] [] rfl ⟨rfl, rfl, rfl, rfl, trivial⟩ trivial rfl
            ·
              rintro ⟨⟨n0, v101, v102⟩, H2⟩
              show G _ _ [(0, .a (.c (.v (.string a0)))), (3, .a (.c (.v (.int .u32 v101)))), (4, .a (.c (.v (.int .i64 v2)))), (5, .a (.c (.v (.int .i64 v102))))] [] _ _
              cases n0 with
              | zero => exact absurd H2 (by simp [R18_Sum.l1])
              | succ n0 =>
                have HL1 := H2
                rw [R18_Sum.l1] at H2
                refine G.seq ?_
                refine G.seq ?_
                refine G.rg ?_
                refine K.move (.inl rfl) (gd0 rfl) rfl rfl ?_
                refine K.bin (V := .bool (decide (v102 < 8))) (gd0 rfl) rfl rfl (fun _ => rfl) rfl ?_
                refine K.nil ?_
                refine At.next ?_
                refine G.cond rfl (fun h2 => ?_) (fun h2 => ?_)
                ·
                  replace H2 := bif_t H2 h2
                  refine G.skip ?_
                  refine At.next ?_
                  refine G.seq ?_
                  refine G.block ?_
                  refine G.seq ?_
                  refine G.rg ?_
                  refine K.move (.inl rfl) (gd0 rfl) rfl rfl ?_
                  refine K.bin (V := .int .u32 (gand .u32 v101 1)) (gd0 rfl) rfl rfl (bt_and _ _ _) rfl ?_
                  refine K.move (.inr rfl) (gd0 rfl) rfl rfl ?_
                  refine K.nil ?_
                  refine At.next ?_
                  refine G.seq ?_
                  refine G.rg ?_
                  refine K.move (.inl rfl) (gd0 rfl) rfl rfl ?_
                  refine K.bin (V := .int .u32 (gshr .u32 v101 1)) (gd0 rfl) rfl rfl (bt_shr _ _ _ _ (by decide)) rfl ?_
                  refine K.move (.inr rfl) (gd0 rfl) rfl rfl ?_
                  refine K.nil ?_
                  refine At.next ?_
                  refine G.seq ?_
                  refine G.rg ?_
                  refine K.move (.inl rfl) (gd0 rfl) rfl rfl ?_
                  refine K.bin (V := .bool ((gand .u32 v101 1) == 1)) (gd0 rfl) rfl rfl (fun _ => rfl) rfl ?_
                  refine K.nil ?_
                  refine At.next ?_
                  refine G.cond rfl (fun h3 => ?_) (fun h3 => ?_)
                  ·
                    replace H2 := bif_t H2 h3
                    refine G.rg ?_
                    refine K.move (.inl rfl) (gd0 rfl) rfl rfl ?_
                    refine K.bin (V := .int .u32 (gxor .u32 (gshr .u32 v101 1) 3988292384)) (gd0 rfl) rfl rfl (bt_xor _ _ _) rfl ?_
                    refine K.move (.inr rfl) (gd0 rfl) rfl rfl ?_
                    refine K.nil ?_
                    refine At.block_normal ?_
                    refine At.next ?_
                    refine G.rg ?_
                    refine K.move (.inl rfl) (gd0 rfl) rfl rfl ?_
                    refine K.bin (V := .int .i64 (w64 (v102 + 1))) (gd0 rfl) rfl rfl (fun _ => rfl) rfl ?_
                    refine K.move (.inr rfl) (gd0 rfl) rfl rfl ?_
                    refine K.nil ?_
                    exact At.ag ⟨(n0, ((gxor .u32 (gshr .u32 v101 1) 3988292384), (w64 (v102 + 1)))), H2⟩ [] [] (Nat.lt_succ_self _) rfl ⟨rfl, rfl, rfl, rfl, trivial⟩ trivial rfl
                  ·
                    replace H2 := bif_f H2 h3
                    refine G.skip ?_
                    refine At.block_normal ?_
                    refine At.next ?_
                    refine G.rg ?_
                    refine K.move (.inl rfl) (gd0 rfl) rfl rfl ?_
                    refine K.bin (V := .int .i64 (w64 (v102 + 1))) (gd0 rfl) rfl rfl (fun _ => rfl) rfl ?_
                    refine K.move (.inr rfl) (gd0 rfl) rfl rfl ?_
                    refine K.nil ?_
                    exact At.ag ⟨(n0, ((gshr .u32 v101 1), (w64 (v102 + 1)))), H2⟩ [] [] (Nat.lt_succ_self _) rfl ⟨rfl, rfl, rfl, rfl, trivial⟩ trivial rfl
                ·
                  replace H2 := bif_f H2 h2
                  refine G.exit ?_
                  refine At.over_exit ?_
                  refine At.over_exit ?_
                  refine At.block_hit ?_
                  refine At.block_normal ?_
                  exact At.jd ⟨v101, oi H2⟩ [] [] rfl ⟨rfl, rfl, rfl, trivial⟩ trivial rfl
          ·
            rintro ⟨_, rfl⟩
            show G _ _ [(0, .a (.c (.v (.string a0)))), (3, .a (.c (.v (.int .u32 x2)))), (4, .a (.c (.v (.int .i64 v2))))] [] _ _
            refine G.rg ?_
            refine K.move (.inl rfl) (gd0 rfl) rfl rfl ?_
            refine K.bin (V := .int .i64 (w64 (v2 + 1))) (gd0 rfl) rfl rfl (fun _ => rfl) rfl ?_
            refine K.move (.inr rfl) (gd0 rfl) rfl rfl ?_
            refine K.nil ?_
            exact At.ag ⟨(n0, (x2, (w64 (v2 + 1)))), H1⟩ [] [] (Nat.lt_succ_self _) rfl ⟨rfl, rfl, rfl, trivial⟩ trivial rfl
        ·
          replace H1 := bif_f H1 h1
          refine G.exit ?_
          refine At.over_exit ?_
          refine At.over_exit ?_
          refine At.block_hit ?_
          exact At.jd ⟨v1, oi H1⟩ [] [] rfl ⟨rfl, trivial⟩ trivial rfl
  ·
    rintro ⟨_, rfl⟩
    show G _ _ [(3, .a (.c (.v (.int .u32 x1))))] [] _ _
    refine G.seq ?_
    refine G.rg ?_
    refine K.move (.inl rfl) (gd0 rfl) rfl rfl ?_
    refine K.bin (V := .int .u32 (gxor .u32 x1 4294967295)) (gd0 rfl) rfl rfl (bt_xor _ _ _) rfl ?_
    refine K.move (.inr rfl) (gd0 rfl) rfl rfl ?_
    refine K.nil ?_
    refine At.next ?_
    refine G.ret ?_
    exact At.dr Y [2] rfl rfl (by cases H0; rfl) (by cases H0; rfl) rfl rfl rfl
theorem R18_Sum_con {k : Nat}  {a0 : ByteArray} {r : Int}  (H0 : R18_Sum.f k a0 = some r) : R18_Sum_st a0 r :=
  SCon.ren (rn []) (R18_Sum_con0 (k := k)   H0) trivial trivial (by simp) (by simp)
abbrev frame_little_st (a0 : Int) (a1 : Int) (r : List Int) (m30 : Nat) : Prop := SCon Try.prog 41 [.a (.c (.v (.int .u64 a0))), .a (.c (.v (.int .i64 a1)))] [] (.a (.c (.nv m30))) [(m30, lrow m30 5 u8E 1 r)] [m30]
theorem frame_little_con0 {k : Nat}  {a0 : Int} {a1 : Int} {r : List Int}  (H0 : frame_little.f k a0 a1 = some r) : frame_little_st a0 a1 r 30 := by
  rw [frame_little.f] at H0
  refine spec_of [(0, _), (1, _)] [] 24 Try.func41 rfl Try.ntmps41 rfl rfl rfl rfl (fun β W F => ?_)
  refine G.seq ?_
  refine G.rg ?_
  refine K.nilRow 100 5 u8E 1 (.inl rfl) (gd0 rfl) rfl rfl rfl ?_
  refine K.nil ?_
  refine At.next ?_
  refine G.seq ?_
  obtain ⟨h1, H0⟩ := grd H0
  refine G.rg ?_
  refine K.move (.inl rfl) (gd0 rfl) rfl rfl ?_
  refine K.makeRow Y (f := u8E) 101 (0 : Int) el36 t5 rfl (gd0 rfl) rfl h1.1 h1.2 (by decide) rfl rfl rfl ?_
  refine K.move (.inr rfl) (gd0 rfl) rfl rfl ?_
  refine K.nil ?_
  refine At.next ?_
  obtain ⟨x1, H1, H0⟩ := bnd H0
  refine G.sJ (σ := { v : List Int // x1 = v }) (fun q => [(5, .a (.c (.nv 102)))]) (fun q => [(102, lrow 102 5 u8E 1 q.1)]) ?_ ?_
  ·
    refine G.seq ?_
    refine G.rg ?_
    refine K.move (.inl rfl) (gd0 rfl) rfl rfl ?_
    refine K.lenL (lrowV 101 5 u8E 1 (List.replicate (a1).toNat (0 : Int))) (lrowV_is u8E_len (by decide)) (gd0 rfl) rfl rfl Try.underlying36 rfl ?_
    refine K.move (.inl rfl) (gd0 rfl) rfl rfl ?_
    refine K.nil ?_
    refine At.next ?_
    refine G.block ?_
    refine G.lp (σ := { q : Nat × (List Int × Int) // frame_little.l0 k a0 a1 q.1 q.2 = some x1 }) (fun q => [(0, .a (.c (.v (.int .u64 a0)))), (5, .a (.c (.nv 105))), (10, .a (.c (.v (.int .i64 ((List.replicate (a1).toNat (0 : Int)).length : Int))))), (11, .a (.c (.v (.int .i64 q.1.2.2))))]) (fun q => [(105, lrow 105 5 u8E 1 q.1.2.1)]) (fun q => q.1.1) ⟨(k, ((List.replicate (a1).toNat (0 : Int)), 0)), H1⟩ ?_ ?_
    · exact At.into [(105, 101)] [_] rfl ⟨rfl, rfl, rfl, rfl, trivial⟩ ⟨rfl, (lrow_ren rfl), trivial⟩ rfl
    ·
      rintro ⟨⟨n0, v1, v2⟩, H1⟩
      show G _ _ [(0, .a (.c (.v (.int .u64 a0)))), (5, .a (.c (.nv 105))), (10, .a (.c (.v (.int .i64 ((List.replicate (a1).toNat (0 : Int)).length : Int))))), (11, .a (.c (.v (.int .i64 v2))))] [(105, some (lrow 105 5 u8E 1 v1))] _ _
      cases n0 with
      | zero => exact absurd H1 (by simp [frame_little.l0])
      | succ n0 =>
        have HL0 := H1
        rw [frame_little.l0] at H1
        refine G.seq ?_
        refine G.rg ?_
        refine K.bin (V := .bool (decide (v2 < ((List.replicate (a1).toNat (0 : Int)).length : Int)))) (gd0 rfl) rfl rfl (fun _ => rfl) rfl ?_
        refine K.nil ?_
        refine At.next ?_
        refine G.seq ?_
        refine G.cond rfl (fun h2 => ?_) (fun h2 => ?_)
        ·
          replace H1 := bif_t H1 h2
          refine G.skip ?_
          refine At.next ?_
          refine G.seq ?_
          refine G.block ?_
          refine G.seq ?_
          refine G.rg ?_
          refine K.move (.inl rfl) (gd0 rfl) rfl rfl ?_
          refine K.move (.inr rfl) (gd0 rfl) rfl rfl ?_
          refine K.nil ?_
          refine At.next ?_
          obtain ⟨h3, H1⟩ := grd H1
          obtain ⟨x2, hx2, H1⟩ := bnd H1
          refine G.rg ?_
          refine K.move (.inl rfl) (gd0 rfl) rfl rfl ?_
          refine K.move (.inl rfl) (gd0 rfl) rfl rfl ?_
          refine K.move (.inl rfl) (gd0 rfl) rfl rfl ?_
          refine K.move (.inl rfl) (gd0 rfl) rfl rfl ?_
          refine K.bin (V := .int .i64 (w64 (8 * v2))) (gd0 rfl) rfl rfl (fun _ => rfl) rfl ?_
          refine K.bin (V := .int .u64 (gshr .u64 a0 (w64 (8 * v2)))) (gd0 rfl) rfl rfl (bt_shr _ _ _ _ h3) rfl ?_
          refine K.conv (V := .int .u8 (IntKind.u8.wrap (gshr .u64 a0 (w64 (8 * v2))))) (gd0 rfl) rfl (cv_int (by rw [Try.underlying68]; rfl) Try.underlying5) rfl ?_
          refine K.idxL (lrowV 105 5 u8E 1 v1) ((v2).toNat) (lrowV_is u8E_len (by decide)) (atL_get hx2) (atL_nn hx2) (gd0 rfl) rfl rfl rfl Try.underlying36 el36.size_run rfl ?_
          refine K.storeL Y ((v2).toNat) 0 [_] (IntKind.u8.wrap (gshr .u64 a0 (w64 (8 * v2)))) u8E_len (by decide) (atL_get hx2) (gd0 rfl) rfl rfl rfl t5 rfl rfl rfl rfl rfl rfl ?_
          refine K.nil ?_
          refine At.block_normal ?_
          refine At.next ?_
          refine G.rg ?_
          refine K.bin (V := .int .i64 (w64 (v2 + 1))) (gd0 rfl) rfl rfl (fun _ => rfl) rfl ?_
          refine K.move (.inl rfl) (gd0 rfl) rfl rfl ?_
          refine K.nil ?_
          exact At.ag ⟨(n0, ((v1.set ((v2).toNat) (IntKind.u8.wrap (gshr .u64 a0 (w64 (8 * v2))))), (w64 (v2 + 1)))), H1⟩ [] [_] (Nat.lt_succ_self _) rfl ⟨rfl, rfl, rfl, rfl, trivial⟩ ⟨rfl, (lrow_ren rfl), trivial⟩ rfl
        ·
          replace H1 := bif_f H1 h2
          refine G.exit ?_
          refine At.over_exit ?_
          refine At.over_exit ?_
          refine At.block_hit ?_
          exact At.jd ⟨v1, oi H1⟩ [(102, 105)] [_] rfl ⟨rfl, trivial⟩ ⟨rfl, (lrow_ren rfl), trivial⟩ rfl
  ·
    rintro ⟨_, rfl⟩
    show G _ _ [(5, .a (.c (.nv 102)))] [(102, some (lrow 102 5 u8E 1 x1))] _ _
    refine G.seq ?_
    refine G.rg ?_
    refine K.move (.inl rfl) (gd0 rfl) rfl rfl ?_
    refine K.move (.inr rfl) (gd0 rfl) rfl rfl ?_
    refine K.nil ?_
    refine At.next ?_
    refine G.ret ?_
    refine At.ren (fs' := [(4, .a (.c (.nv 30)))]) (tl := [(30, lrow 30 5 u8E 1 x1)]) [(30, 102)] [_] rfl ⟨rfl, trivial⟩ ⟨rfl, (lrow_ren rfl), trivial⟩ rfl ?_
    exact At.dr Y [4] rfl rfl (by cases H0; rfl) (by cases H0; rfl) rfl rfl rfl
theorem frame_little_con {k : Nat}  {a0 : Int} {a1 : Int} {r : List Int}  (H0 : frame_little.f k a0 a1 = some r) (m30 : Nat) (hd : ndB [m30] = true) : frame_little_st a0 a1 r m30 :=
  SCon.ren (rn [(30, m30)]) (frame_little_con0 (k := k)   H0) trivial ⟨(lrow_ren rfl), trivial⟩ (rn_nd hd rfl rfl) (rn_ks hd rfl rfl rfl)
abbrev slices_Grow_n0_st (a1 : Int) (r : List Int) (m30 : Nat) : Prop := SCon Try.prog 47 [SV.raw (.slice none 0 0), .a (.c (.v (.int .i64 a1)))] [] (.a (.c (.nv m30))) [(m30, lrow m30 5 u8E 1 r)] [m30]
theorem slices_Grow_n0_con0 {k : Nat}  {a1 : Int} {r : List Int}  (H0 : slices_Grow.f k ([] : List Int) a1 = some r) : slices_Grow_n0_st a1 r 30 := by
  rw [slices_Grow.f] at H0
  refine spec_of [(0, _), (1, _)] [] 27 Try.func47 rfl Try.ntmps47 rfl rfl rfl rfl (fun β W F => ?_)
  refine G.seq ?_
  refine G.rg ?_
  refine K.nilRow 100 5 u8E 1 (.inl rfl) (gd0 rfl) rfl rfl rfl ?_
  refine K.nil ?_
  refine At.next ?_
  obtain ⟨x1, H1, H0⟩ := bnd H0
  refine G.sJ (σ := { v : Unit // x1 = v }) (fun q => [(0, SV.raw (.slice none 0 0)), (1, .a (.c (.v (.int .i64 a1))))]) (fun q => []) ?_ ?_
  ·
    refine G.seq ?_
    refine G.rg ?_
    refine K.move (.inl rfl) (gd0 rfl) rfl rfl ?_
    refine K.bin (V := .bool (decide (a1 < 0))) (gd0 rfl) rfl rfl (fun _ => rfl) rfl ?_
    refine K.nil ?_
    refine At.next ?_
    refine G.cond rfl (fun h1 => ?_) (fun h1 => ?_)
    ·
      replace H1 := bif_t H1 h1
      cases H1
    ·
      replace H1 := bif_f H1 h1
      refine G.skip ?_
      exact At.jd ⟨(), oi H1⟩ [] [] rfl ⟨rfl, rfl, trivial⟩ trivial rfl
  ·
    rintro ⟨_, rfl⟩
    show G _ _ [(0, SV.raw (.slice none 0 0)), (1, .a (.c (.v (.int .i64 a1))))] [] _ _
    refine G.seq ?_
    refine G.seq ?_
    refine G.rg ?_
    refine K.move (.inl rfl) (gd0 rfl) rfl rfl ?_
    refine K.move (.inl rfl) (gd0 rfl) rfl rfl ?_
    refine K.bi1 (X := SV.raw (.slice none 0 0)) (V := .int .i64 0) (gd0 rfl) rfl (fun _ _ w => capS Try.underlying36 _ w) rfl ?_
    refine K.move (.inl rfl) (gd0 rfl) rfl rfl ?_
    refine K.bi1 (X := SV.raw (.slice none 0 0)) (V := .int .i64 0) (gd0 rfl) rfl (fun _ _ w => lenS Try.underlying36 _ w) rfl ?_
    refine K.bin (V := .int .i64 (w64 (0 - 0))) (gd0 rfl) rfl rfl (fun _ => rfl) rfl ?_
    refine K.bin (V := .int .i64 (w64 (a1 - (w64 (0 - 0))))) (gd0 rfl) rfl rfl (fun _ => rfl) rfl ?_
    refine K.move (.inr rfl) (gd0 rfl) rfl rfl ?_
    refine K.nil ?_
    refine At.next ?_
    refine G.seq ?_
    refine G.rg ?_
    refine K.move (.inl rfl) (gd0 rfl) rfl rfl ?_
    refine K.bin (V := .bool (decide ((w64 (a1 - (w64 (0 - 0)))) > 0))) (gd0 rfl) rfl rfl (fun _ => rfl) rfl ?_
    refine K.nil ?_
    refine At.next ?_
    refine G.cond rfl (fun h2 => ?_) (fun h2 => ?_)
    ·
      replace H0 := bif_t H0 h2
      obtain ⟨h3, H0⟩ := grd H0
      refine G.rg ?_
      refine K.move (.inl rfl) (gd0 rfl) rfl rfl ?_
      refine K.move (.inl rfl) (gd0 rfl) rfl rfl ?_
      refine K.bi1 (X := SV.raw (.slice none 0 0)) (V := .int .i64 0) (gd0 rfl) rfl (fun _ _ w => capS Try.underlying36 _ w) rfl ?_
      refine K.partN (gd0 rfl) rfl (.at_ rfl (Int.le_refl _) rfl) Try.underlying36 el36.size_run rfl ?_
      refine K.move (.inl rfl) (gd0 rfl) rfl rfl ?_
      refine K.appZ Y (f := u8E) 101 (0 : Int) el36 t5 rfl Try.underlying3 (gd0 rfl) rfl rfl h3.1 h3.2 (by decide) rfl rfl rfl ?_
      refine K.move (.inl rfl) (gd0 rfl) rfl rfl ?_
      refine K.bi1 (X := SV.raw (.slice none 0 0)) (V := .int .i64 0) (gd0 rfl) rfl (fun _ _ w => lenS Try.underlying36 _ w) rfl ?_
      refine K.cutL 102 0 u8E_len (gd0 rfl) rfl (.at_ rfl (Int.le_refl _) rfl) rfl Try.underlying36 el36.size_run (Nat.zero_le _) rfl rfl rfl rfl ?_
      refine K.move (.inr rfl) (gd0 rfl) rfl rfl ?_
      refine K.nil ?_
      refine At.next ?_
      refine G.seq ?_
      refine G.rg ?_
      refine K.move (.inl rfl) (gd0 rfl) rfl rfl ?_
      refine K.move (.inr rfl) (gd0 rfl) rfl rfl ?_
      refine K.nil ?_
      refine At.next ?_
      refine G.ret ?_
      refine At.ren (fs' := [(4, .a (.c (.nv 30)))]) (tl := [(30, lrow 30 5 u8E 1 ((List.replicate ((w64 (a1 - (w64 (0 - 0))))).toNat (0 : Int)).take 0))]) [(30, 102)] [_] rfl ⟨rfl, trivial⟩ ⟨rfl, (lrow_ren rfl), trivial⟩ rfl ?_
      exact At.dr Y [4] rfl rfl (by cases H0; rfl) (by cases H0; rfl) rfl rfl rfl
    ·
      replace H0 := bif_f H0 h2
      refine G.skip ?_
      refine At.next ?_
      refine G.seq ?_
      refine G.rg ?_
      refine K.move (.inl rfl) (gd0 rfl) rfl rfl ?_
      refine K.nilRowS 103 5 u8E 1 (.inl rfl) (gd0 rfl) rfl rfl rfl rfl ?_
      refine K.nil ?_
      refine At.next ?_
      refine G.ret ?_
      refine At.ren (fs' := [(4, .a (.c (.nv 30)))]) (tl := [(30, lrow 30 5 u8E 1 ([] : List Int))]) [(30, 103)] [_] rfl ⟨rfl, trivial⟩ ⟨rfl, (lrow_ren rfl), trivial⟩ rfl ?_
      exact At.dr Y [4] rfl rfl (by cases H0; rfl) (by cases H0; rfl) rfl rfl rfl
theorem slices_Grow_n0_con {k : Nat}  {a1 : Int} {r : List Int}  (H0 : slices_Grow.f k ([] : List Int) a1 = some r) (m30 : Nat) (hd : ndB [m30] = true) : slices_Grow_n0_st a1 r m30 :=
  SCon.ren (rn [(30, m30)]) (slices_Grow_n0_con0 (k := k)   H0) trivial ⟨(lrow_ren rfl), trivial⟩ (rn_nd hd rfl rfl) (rn_ks hd rfl rfl rfl)
abbrev slices_Concat_st (S : Foot) (W0 : World) (s0 : Value) (r : List Int) (m30 : Nat) : Prop := SCon Try.prog 42 [SV.raw s0] [(0, rd S W0)] (.a (.c (.nv m30))) [(0, rd S W0), (m30, lrow m30 5 u8E 1 r)] [m30]
theorem slices_Concat_con0 {k : Nat}  {S : Foot} {W0 : World} {s0 : Value} {l0 : List (List Int)} {r : List Int} (hL0 : LL S W0 s0 u8E 1 l0) (H0 : slices_Concat.f k l0 = some r) : slices_Concat_st S W0 s0 r 30 := by
  rw [slices_Concat.f] at H0
  obtain ⟨vs0, ⟨b0, o0, hI0⟩, hin0⟩ := hL0
  refine spec_of [(0, _)] [(0, _)] 36 Try.func42 rfl Try.ntmps42 rfl rfl rfl rfl (fun β W F => ?_)
  refine G.seq ?_
  refine G.rg ?_
  refine K.nilRow 100 5 u8E 1 (.inl rfl) (gd0 rfl) rfl rfl rfl ?_
  refine K.nil ?_
  refine At.next ?_
  refine G.seq ?_
  refine G.rg ?_
  refine K.move (.inr rfl) (gd0 rfl) rfl rfl ?_
  refine K.nil ?_
  refine At.next ?_
  obtain ⟨x1, H1, H0⟩ := bnd H0
  refine G.sJ (σ := { v : Int // x1 = v }) (fun q => [(0, SV.raw s0), (3, .a (.c (.v (.int .i64 q.1))))]) (fun q => [(0, rd S W0)]) ?_ ?_
  ·
    refine G.seq ?_
    refine G.rg ?_
    refine K.move (.inl rfl) (gd0 rfl) rfl rfl ?_
    refine K.lenE (rV 0 S W0 s0 b0 o0 vE 1 vs0) (l0.length : Int) (hI0.is 0) hin0.len (gd0 rfl) rfl rfl Try.underlying44 rfl ?_
    refine K.move (.inl rfl) (gd0 rfl) rfl rfl ?_
    refine K.nil ?_
    refine At.next ?_
    refine G.block ?_
    refine G.lp (σ := { q : Nat × (Int × Int) // slices_Concat.l0 k l0 q.1 q.2 = some x1 }) (fun q => [(0, SV.raw s0), (3, .a (.c (.v (.int .i64 q.1.2.1)))), (9, SV.raw s0), (10, .a (.c (.v (.int .i64 (l0.length : Int))))), (11, .a (.c (.v (.int .i64 q.1.2.2))))]) (fun q => [(0, rd S W0)]) (fun q => q.1.1) ⟨(k, (0, 0)), H1⟩ ?_ ?_
    · exact At.into [] [_] rfl ⟨rfl, rfl, rfl, rfl, rfl, trivial⟩ ⟨rfl, (fun _ => rfl), trivial⟩ rfl
    ·
      rintro ⟨⟨n0, v1, v2⟩, H1⟩
      show G _ _ [(0, SV.raw s0), (3, .a (.c (.v (.int .i64 v1)))), (9, SV.raw s0), (10, .a (.c (.v (.int .i64 (l0.length : Int))))), (11, .a (.c (.v (.int .i64 v2))))] [(0, some (rd S W0))] _ _
      cases n0 with
      | zero => exact absurd H1 (by simp [slices_Concat.l0])
      | succ n0 =>
        have HL0 := H1
        rw [slices_Concat.l0] at H1
        refine G.seq ?_
        refine G.rg ?_
        refine K.bin (V := .bool (decide (v2 < (l0.length : Int)))) (gd0 rfl) rfl rfl (fun _ => rfl) rfl ?_
        refine K.nil ?_
        refine At.next ?_
        refine G.seq ?_
        refine G.cond rfl (fun h1 => ?_) (fun h1 => ?_)
        ·
          replace H1 := bif_t H1 h1
          refine G.skip ?_
          refine At.next ?_
          refine G.seq ?_
          refine G.block ?_
          refine G.seq ?_
          obtain ⟨x2, hx2, H1⟩ := bnd H1
          obtain ⟨ao_h2, cap_h2, b_h2, o_h2, hw_h2, hI_h2⟩ := hin0.at hx2
          refine G.rg ?_
          refine K.idxL (rV 0 S W0 s0 b0 o0 vE 1 vs0) ((v2).toNat) (hI0.is 0) hw_h2 (atL_nn hx2) (gd0 rfl) rfl rfl rfl Try.underlying44 el44.size_run rfl ?_
          refine K.load1L Y (rV 0 S W0 s0 b0 o0 vE 1 vs0) ((v2).toNat) 0 (hI0.is 0) hw_h2 (gd0 rfl) rfl rfl t36 rfl rfl ?_
          refine K.move (.inr rfl) (gd0 rfl) rfl rfl ?_
          refine K.nil ?_
          refine At.next ?_
          refine G.seq ?_
          refine G.rg ?_
          refine K.move (.inl rfl) (gd0 rfl) rfl rfl ?_
          refine K.move (.inl rfl) (gd0 rfl) rfl rfl ?_
          refine K.lenL (rV 0 S W0 (Value.slice ao_h2 x2.length cap_h2) b_h2 o_h2 u8E 1 x2) (hI_h2.is 0) (gd0 rfl) rfl rfl Try.underlying36 rfl ?_
          refine K.bin (V := .int .i64 (w64 (v1 + (x2.length : Int)))) (gd0 rfl) rfl rfl (fun _ => rfl) rfl ?_
          refine K.move (.inr rfl) (gd0 rfl) rfl rfl ?_
          refine K.nil ?_
          refine At.next ?_
          refine G.seq ?_
          refine G.rg ?_
          refine K.move (.inl rfl) (gd0 rfl) rfl rfl ?_
          refine K.bin (V := .bool (decide ((w64 (v1 + (x2.length : Int))) < 0))) (gd0 rfl) rfl rfl (fun _ => rfl) rfl ?_
          refine K.nil ?_
          refine At.next ?_
          refine G.cond rfl (fun h4 => ?_) (fun h4 => ?_)
          ·
            replace H1 := bif_t H1 h4
            cases H1
          ·
            replace H1 := bif_f H1 h4
            refine G.skip ?_
            refine At.block_normal ?_
            refine At.next ?_
            refine G.rg ?_
            refine K.bin (V := .int .i64 (w64 (v2 + 1))) (gd0 rfl) rfl rfl (fun _ => rfl) rfl ?_
            refine K.move (.inl rfl) (gd0 rfl) rfl rfl ?_
            refine K.nil ?_
            exact At.ag ⟨(n0, ((w64 (v1 + (x2.length : Int))), (w64 (v2 + 1)))), H1⟩ [] [_] (Nat.lt_succ_self _) rfl ⟨rfl, rfl, rfl, rfl, rfl, trivial⟩ ⟨rfl, (fun _ => rfl), trivial⟩ rfl
        ·
          replace H1 := bif_f H1 h1
          refine G.exit ?_
          refine At.over_exit ?_
          refine At.over_exit ?_
          refine At.block_hit ?_
          exact At.jd ⟨v1, oi H1⟩ [] [_] rfl ⟨rfl, rfl, trivial⟩ ⟨rfl, (fun _ => rfl), trivial⟩ rfl
  ·
    rintro ⟨_, rfl⟩
    show G _ _ [(0, SV.raw s0), (3, .a (.c (.v (.int .i64 x1))))] [(0, some (rd S W0))] _ _
    refine G.seq ?_
    obtain ⟨x3, hx3, H0⟩ := bnd H0
    refine G.rg ?_
    refine K.move (.inl rfl) (gd0 rfl) rfl rfl ?_
    refine K.c0 (cf 47 rfl) (slices_Grow_n0_con (k := k) hx3 101 rfl) (gd0 rfl) rfl rfl rfl rfl ?_
    refine K.move (.inr rfl) (gd0 rfl) rfl rfl ?_
    refine K.nil ?_
    refine At.next ?_
    obtain ⟨x4, H1, H0⟩ := bnd H0
    refine G.sJ (σ := { v : List Int // x4 = v }) (fun q => [(6, .a (.c (.nv 102)))]) (fun q => [(0, rd S W0), (102, lrow 102 5 u8E 1 q.1)]) ?_ ?_
    ·
      refine G.seq ?_
      refine G.rg ?_
      refine K.move (.inl rfl) (gd0 rfl) rfl rfl ?_
      refine K.lenE (rV 0 S W0 s0 b0 o0 vE 1 vs0) (l0.length : Int) (hI0.is 0) hin0.len (gd0 rfl) rfl rfl Try.underlying44 rfl ?_
      refine K.move (.inl rfl) (gd0 rfl) rfl rfl ?_
      refine K.nil ?_
      refine At.next ?_
      refine G.block ?_
      refine G.lp (σ := { q : Nat × (List Int × Int) // slices_Concat.l1 k l0 q.1 q.2 = some x4 }) (fun q => [(6, .a (.c (.nv 105))), (25, SV.raw s0), (26, .a (.c (.v (.int .i64 (l0.length : Int))))), (27, .a (.c (.v (.int .i64 q.1.2.2))))]) (fun q => [(0, rd S W0), (105, lrow 105 5 u8E 1 q.1.2.1)]) (fun q => q.1.1) ⟨(k, (x3, 0)), H1⟩ ?_ ?_
      · exact At.into [(105, 101)] [_, _] rfl ⟨rfl, rfl, rfl, rfl, trivial⟩ ⟨rfl, (fun _ => rfl), rfl, (lrow_ren rfl), trivial⟩ rfl
      ·
        rintro ⟨⟨n0, v101, v102⟩, H1⟩
        show G _ _ [(6, .a (.c (.nv 105))), (25, SV.raw s0), (26, .a (.c (.v (.int .i64 (l0.length : Int))))), (27, .a (.c (.v (.int .i64 v102))))] [(0, some (rd S W0)), (105, some (lrow 105 5 u8E 1 v101))] _ _
        cases n0 with
        | zero => exact absurd H1 (by simp [slices_Concat.l1])
        | succ n0 =>
          have HL1 := H1
          rw [slices_Concat.l1] at H1
          refine G.seq ?_
          refine G.rg ?_
          refine K.bin (V := .bool (decide (v102 < (l0.length : Int)))) (gd0 rfl) rfl rfl (fun _ => rfl) rfl ?_
          refine K.nil ?_
          refine At.next ?_
          refine G.seq ?_
          refine G.cond rfl (fun h5 => ?_) (fun h5 => ?_)
          ·
            replace H1 := bif_t H1 h5
            refine G.skip ?_
            refine At.next ?_
            refine G.seq ?_
            refine G.block ?_
            refine G.seq ?_
            obtain ⟨x5, hx5, H1⟩ := bnd H1
            obtain ⟨ao_h6, cap_h6, b_h6, o_h6, hw_h6, hI_h6⟩ := hin0.at hx5
            refine G.rg ?_
            refine K.idxL (rV 0 S W0 s0 b0 o0 vE 1 vs0) ((v102).toNat) (hI0.is 0) hw_h6 (atL_nn hx5) (gd0 rfl) rfl rfl rfl Try.underlying44 el44.size_run rfl ?_
            refine K.load1L Y (rV 0 S W0 s0 b0 o0 vE 1 vs0) ((v102).toNat) 0 (hI0.is 0) hw_h6 (gd0 rfl) rfl rfl t36 rfl rfl ?_
            refine K.move (.inr rfl) (gd0 rfl) rfl rfl ?_
            refine K.nil ?_
            refine At.next ?_
            obtain ⟨h8, H1⟩ := grd H1
            refine G.rg ?_
            refine K.move (.inl rfl) (gd0 rfl) rfl rfl ?_
            refine K.move (.inl rfl) (gd0 rfl) rfl rfl ?_
            refine K.appendL 106 (rV 0 S W0 (Value.slice ao_h6 x5.length cap_h6) b_h6 o_h6 u8E 1 x5) _ el36 (hI_h6.is 0) u8E_one (gd0 rfl) rfl rfl rfl rfl rfl (ap_m h8) (ap_b h8 (by decide)) rfl rfl rfl rfl rfl rfl ?_
            refine K.move (.inr rfl) (gd0 rfl) rfl rfl ?_
            refine K.nil ?_
            refine At.block_normal ?_
            refine At.next ?_
            refine G.rg ?_
            refine K.bin (V := .int .i64 (w64 (v102 + 1))) (gd0 rfl) rfl rfl (fun _ => rfl) rfl ?_
            refine K.move (.inl rfl) (gd0 rfl) rfl rfl ?_
            refine K.nil ?_
            exact At.ag ⟨(n0, ((v101 ++ x5), (w64 (v102 + 1)))), H1⟩ [(105, 106)] [_, _] (Nat.lt_succ_self _) rfl ⟨rfl, rfl, rfl, rfl, trivial⟩ ⟨rfl, (fun _ => rfl), rfl, (lrow_ren rfl), trivial⟩ rfl
          ·
            replace H1 := bif_f H1 h5
            refine G.exit ?_
            refine At.over_exit ?_
            refine At.over_exit ?_
            refine At.block_hit ?_
            exact At.jd ⟨v101, oi H1⟩ [(102, 105)] [_, _] rfl ⟨rfl, trivial⟩ ⟨rfl, (fun _ => rfl), rfl, (lrow_ren rfl), trivial⟩ rfl
    ·
      rintro ⟨_, rfl⟩
      show G _ _ [(6, .a (.c (.nv 102)))] [(0, some (rd S W0)), (102, some (lrow 102 5 u8E 1 x4))] _ _
      refine G.seq ?_
      refine G.rg ?_
      refine K.move (.inl rfl) (gd0 rfl) rfl rfl ?_
      refine K.move (.inr rfl) (gd0 rfl) rfl rfl ?_
      refine K.nil ?_
      refine At.next ?_
      refine G.ret ?_
      refine At.ren (fs' := [(2, .a (.c (.nv 30)))]) (tl := [(0, rd S W0), (30, lrow 30 5 u8E 1 x4)]) [(30, 102)] [_, _] rfl ⟨rfl, trivial⟩ ⟨rfl, (fun _ => rfl), rfl, (lrow_ren rfl), trivial⟩ rfl ?_
      exact At.dr Y [2] rfl rfl (by cases H0; rfl) (by cases H0; rfl) rfl rfl rfl
theorem slices_Concat_con {k : Nat}  {S : Foot} {W0 : World} {s0 : Value} {l0 : List (List Int)} {r : List Int} (hL0 : LL S W0 s0 u8E 1 l0) (H0 : slices_Concat.f k l0 = some r) (m30 : Nat) (hd : ndB [m30] = true) : slices_Concat_st S W0 s0 r m30 :=
  SCon.ren (rn [(30, m30)]) (slices_Concat_con0 (k := k)  hL0 H0) ⟨(fun _ => rfl), trivial⟩ ⟨(fun _ => rfl), (lrow_ren rfl), trivial⟩ (rn_nd hd rfl rfl) (rn_ks hd rfl rfl rfl)
abbrev frame_Put_st (S : Foot) (W0 : World) (s0 : Value) (r : List Int) (m30 : Nat) : Prop := SCon Try.prog 30 [SV.raw s0] [(0, rd S W0)] (.a (.c (.nv m30))) [(0, rd S W0), (m30, lrow m30 5 u8E 1 r)] [m30]
theorem frame_Put_con0 {k : Nat}  {S : Foot} {W0 : World} {s0 : Value} {l0 : List (List Int)} {r : List Int} (hL0 : LL S W0 s0 u8E 1 l0) (H0 : frame_Put.f k l0 = some r) : frame_Put_st S W0 s0 r 30 := by
  rw [frame_Put.f] at H0
  obtain ⟨vs0, ⟨b0, o0, hI0⟩, hin0⟩ := hL0
  refine spec_of [(0, _)] [(0, _)] 32 Try.func30 rfl Try.ntmps30 rfl rfl rfl rfl (fun β W F => ?_)
  refine G.seq ?_
  refine G.rg ?_
  refine K.nilRow 100 5 u8E 1 (.inl rfl) (gd0 rfl) rfl rfl rfl ?_
  refine K.nil ?_
  refine At.next ?_
  refine G.seq ?_
  refine G.rg ?_
  refine K.nilRow 101 5 u8E 1 (.inl rfl) (gd0 rfl) rfl rfl rfl ?_
  refine K.nil ?_
  refine At.next ?_
  obtain ⟨x1, H1, H0⟩ := bnd H0
  refine G.sJ (σ := { v : List Int // x1 = v }) (fun q => [(3, .a (.c (.nv 102)))]) (fun q => [(0, rd S W0), (102, lrow 102 5 u8E 1 q.1)]) ?_ ?_
  ·
    refine G.seq ?_
    refine G.rg ?_
    refine K.move (.inl rfl) (gd0 rfl) rfl rfl ?_
    refine K.lenE (rV 0 S W0 s0 b0 o0 vE 1 vs0) (l0.length : Int) (hI0.is 0) hin0.len (gd0 rfl) rfl rfl Try.underlying44 rfl ?_
    refine K.move (.inl rfl) (gd0 rfl) rfl rfl ?_
    refine K.nil ?_
    refine At.next ?_
    refine G.block ?_
    refine G.lp (σ := { q : Nat × (List Int × Int) // frame_Put.l0 k l0 q.1 q.2 = some x1 }) (fun q => [(3, .a (.c (.nv 105))), (8, SV.raw s0), (9, .a (.c (.v (.int .i64 (l0.length : Int))))), (10, .a (.c (.v (.int .i64 q.1.2.2))))]) (fun q => [(0, rd S W0), (105, lrow 105 5 u8E 1 q.1.2.1)]) (fun q => q.1.1) ⟨(k, (([] : List Int), 0)), H1⟩ ?_ ?_
    · exact At.into [(105, 101)] [_, _] rfl ⟨rfl, rfl, rfl, rfl, trivial⟩ ⟨rfl, (fun _ => rfl), rfl, (lrow_ren rfl), trivial⟩ rfl
    ·
      rintro ⟨⟨n0, v1, v2⟩, H1⟩
      show G _ _ [(3, .a (.c (.nv 105))), (8, SV.raw s0), (9, .a (.c (.v (.int .i64 (l0.length : Int))))), (10, .a (.c (.v (.int .i64 v2))))] [(0, some (rd S W0)), (105, some (lrow 105 5 u8E 1 v1))] _ _
      cases n0 with
      | zero => exact absurd H1 (by simp [frame_Put.l0])
      | succ n0 =>
        have HL0 := H1
        rw [frame_Put.l0] at H1
        refine G.seq ?_
        refine G.rg ?_
        refine K.bin (V := .bool (decide (v2 < (l0.length : Int)))) (gd0 rfl) rfl rfl (fun _ => rfl) rfl ?_
        refine K.nil ?_
        refine At.next ?_
        refine G.seq ?_
        refine G.cond rfl (fun h1 => ?_) (fun h1 => ?_)
        ·
          replace H1 := bif_t H1 h1
          refine G.skip ?_
          refine At.next ?_
          refine G.seq ?_
          refine G.block ?_
          refine G.seq ?_
          obtain ⟨x2, hx2, H1⟩ := bnd H1
          obtain ⟨ao_h2, cap_h2, b_h2, o_h2, hw_h2, hI_h2⟩ := hin0.at hx2
          refine G.rg ?_
          refine K.idxL (rV 0 S W0 s0 b0 o0 vE 1 vs0) ((v2).toNat) (hI0.is 0) hw_h2 (atL_nn hx2) (gd0 rfl) rfl rfl rfl Try.underlying44 el44.size_run rfl ?_
          refine K.load1L Y (rV 0 S W0 s0 b0 o0 vE 1 vs0) ((v2).toNat) 0 (hI0.is 0) hw_h2 (gd0 rfl) rfl rfl t36 rfl rfl ?_
          refine K.move (.inr rfl) (gd0 rfl) rfl rfl ?_
          refine K.nil ?_
          refine At.next ?_
          refine G.seq ?_
          obtain ⟨x3, hx3, H1⟩ := bnd H1
          refine G.rg ?_
          refine K.move (.inl rfl) (gd0 rfl) rfl rfl ?_
          refine K.lenL (rV 0 S W0 (Value.slice ao_h2 x2.length cap_h2) b_h2 o_h2 u8E 1 x2) (hI_h2.is 0) (gd0 rfl) rfl rfl Try.underlying36 rfl ?_
          refine K.conv (V := .int .u64 (IntKind.u64.wrap (x2.length : Int))) (gd0 rfl) rfl (cv_int (by rw [Try.underlying3]; rfl) Try.underlying68) rfl ?_
          refine K.c0 (cf 41 rfl) (frame_little_con (k := k) hx3 106 rfl) (gd0 rfl) rfl rfl rfl rfl ?_
          refine K.move (.inr rfl) (gd0 rfl) rfl rfl ?_
          refine K.nil ?_
          refine At.next ?_
          refine G.seq ?_
          obtain ⟨x4, hx4, H1⟩ := bnd H1
          obtain ⟨x5, hx5, H1⟩ := bnd H1
          refine G.rg ?_
          refine K.move (.inl rfl) (gd0 rfl) rfl rfl ?_
          refine K.cV (cf 24 rfl) [106] (fun β w S2 h => crc_Sum_con (k := k) (la 0 rfl u8E_len rfl h) hx4) (gd0 rfl) (fun _ => rfl) rfl rfl rfl ?_
          refine K.move (.inl rfl) (gd0 rfl) rfl rfl ?_
          refine K.cV (cf 26 rfl) [0] (fun β w S2 h => crc_More_con (k := k) ((hI_h2.isC 0).larg ⟨_, List.mem_cons_self⟩ h) hx5) (gd0 rfl) (fun _ => rfl) rfl rfl rfl ?_
          refine K.move (.inr rfl) (gd0 rfl) rfl rfl ?_
          refine K.nil ?_
          refine At.next ?_
          obtain ⟨x6, hx6, H1⟩ := bnd H1
          obtain ⟨x7, hx7, H1⟩ := bnd H1
          refine G.rg ?_
          refine K.move (.inl rfl) (gd0 rfl) rfl rfl ?_
          refine K.move (.inl rfl) (gd0 rfl) rfl rfl ?_
          refine K.move (.inl rfl) (gd0 rfl) rfl rfl ?_
          refine K.move (.inl rfl) (gd0 rfl) rfl rfl ?_
          refine K.conv (V := .int .u64 (IntKind.u64.wrap x5)) (gd0 rfl) rfl (cv_int (by rw [Try.underlying37]; rfl) Try.underlying68) rfl ?_
          refine K.c0 (cf 41 rfl) (frame_little_con (k := k) hx6 107 rfl) (gd0 rfl) rfl rfl rfl rfl ?_
          refine K.buildC Y 108 [(0, _), (1, _), (2, _), (3, _)] [_, _, _, _] [((.tmp 22), _), ((.tmp 23), _), ((.tmp 24), _), ((.tmp 27), _)] (gd0 rfl) (AllE.spec ⟨rfl, rfl, rfl, rfl, trivial⟩) rfl rfl Try.underlying44 t36 rfl rfl rfl rfl rfl rfl rfl rfl ?_
          refine K.cV (cf 42 rfl) [108, 105, 106, 0, 107] (fun β w S2 h => slices_Concat_con (k := k) (blk_ll 0 rfl h (by rfl) rfl (LLI.cons (la 1 rfl u8E_len rfl h) (LLI.cons (la 2 rfl u8E_len rfl h) (LLI.cons ((hI_h2.isC 0).larg ⟨_, (List.mem_cons_of_mem _ (List.mem_cons_of_mem _ (List.mem_cons_of_mem _ List.mem_cons_self)))⟩ h) (LLI.cons (la 4 rfl u8E_len rfl h) LLI.nil))))) hx7 109 rfl) (gd0 rfl) (fun _ => rfl) rfl rfl rfl ?_
          refine K.move (.inr rfl) (gd0 rfl) rfl rfl ?_
          refine K.nil ?_
          refine At.block_normal ?_
          refine At.next ?_
          refine G.rg ?_
          refine K.bin (V := .int .i64 (w64 (v2 + 1))) (gd0 rfl) rfl rfl (fun _ => rfl) rfl ?_
          refine K.move (.inl rfl) (gd0 rfl) rfl rfl ?_
          refine K.nil ?_
          exact At.ag ⟨(n0, (x7, (w64 (v2 + 1)))), H1⟩ [(105, 109)] [_, _] (Nat.lt_succ_self _) rfl ⟨rfl, rfl, rfl, rfl, trivial⟩ ⟨rfl, (fun _ => rfl), rfl, (lrow_ren rfl), trivial⟩ rfl
        ·
          replace H1 := bif_f H1 h1
          refine G.exit ?_
          refine At.over_exit ?_
          refine At.over_exit ?_
          refine At.block_hit ?_
          exact At.jd ⟨v1, oi H1⟩ [(102, 105)] [_, _] rfl ⟨rfl, trivial⟩ ⟨rfl, (fun _ => rfl), rfl, (lrow_ren rfl), trivial⟩ rfl
  ·
    rintro ⟨_, rfl⟩
    show G _ _ [(3, .a (.c (.nv 102)))] [(0, some (rd S W0)), (102, some (lrow 102 5 u8E 1 x1))] _ _
    refine G.seq ?_
    refine G.rg ?_
    refine K.move (.inl rfl) (gd0 rfl) rfl rfl ?_
    refine K.move (.inr rfl) (gd0 rfl) rfl rfl ?_
    refine K.nil ?_
    refine At.next ?_
    refine G.ret ?_
    refine At.ren (fs' := [(2, .a (.c (.nv 30)))]) (tl := [(0, rd S W0), (30, lrow 30 5 u8E 1 x1)]) [(30, 102)] [_, _] rfl ⟨rfl, trivial⟩ ⟨rfl, (fun _ => rfl), rfl, (lrow_ren rfl), trivial⟩ rfl ?_
    exact At.dr Y [2] rfl rfl (by cases H0; rfl) (by cases H0; rfl) rfl rfl rfl
theorem frame_Put_con {k : Nat}  {S : Foot} {W0 : World} {s0 : Value} {l0 : List (List Int)} {r : List Int} (hL0 : LL S W0 s0 u8E 1 l0) (H0 : frame_Put.f k l0 = some r) (m30 : Nat) (hd : ndB [m30] = true) : frame_Put_st S W0 s0 r m30 :=
  SCon.ren (rn [(30, m30)]) (frame_Put_con0 (k := k)  hL0 H0) ⟨(fun _ => rfl), trivial⟩ ⟨(fun _ => rfl), (lrow_ren rfl), trivial⟩ (rn_nd hd rfl rfl) (rn_ks hd rfl rfl rfl)
abbrev R19_Little_st (a0 : Int) (a1 : Int) (r : ByteArray) : Prop := SCon Try.prog 40 [.a (.c (.v (.int .u64 a0))), .a (.c (.v (.int .i64 a1)))] [] (.a (.c (.v (.string r)))) [] []
theorem R19_Little_con0 {k : Nat}  {a0 : Int} {a1 : Int} {r : ByteArray}  (H0 : R19_Little.f k a0 a1 = some r) : R19_Little_st a0 a1 r := by
  rw [R19_Little.f] at H0
  refine spec_of [(0, _), (1, _)] [] 22 Try.func40 rfl Try.ntmps40 rfl rfl rfl rfl (fun β W F => ?_)
  refine G.seq ?_
  refine G.rg ?_
  refine K.move (.inr rfl) (gd0 rfl) rfl rfl ?_
  refine K.nil ?_
  refine At.next ?_
  refine G.seq ?_
  refine G.rg ?_
  refine K.move (.inr rfl) (gd0 rfl) rfl rfl ?_
  refine K.nil ?_
  refine At.next ?_
  obtain ⟨x1, H1, H0⟩ := bnd H0
  refine G.sJ (σ := { v : ByteArray // x1 = v }) (fun q => [(5, .a (.c (.v (.string q.1))))]) (fun q => []) ?_ ?_
  ·
    refine G.seq ?_
    refine G.rg ?_
    refine K.move (.inr rfl) (gd0 rfl) rfl rfl ?_
    refine K.nil ?_
    refine At.next ?_
    refine G.block ?_
    refine G.lp (σ := { q : Nat × (Int × ByteArray × Int) // R19_Little.l0 k a1 q.1 q.2 = some x1 }) (fun q => [(0, .a (.c (.v (.int .u64 q.1.2.1)))), (1, .a (.c (.v (.int .i64 a1)))), (5, .a (.c (.v (.string q.1.2.2.1)))), (6, .a (.c (.v (.int .i64 q.1.2.2.2))))]) (fun q => []) (fun q => q.1.1) ⟨(k, (a0, (ByteArray.mk #[]), 0)), H1⟩ ?_ ?_
    · exact At.into [] [] rfl ⟨rfl, rfl, rfl, rfl, trivial⟩ trivial rfl
    ·
      rintro ⟨⟨n0, v1, v2, v3⟩, H1⟩
      show G _ _ [(0, .a (.c (.v (.int .u64 v1)))), (1, .a (.c (.v (.int .i64 a1)))), (5, .a (.c (.v (.string v2)))), (6, .a (.c (.v (.int .i64 v3))))] [] _ _
      cases n0 with
      | zero => exact absurd H1 (by simp [R19_Little.l0])
      | succ n0 =>
        have HL0 := H1
        rw [R19_Little.l0] at H1
        refine G.seq ?_
        refine G.seq ?_
        refine G.rg ?_
        refine K.move (.inl rfl) (gd0 rfl) rfl rfl ?_
        refine K.move (.inl rfl) (gd0 rfl) rfl rfl ?_
        refine K.bin (V := .bool (decide (v3 < a1))) (gd0 rfl) rfl rfl (fun _ => rfl) rfl ?_
        refine K.nil ?_
        refine At.next ?_
        refine G.cond rfl (fun h1 => ?_) (fun h1 => ?_)
        ·
          replace H1 := bif_t H1 h1
          refine G.skip ?_
          refine At.next ?_
          refine G.seq ?_
          refine G.block ?_
          refine G.seq ?_
          obtain ⟨h2, H1⟩ := grd H1
          refine G.rg ?_
          refine K.move (.inl rfl) (gd0 rfl) rfl rfl ?_
          refine K.move (.inl rfl) (gd0 rfl) rfl rfl ?_
          refine K.bin (V := .int .u64 (v1.tmod 256)) (gd0 rfl) rfl rfl (rem_run (by decide)) rfl ?_
          refine K.conv (V := .int .u8 (IntKind.u8.wrap (v1.tmod 256))) (gd0 rfl) rfl (cv_int (by rw [Try.underlying68]; rfl) Try.underlying5) rfl ?_
          refine K.buildL Y 100 ([(IntKind.u8.wrap (v1.tmod 256))] : List Int) [(0, _)] [((.tmp 15), _)] u8E_len (gd0 rfl) (AllE.spec ⟨rfl, trivial⟩) rfl rfl Try.underlying36 t5 rfl rfl rfl rfl rfl rfl rfl rfl ?_
          refine K.bstr (lrowV 100 5 u8E 1 ([(IntKind.u8.wrap (v1.tmod 256))] : List Int)) (lrowV_is u8E_len (by decide)) (gd0 rfl) rfl rfl Try.underlying36 Try.underlying5 Try.underlying9 rfl ?_
          refine K.bin (V := .string (v2 ++ (strOfNums ([(IntKind.u8.wrap (v1.tmod 256))] : List Int)))) (gd0 rfl) rfl rfl (st_add _ _ _ _ _ h2) rfl ?_
          refine K.move (.inr rfl) (gd0 rfl) rfl rfl ?_
          refine K.nil ?_
          refine At.next ?_
          refine G.rg ?_
          refine K.move (.inl rfl) (gd0 rfl) rfl rfl ?_
          refine K.bin (V := .int .u64 (IntKind.u64.wrap (v1.tdiv 256))) (gd0 rfl) rfl rfl (quo_run (by decide)) rfl ?_
          refine K.move (.inr rfl) (gd0 rfl) rfl rfl ?_
          refine K.nil ?_
          refine At.block_normal ?_
          refine At.next ?_
          refine G.rg ?_
          refine K.move (.inl rfl) (gd0 rfl) rfl rfl ?_
          refine K.bin (V := .int .i64 (w64 (v3 + 1))) (gd0 rfl) rfl rfl (fun _ => rfl) rfl ?_
          refine K.move (.inr rfl) (gd0 rfl) rfl rfl ?_
          refine K.nil ?_
          exact At.ag ⟨(n0, ((IntKind.u64.wrap (v1.tdiv 256)), (v2 ++ (strOfNums ([(IntKind.u8.wrap (v1.tmod 256))] : List Int))), (w64 (v3 + 1)))), H1⟩ [] [] (Nat.lt_succ_self _) rfl ⟨rfl, rfl, rfl, rfl, trivial⟩ trivial rfl
        ·
          replace H1 := bif_f H1 h1
          refine G.exit ?_
          refine At.over_exit ?_
          refine At.over_exit ?_
          refine At.block_hit ?_
          exact At.jd ⟨v2, oi H1⟩ [] [] rfl ⟨rfl, trivial⟩ trivial rfl
  ·
    rintro ⟨_, rfl⟩
    show G _ _ [(5, .a (.c (.v (.string x1))))] [] _ _
    refine G.seq ?_
    refine G.rg ?_
    refine K.move (.inl rfl) (gd0 rfl) rfl rfl ?_
    refine K.move (.inr rfl) (gd0 rfl) rfl rfl ?_
    refine K.nil ?_
    refine At.next ?_
    refine G.ret ?_
    exact At.dr Y [4] rfl rfl (by cases H0; rfl) (by cases H0; rfl) rfl rfl rfl
theorem R19_Little_con {k : Nat}  {a0 : Int} {a1 : Int} {r : ByteArray}  (H0 : R19_Little.f k a0 a1 = some r) : R19_Little_st a0 a1 r :=
  SCon.ren (rn []) (R19_Little_con0 (k := k)   H0) trivial trivial (by simp) (by simp)
abbrev R19_Frame_st (a0 : ByteArray) (r : ByteArray) : Prop := SCon Try.prog 29 [.a (.c (.v (.string a0)))] [] (.a (.c (.v (.string r)))) [] []
theorem R19_Frame_con0 {k : Nat}  {a0 : ByteArray} {r : ByteArray}  (H0 : R19_Frame.f k a0 = some r) : R19_Frame_st a0 r := by
  rw [R19_Frame.f] at H0
  refine spec_of [(0, _)] [] 16 Try.func29 rfl Try.ntmps29 rfl rfl rfl rfl (fun β W F => ?_)
  refine G.seq ?_
  refine G.rg ?_
  refine K.move (.inr rfl) (gd0 rfl) rfl rfl ?_
  refine K.nil ?_
  refine At.next ?_
  refine G.seq ?_
  obtain ⟨x1, hx1, H0⟩ := bnd H0
  obtain ⟨h1, H0⟩ := grd H0
  refine G.rg ?_
  refine K.move (.inl rfl) (gd0 rfl) rfl rfl ?_
  refine K.bi1 (X := SV.raw (.string a0)) (V := .int .i64 (a0.size : Int)) (gd0 rfl) rfl (fun _ _ w => lenStr Try.underlying9 _ w) rfl ?_
  refine K.conv (V := .int .u64 (IntKind.u64.wrap (a0.size : Int))) (gd0 rfl) rfl (cv_int (by rw [Try.underlying3]; rfl) Try.underlying68) rfl ?_
  refine K.cR (cf 40 rfl) (R19_Little_con (k := k) hx1) (gd0 rfl) rfl rfl rfl rfl ?_
  refine K.move (.inl rfl) (gd0 rfl) rfl rfl ?_
  refine K.bin (V := .string (x1 ++ a0)) (gd0 rfl) rfl rfl (st_add _ _ _ _ _ h1) rfl ?_
  refine K.move (.inr rfl) (gd0 rfl) rfl rfl ?_
  refine K.nil ?_
  refine At.next ?_
  refine G.seq ?_
  obtain ⟨x2, hx2, H0⟩ := bnd H0
  obtain ⟨x3, hx3, H0⟩ := bnd H0
  obtain ⟨h2, H0⟩ := grd H0
  refine G.rg ?_
  refine K.move (.inl rfl) (gd0 rfl) rfl rfl ?_
  refine K.move (.inl rfl) (gd0 rfl) rfl rfl ?_
  refine K.cR (cf 25 rfl) (R18_Sum_con (k := k) hx2) (gd0 rfl) rfl rfl rfl rfl ?_
  refine K.conv (V := .int .u64 (IntKind.u64.wrap x2)) (gd0 rfl) rfl (cv_int (by rw [Try.underlying37]; rfl) Try.underlying68) rfl ?_
  refine K.cR (cf 40 rfl) (R19_Little_con (k := k) hx3) (gd0 rfl) rfl rfl rfl rfl ?_
  refine K.bin (V := .string ((x1 ++ a0) ++ x3)) (gd0 rfl) rfl rfl (st_add _ _ _ _ _ h2) rfl ?_
  refine K.move (.inr rfl) (gd0 rfl) rfl rfl ?_
  refine K.nil ?_
  refine At.next ?_
  refine G.ret ?_
  exact At.dr Y [2] rfl rfl (by cases H0; rfl) (by cases H0; rfl) rfl rfl rfl
theorem R19_Frame_con {k : Nat}  {a0 : ByteArray} {r : ByteArray}  (H0 : R19_Frame.f k a0 = some r) : R19_Frame_st a0 r :=
  SCon.ren (rn []) (R19_Frame_con0 (k := k)   H0) trivial trivial (by simp) (by simp)
abbrev frame_value_st (S : Foot) (W0 : World) (s0 : Value) (r : Int) : Prop := SCon Try.prog 43 [SV.raw s0] [(0, rd S W0)] (.a (.c (.v (.int .u64 r)))) [(0, rd S W0)] []
theorem frame_value_con0 {k : Nat}  {S : Foot} {W0 : World} {s0 : Value} {l0 : List Int} {r : Int} (hL0 : LArg S W0 s0 u8E 1 l0) (H0 : frame_value.f k l0 = some r) : frame_value_st S W0 s0 r := by
  rw [frame_value.f] at H0
  obtain ⟨b0, o0, hI0⟩ := hL0
  refine spec_of [(0, _)] [(0, _)] 22 Try.func43 rfl Try.ntmps43 rfl rfl rfl rfl (fun β W F => ?_)
  refine G.seq ?_
  refine G.rg ?_
  refine K.move (.inr rfl) (gd0 rfl) rfl rfl ?_
  refine K.nil ?_
  refine At.next ?_
  refine G.seq ?_
  refine G.rg ?_
  refine K.move (.inr rfl) (gd0 rfl) rfl rfl ?_
  refine K.nil ?_
  refine At.next ?_
  obtain ⟨x1, H1, H0⟩ := bnd H0
  refine G.sJ (σ := { v : Int // x1 = v }) (fun q => [(3, .a (.c (.v (.int .u64 q.1))))]) (fun q => [(0, rd S W0)]) ?_ ?_
  ·
    refine G.seq ?_
    refine G.rg ?_
    refine K.move (.inl rfl) (gd0 rfl) rfl rfl ?_
    refine K.lenL (rV 0 S W0 s0 b0 o0 u8E 1 l0) (hI0.is 0) (gd0 rfl) rfl rfl Try.underlying36 rfl ?_
    refine K.move (.inl rfl) (gd0 rfl) rfl rfl ?_
    refine K.nil ?_
    refine At.next ?_
    refine G.block ?_
    refine G.lp (σ := { q : Nat × (Int × Int) // frame_value.l0 k l0 q.1 q.2 = some x1 }) (fun q => [(3, .a (.c (.v (.int .u64 q.1.2.1)))), (6, SV.raw s0), (7, .a (.c (.v (.int .i64 (l0.length : Int))))), (8, .a (.c (.v (.int .i64 q.1.2.2))))]) (fun q => [(0, rd S W0)]) (fun q => q.1.1) ⟨(k, (0, 0)), H1⟩ ?_ ?_
    · exact At.into [] [_] rfl ⟨rfl, rfl, rfl, rfl, trivial⟩ ⟨rfl, (fun _ => rfl), trivial⟩ rfl
    ·
      rintro ⟨⟨n0, v1, v2⟩, H1⟩
      show G _ _ [(3, .a (.c (.v (.int .u64 v1)))), (6, SV.raw s0), (7, .a (.c (.v (.int .i64 (l0.length : Int))))), (8, .a (.c (.v (.int .i64 v2))))] [(0, some (rd S W0))] _ _
      cases n0 with
      | zero => exact absurd H1 (by simp [frame_value.l0])
      | succ n0 =>
        have HL0 := H1
        rw [frame_value.l0] at H1
        refine G.seq ?_
        refine G.rg ?_
        refine K.bin (V := .bool (decide (v2 < (l0.length : Int)))) (gd0 rfl) rfl rfl (fun _ => rfl) rfl ?_
        refine K.nil ?_
        refine At.next ?_
        refine G.seq ?_
        refine G.cond rfl (fun h1 => ?_) (fun h1 => ?_)
        ·
          replace H1 := bif_t H1 h1
          refine G.skip ?_
          refine At.next ?_
          refine G.seq ?_
          refine G.block ?_
          refine G.seq ?_
          obtain ⟨x2, hx2, H1⟩ := bnd H1
          refine G.rg ?_
          refine K.move (.inl rfl) (gd0 rfl) rfl rfl ?_
          refine K.idxL (rV 0 S W0 s0 b0 o0 u8E 1 l0) ((v2).toNat) (hI0.is 0) (atL_get hx2) (atL_nn hx2) (gd0 rfl) rfl rfl rfl Try.underlying36 el36.size_run rfl ?_
          refine K.load1L Y (rV 0 S W0 s0 b0 o0 u8E 1 l0) ((v2).toNat) 0 (hI0.is 0) (atL_get hx2) (gd0 rfl) rfl rfl t5 rfl rfl ?_
          refine K.move (.inr rfl) (gd0 rfl) rfl rfl ?_
          refine K.move (.inr rfl) (gd0 rfl) rfl rfl ?_
          refine K.nil ?_
          refine At.next ?_
          obtain ⟨h2, H1⟩ := grd H1
          refine G.rg ?_
          refine K.move (.inl rfl) (gd0 rfl) rfl rfl ?_
          refine K.move (.inl rfl) (gd0 rfl) rfl rfl ?_
          refine K.conv (V := .int .u64 (IntKind.u64.wrap x2)) (gd0 rfl) rfl (cv_int (by rw [Try.underlying5]; rfl) Try.underlying68) rfl ?_
          refine K.move (.inl rfl) (gd0 rfl) rfl rfl ?_
          refine K.bin (V := .int .i64 (w64 (8 * v2))) (gd0 rfl) rfl rfl (fun _ => rfl) rfl ?_
          refine K.bin (V := .int .u64 (gshl .u64 (IntKind.u64.wrap x2) (w64 (8 * v2)))) (gd0 rfl) rfl rfl (bt_shl _ _ _ _ h2) rfl ?_
          refine K.bin (V := .int .u64 (gor .u64 v1 (gshl .u64 (IntKind.u64.wrap x2) (w64 (8 * v2))))) (gd0 rfl) rfl rfl (bt_or _ _ _) rfl ?_
          refine K.move (.inr rfl) (gd0 rfl) rfl rfl ?_
          refine K.nil ?_
          refine At.block_normal ?_
          refine At.next ?_
          refine G.rg ?_
          refine K.bin (V := .int .i64 (w64 (v2 + 1))) (gd0 rfl) rfl rfl (fun _ => rfl) rfl ?_
          refine K.move (.inl rfl) (gd0 rfl) rfl rfl ?_
          refine K.nil ?_
          exact At.ag ⟨(n0, ((gor .u64 v1 (gshl .u64 (IntKind.u64.wrap x2) (w64 (8 * v2)))), (w64 (v2 + 1)))), H1⟩ [] [_] (Nat.lt_succ_self _) rfl ⟨rfl, rfl, rfl, rfl, trivial⟩ ⟨rfl, (fun _ => rfl), trivial⟩ rfl
        ·
          replace H1 := bif_f H1 h1
          refine G.exit ?_
          refine At.over_exit ?_
          refine At.over_exit ?_
          refine At.block_hit ?_
          exact At.jd ⟨v1, oi H1⟩ [] [_] rfl ⟨rfl, trivial⟩ ⟨rfl, (fun _ => rfl), trivial⟩ rfl
  ·
    rintro ⟨_, rfl⟩
    show G _ _ [(3, .a (.c (.v (.int .u64 x1))))] [(0, some (rd S W0))] _ _
    refine G.seq ?_
    refine G.rg ?_
    refine K.move (.inl rfl) (gd0 rfl) rfl rfl ?_
    refine K.move (.inr rfl) (gd0 rfl) rfl rfl ?_
    refine K.nil ?_
    refine At.next ?_
    refine G.ret ?_
    exact At.dr Y [2] rfl rfl (by cases H0; rfl) (by cases H0; rfl) rfl rfl rfl
theorem frame_value_con {k : Nat}  {S : Foot} {W0 : World} {s0 : Value} {l0 : List Int} {r : Int} (hL0 : LArg S W0 s0 u8E 1 l0) (H0 : frame_value.f k l0 = some r) : frame_value_st S W0 s0 r :=
  SCon.ren (rn []) (frame_value_con0 (k := k)  hL0 H0) ⟨(fun _ => rfl), trivial⟩ ⟨(fun _ => rfl), trivial⟩ (by simp) (by simp)
abbrev slices_Clone_st (S : Foot) (W0 : World) (s0 : Value) (r : List Int) (m30 : Nat) : Prop := SCon Try.prog 44 [SV.raw s0] [(0, rd S W0)] (.a (.c (.nv m30))) [(0, rd S W0), (m30, lrow m30 5 u8E 1 r)] [m30]
theorem slices_Clone_con0 {k : Nat}  {S : Foot} {W0 : World} {s0 : Value} {l0 : List Int} {r : List Int} (hL0 : LArg S W0 s0 u8E 1 l0) (H0 : slices_Clone.f k l0 = some r) : slices_Clone_st S W0 s0 r 30 := by
  rw [slices_Clone.f] at H0
  obtain ⟨b0, o0, hI0⟩ := hL0
  refine spec_of [(0, _)] [(0, _)] 8 Try.func44 rfl Try.ntmps44 rfl rfl rfl rfl (fun β W F => ?_)
  obtain ⟨ao0, cap0, hE0, hc0, hp0⟩ := hI0.sl
  subst hE0
  cases ao0 with
  | none =>
    have hl0 : l0 = [] := by
      cases l0 with
      | nil => rfl
      | cons x l => exact absurd (hp0 (by simp)) (by simp)
    replace H0 : some ([] : List Int) = some r := by rw [hl0] at H0; simpa using H0
    refine G.seq ?_
    refine G.rg ?_
    refine K.nilRow 100 5 u8E 1 (.inl rfl) (gd0 rfl) rfl rfl rfl ?_
    refine K.nil ?_
    refine At.next ?_
    refine G.seq ?_
    refine G.seq ?_
    refine G.rg ?_
    refine K.move (.inl rfl) (gd0 rfl) rfl rfl ?_
    refine K.bin (V := .bool true) (gd0 rfl) rfl rfl (sn_eql Try.underlying36 none _ _) rfl ?_
    refine K.nil ?_
    refine At.next ?_
    refine G.cond rfl (fun h1 => ?_) (fun h1 => ?_)
    ·
      refine G.seq ?_
      refine G.rg ?_
      refine K.nilRow 101 5 u8E 1 (.inl rfl) (gd0 rfl) rfl rfl rfl ?_
      refine K.nil ?_
      refine At.next ?_
      refine G.ret ?_
      refine At.over_ret ?_
      refine At.ren (fs' := [(2, .a (.c (.nv 30)))]) (tl := [(0, rd S W0), (30, lrow 30 5 u8E 1 ([] : List Int))]) [(30, 101)] [_, _] rfl ⟨rfl, trivial⟩ ⟨rfl, (fun _ => rfl), rfl, (lrow_ren rfl), trivial⟩ rfl ?_
      exact At.dr Y [2] rfl rfl (by cases H0; rfl) (by cases H0; rfl) rfl rfl rfl
    · cases h1
  | some a0 =>
    refine G.seq ?_
    refine G.rg ?_
    refine K.nilRow 100 5 u8E 1 (.inl rfl) (gd0 rfl) rfl rfl rfl ?_
    refine K.nil ?_
    refine At.next ?_
    refine G.seq ?_
    refine G.seq ?_
    refine G.rg ?_
    refine K.move (.inl rfl) (gd0 rfl) rfl rfl ?_
    refine K.bin (V := .bool false) (gd0 rfl) rfl rfl (sn_eql Try.underlying36 (some a0) _ _) rfl ?_
    refine K.nil ?_
    refine At.next ?_
    refine G.cond rfl (fun h1 => ?_) (fun h1 => ?_)
    · cases h1
    ·
      refine G.skip ?_
      refine At.next ?_
      refine G.seq ?_
      obtain ⟨h2, H0⟩ := grd H0
      refine G.rg ?_
      refine K.buildL Y 101 ([] : List Int) [] [] u8E_len (gd0 rfl) (AllE.spec trivial) rfl rfl Try.underlying36 t5 rfl rfl rfl rfl rfl rfl rfl rfl ?_
      refine K.move (.inl rfl) (gd0 rfl) rfl rfl ?_
      refine K.appendL 102 (rV 0 S W0 (Value.slice (some a0) l0.length cap0) b0 o0 u8E 1 l0) _ el36 (hI0.is 0) u8E_one (gd0 rfl) rfl rfl rfl rfl rfl (ap_m h2) (ap_b h2 (by decide)) rfl rfl rfl rfl rfl rfl ?_
      refine K.move (.inr rfl) (gd0 rfl) rfl rfl ?_
      refine K.nil ?_
      refine At.next ?_
      refine G.ret ?_
      refine At.ren (fs' := [(2, .a (.c (.nv 30)))]) (tl := [(0, rd S W0), (30, lrow 30 5 u8E 1 (([] : List Int) ++ l0))]) [(30, 102)] [_, _] rfl ⟨rfl, trivial⟩ ⟨rfl, (fun _ => rfl), rfl, (lrow_ren rfl), trivial⟩ rfl ?_
      exact At.dr Y [2] rfl rfl (by cases H0; rfl) (by cases H0; rfl) rfl rfl rfl
theorem slices_Clone_con {k : Nat}  {S : Foot} {W0 : World} {s0 : Value} {l0 : List Int} {r : List Int} (hL0 : LArg S W0 s0 u8E 1 l0) (H0 : slices_Clone.f k l0 = some r) (m30 : Nat) (hd : ndB [m30] = true) : slices_Clone_st S W0 s0 r m30 :=
  SCon.ren (rn [(30, m30)]) (slices_Clone_con0 (k := k)  hL0 H0) ⟨(fun _ => rfl), trivial⟩ ⟨(fun _ => rfl), (lrow_ren rfl), trivial⟩ (rn_nd hd rfl rfl) (rn_ks hd rfl rfl rfl)
abbrev frame_Get_st (S : Foot) (W0 : World) (s0 : Value) (r : List (List Int) × Int) (m30 : Nat) : Prop := SCon Try.prog 31 [SV.raw s0] [(0, rd S W0)] (.tup [.c (.nv m30), .c (.v (.int .i64 r.2))]) [(0, rd S W0), (m30, rrow m30 36 u8E 1 r.1)] [m30]
theorem frame_Get_con0 {k : Nat}  {S : Foot} {W0 : World} {s0 : Value} {l0 : List Int} {r : List (List Int) × Int} (hL0 : LArg S W0 s0 u8E 1 l0) (H0 : frame_Get.f k l0 = some r) : frame_Get_st S W0 s0 r 30 := by
  rw [frame_Get.f] at H0
  obtain ⟨b0, o0, hI0⟩ := hL0
  refine spec_of [(0, _)] [(0, _)] 49 Try.func31 rfl Try.ntmps31 rfl rfl rfl rfl (fun β W F => ?_)
  refine G.seq ?_
  refine G.rg ?_
  refine K.nilRR 100 36 u8E 1 (.inl rfl) (gd0 rfl) rfl rfl rfl ?_
  refine K.move (.inr rfl) (gd0 rfl) rfl rfl ?_
  refine K.nil ?_
  refine At.next ?_
  refine G.seq ?_
  refine G.rg ?_
  refine K.nilRR 101 36 u8E 1 (.inl rfl) (gd0 rfl) rfl rfl rfl ?_
  refine K.nil ?_
  refine At.next ?_
  obtain ⟨x1, H1, H0⟩ := bnd H0
  refine G.sJ (σ := { v : List (List Int) // x1 = Sum.inr v }) (fun q => [(4, .a (.c (.nv 102)))]) (fun q => [(0, rd S W0), (102, rrow 102 36 u8E 1 q.1)]) ?_ ?_
  ·
    refine G.block ?_
    refine G.lp (σ := { q : Nat × (List Int × List (List Int)) × Value // frame_Get.l0 k q.1 q.2.1 = some x1 ∧ LArg S W0 q.2.2 u8E 1 q.2.1.1 }) (fun q => [(0, SV.raw q.1.2.2), (4, .a (.c (.nv 105)))]) (fun q => [(0, rd S W0), (105, rrow 105 36 u8E 1 q.1.2.1.2)]) (fun q => q.1.1) ⟨(k, (l0, ([] : List (List Int))), s0), H1, ⟨_, _, hI0⟩⟩ ?_ ?_
    · exact At.into [(105, 101)] [_, _] rfl ⟨rfl, rfl, trivial⟩ ⟨rfl, (fun _ => rfl), rfl, (rrow_ren rfl), trivial⟩ rfl
    ·
      rintro ⟨⟨n0, ⟨v1, v2⟩, rw⟩, H1, b_rw, o_rw, hI_rw⟩
      show G _ _ [(0, SV.raw rw), (4, .a (.c (.nv 105)))] [(0, some (rd S W0)), (105, some (rrow 105 36 u8E 1 v2))] _ _
      cases n0 with
      | zero => exact absurd H1 (by simp [frame_Get.l0])
      | succ n0 =>
        have HL0 := H1
        rw [frame_Get.l0] at H1
        refine G.seq ?_
        refine G.seq ?_
        refine G.rg ?_
        refine K.move (.inl rfl) (gd0 rfl) rfl rfl ?_
        refine K.lenL (rV 0 S W0 rw b_rw o_rw u8E 1 v1) (hI_rw.is 0) (gd0 rfl) rfl rfl Try.underlying36 rfl ?_
        refine K.bin (V := .bool (decide ((v1.length : Int) > 0))) (gd0 rfl) rfl rfl (fun _ => rfl) rfl ?_
        refine K.nil ?_
        refine At.next ?_
        refine G.cond rfl (fun h1 => ?_) (fun h1 => ?_)
        ·
          replace H1 := bif_t H1 h1
          refine G.skip ?_
          refine At.next ?_
          refine G.block ?_
          refine G.seq ?_
          refine G.seq ?_
          refine G.rg ?_
          refine K.move (.inl rfl) (gd0 rfl) rfl rfl ?_
          refine K.lenL (rV 0 S W0 rw b_rw o_rw u8E 1 v1) (hI_rw.is 0) (gd0 rfl) rfl rfl Try.underlying36 rfl ?_
          refine K.bin (V := .bool (decide ((v1.length : Int) < 8))) (gd0 rfl) rfl rfl (fun _ => rfl) rfl ?_
          refine K.nil ?_
          refine At.next ?_
          refine G.cond rfl (fun h2 => ?_) (fun h2 => ?_)
          ·
            replace H1 := bif_t H1 h2
            refine G.seq ?_
            refine G.rg ?_
            refine K.nilRR 106 36 u8E 1 (.inl rfl) (gd0 rfl) rfl rfl rfl ?_
            refine K.move (.inr rfl) (gd0 rfl) rfl rfl ?_
            refine K.nil ?_
            refine At.next ?_
            refine G.ret ?_
            refine At.over_ret ?_
            refine At.block_ret ?_
            refine At.over_ret ?_
            refine At.block_ret ?_
            refine At.over_ret ?_
            cases H1
            replace H0 := sum_l H0
            refine At.ren (fs' := [(2, .a (.c (.nv 30))), (3, .a (.c (.v (.int .i64 40))))]) (tl := [(0, rd S W0), (30, rrow 30 36 u8E 1 ([] : List (List Int)))]) [(30, 106)] [_, _] rfl ⟨rfl, rfl, trivial⟩ ⟨rfl, (fun _ => rfl), rfl, (rrow_ren rfl), trivial⟩ rfl ?_
            exact At.dr Y [2, 3] rfl rfl (by cases H0; rfl) (by cases H0; rfl) rfl rfl rfl
          ·
            replace H1 := bif_f H1 h2
            refine G.skip ?_
            refine At.next ?_
            refine G.seq ?_
            obtain ⟨h3, H1⟩ := grd H1
            obtain ⟨x2, hx2, H1⟩ := bnd H1
            refine G.rg ?_
            refine K.move (.inl rfl) (gd0 rfl) rfl rfl ?_
            refine K.partR 0 ((4 : Int).toNat) hI_rw (gd0 rfl) rfl .no (.at_ rfl h3.1 rfl) Try.underlying36 el36.size_run (Nat.zero_le _) (tn_len h3.2) rfl ?_
            refine K.cV (cf 43 rfl) [0] (fun β w S2 h => frame_value_con (k := k) (((hI_rw.part (Nat.zero_le _) (tn_len h3.2)).isC 0).larg ⟨_, List.mem_cons_self⟩ h) hx2) (gd0 rfl) (fun _ => rfl) rfl rfl rfl ?_
            refine K.move (.inr rfl) (gd0 rfl) rfl rfl ?_
            refine K.nil ?_
            refine At.next ?_
            refine G.seq ?_
            refine G.seq ?_
            refine G.rg ?_
            refine K.move (.inl rfl) (gd0 rfl) rfl rfl ?_
            refine K.move (.inl rfl) (gd0 rfl) rfl rfl ?_
            refine K.lenL (rV 0 S W0 rw b_rw o_rw u8E 1 v1) (hI_rw.is 0) (gd0 rfl) rfl rfl Try.underlying36 rfl ?_
            refine K.bin (V := .int .i64 (w64 ((v1.length : Int) - 8))) (gd0 rfl) rfl rfl (fun _ => rfl) rfl ?_
            refine K.conv (V := .int .u64 (IntKind.u64.wrap (w64 ((v1.length : Int) - 8)))) (gd0 rfl) rfl (cv_int (by rw [Try.underlying3]; rfl) Try.underlying68) rfl ?_
            refine K.bin (V := .bool (decide (x2 > (IntKind.u64.wrap (w64 ((v1.length : Int) - 8)))))) (gd0 rfl) rfl rfl (fun _ => rfl) rfl ?_
            refine K.nil ?_
            refine At.next ?_
            refine G.cond rfl (fun h5 => ?_) (fun h5 => ?_)
            ·
              replace H1 := bif_t H1 h5
              refine G.seq ?_
              refine G.rg ?_
              refine K.nilRR 107 36 u8E 1 (.inl rfl) (gd0 rfl) rfl rfl rfl ?_
              refine K.move (.inr rfl) (gd0 rfl) rfl rfl ?_
              refine K.nil ?_
              refine At.next ?_
              refine G.ret ?_
              refine At.over_ret ?_
              refine At.block_ret ?_
              refine At.over_ret ?_
              refine At.block_ret ?_
              refine At.over_ret ?_
              cases H1
              replace H0 := sum_l H0
              refine At.ren (fs' := [(2, .a (.c (.nv 30))), (3, .a (.c (.v (.int .i64 40))))]) (tl := [(0, rd S W0), (30, rrow 30 36 u8E 1 ([] : List (List Int)))]) [(30, 107)] [_, _] rfl ⟨rfl, rfl, trivial⟩ ⟨rfl, (fun _ => rfl), rfl, (rrow_ren rfl), trivial⟩ rfl ?_
              exact At.dr Y [2, 3] rfl rfl (by cases H0; rfl) (by cases H0; rfl) rfl rfl rfl
            ·
              replace H1 := bif_f H1 h5
              refine G.skip ?_
              refine At.next ?_
              refine G.seq ?_
              refine G.rg ?_
              refine K.move (.inl rfl) (gd0 rfl) rfl rfl ?_
              refine K.conv (V := .int .i64 (w64 x2)) (gd0 rfl) rfl (cv_int (by rw [Try.underlying68]; rfl) Try.underlying3) rfl ?_
              refine K.bin (V := .int .i64 (w64 (4 + (w64 x2)))) (gd0 rfl) rfl rfl (fun _ => rfl) rfl ?_
              refine K.move (.inr rfl) (gd0 rfl) rfl rfl ?_
              refine K.nil ?_
              refine At.next ?_
              refine G.seq ?_
              refine G.seq ?_
              obtain ⟨h6, H1⟩ := grd H1
              obtain ⟨x3, hx3, H1⟩ := bnd H1
              obtain ⟨h8, H1⟩ := grd H1
              obtain ⟨x4, hx4, H1⟩ := bnd H1
              refine G.rd mixed ?_
              refine K.move (.inl rfl) (gd0 rfl) rfl rfl ?_
              refine K.move (.inl rfl) (gd0 rfl) rfl rfl ?_
              refine K.partR 0 (((w64 (4 + (w64 x2)))).toNat) hI_rw (gd0 rfl) rfl .no (.at_ rfl h6.1 rfl) Try.underlying36 el36.size_run (Nat.zero_le _) (tn_len h6.2) rfl ?_
              refine K.cV (cf 24 rfl) [0] (fun β w S2 h => crc_Sum_con (k := k) (((hI_rw.part (Nat.zero_le _) (tn_len h6.2)).isC 0).larg ⟨_, List.mem_cons_self⟩ h) hx3) (gd0 rfl) (fun _ => rfl) rfl rfl rfl ?_
              refine K.conv (V := .int .u64 (IntKind.u64.wrap x3)) (gd0 rfl) rfl (cv_int (by rw [Try.underlying37]; rfl) Try.underlying68) rfl ?_
              refine K.move (.inl rfl) (gd0 rfl) rfl rfl ?_
              refine K.move (.inl rfl) (gd0 rfl) rfl rfl ?_
              refine K.move (.inl rfl) (gd0 rfl) rfl rfl ?_
              refine K.bin (V := .int .i64 (w64 ((w64 (4 + (w64 x2))) + 4))) (gd0 rfl) rfl rfl (fun _ => rfl) rfl ?_
              refine K.partR (((w64 (4 + (w64 x2)))).toNat) (((w64 ((w64 (4 + (w64 x2))) + 4))).toNat) hI_rw (gd0 rfl) rfl (.at_ rfl h8.1 rfl) (.at_ rfl (Int.le_trans h8.1 h8.2.1) rfl) Try.underlying36 el36.size_run (tn_le h8.2.1) (tn_len h8.2.2) rfl ?_
              refine K.cV (cf 43 rfl) [0] (fun β w S2 h => frame_value_con (k := k) (((hI_rw.part (tn_le h8.2.1) (tn_len h8.2.2)).isC 0).larg ⟨_, List.mem_cons_self⟩ h) hx4) (gd0 rfl) (fun _ => rfl) rfl rfl rfl ?_
              refine K.bin (V := .bool ((IntKind.u64.wrap x3) != x4)) (gd0 rfl) rfl rfl (fun _ => rfl) rfl ?_
              refine K.nil ?_
              refine ⟨by kernel_rfl, ?_⟩
              refine At.next ?_
              refine G.cond rfl (fun h10 => ?_) (fun h10 => ?_)
              ·
                replace H1 := bif_t H1 h10
                refine G.seq ?_
                refine G.rg ?_
                refine K.nilRR 108 36 u8E 1 (.inl rfl) (gd0 rfl) rfl rfl rfl ?_
                refine K.move (.inr rfl) (gd0 rfl) rfl rfl ?_
                refine K.nil ?_
                refine At.next ?_
                refine G.ret ?_
                refine At.over_ret ?_
                refine At.block_ret ?_
                refine At.over_ret ?_
                refine At.block_ret ?_
                refine At.over_ret ?_
                cases H1
                replace H0 := sum_l H0
                refine At.ren (fs' := [(2, .a (.c (.nv 30))), (3, .a (.c (.v (.int .i64 41))))]) (tl := [(0, rd S W0), (30, rrow 30 36 u8E 1 ([] : List (List Int)))]) [(30, 108)] [_, _] rfl ⟨rfl, rfl, trivial⟩ ⟨rfl, (fun _ => rfl), rfl, (rrow_ren rfl), trivial⟩ rfl ?_
                exact At.dr Y [2, 3] rfl rfl (by cases H0; rfl) (by cases H0; rfl) rfl rfl rfl
              ·
                replace H1 := bif_f H1 h10
                refine G.skip ?_
                refine At.next ?_
                refine G.seq ?_
                obtain ⟨h11, H1⟩ := grd H1
                obtain ⟨x5, hx5, H1⟩ := bnd H1
                obtain ⟨h13, H1⟩ := grd H1
                refine G.rg ?_
                refine K.move (.inl rfl) (gd0 rfl) rfl rfl ?_
                refine K.move (.inl rfl) (gd0 rfl) rfl rfl ?_
                refine K.move (.inl rfl) (gd0 rfl) rfl rfl ?_
                refine K.partR ((4 : Int).toNat) (((w64 (4 + (w64 x2)))).toNat) hI_rw (gd0 rfl) rfl (.at_ rfl h11.1 rfl) (.at_ rfl (Int.le_trans h11.1 h11.2.1) rfl) Try.underlying36 el36.size_run (tn_le h11.2.1) (tn_len h11.2.2) rfl ?_
                refine K.cV (cf 44 rfl) [0] (fun β w S2 h => slices_Clone_con (k := k) (((hI_rw.part (tn_le h11.2.1) (tn_len h11.2.2)).isC 0).larg ⟨_, List.mem_cons_self⟩ h) hx5 109 rfl) (gd0 rfl) (fun _ => rfl) rfl rfl rfl ?_
                refine K.buildC Y 110 [(0, _)] [_] [((.tmp 41), _)] (gd0 rfl) (AllE.spec ⟨rfl, trivial⟩) rfl rfl Try.underlying44 t36 rfl rfl rfl rfl rfl rfl rfl rfl ?_
                refine K.appRR 111 el44 u8E_len (by decide) (gd0 rfl) rfl rfl rfl rfl rfl (ap1_m h13) (ap1_b h13 (by decide)) rfl rfl rfl rfl ?_
                refine K.move (.inr rfl) (gd0 rfl) rfl rfl ?_
                refine K.nil ?_
                refine At.next ?_
                obtain ⟨h14, H1⟩ := grd H1
                refine G.rg ?_
                refine K.move (.inl rfl) (gd0 rfl) rfl rfl ?_
                refine K.move (.inl rfl) (gd0 rfl) rfl rfl ?_
                refine K.bin (V := .int .i64 (w64 ((w64 (4 + (w64 x2))) + 4))) (gd0 rfl) rfl rfl (fun _ => rfl) rfl ?_
                refine K.partR (((w64 ((w64 (4 + (w64 x2))) + 4))).toNat) v1.length hI_rw (gd0 rfl) rfl (.at_ rfl h14.1 rfl) .no Try.underlying36 el36.size_run (tn_len h14.2) (Nat.le_refl _) rfl ?_
                refine K.move (.inr rfl) (gd0 rfl) rfl rfl ?_
                refine K.nil ?_
                refine At.block_normal ?_
                exact At.ag ⟨(n0, (((v1.drop (((w64 ((w64 (4 + (w64 x2))) + 4))).toNat)).take (v1.length - (((w64 ((w64 (4 + (w64 x2))) + 4))).toNat))), (v2 ++ [x5])), (partOf (((w64 ((w64 (4 + (w64 x2))) + 4))).toNat) v1.length 1 rw)), H1, ⟨_, _, (hI_rw.part (tn_len h14.2) (Nat.le_refl _))⟩⟩ [(105, 111)] [_, _] (Nat.lt_succ_self _) rfl ⟨rfl, rfl, trivial⟩ ⟨rfl, (fun _ => rfl), rfl, (rrow_ren rfl), trivial⟩ rfl
        ·
          replace H1 := bif_f H1 h1
          refine G.exit ?_
          refine At.over_exit ?_
          refine At.over_exit ?_
          refine At.block_hit ?_
          exact At.jd ⟨v2, oi H1⟩ [(102, 105)] [_, _] rfl ⟨rfl, trivial⟩ ⟨rfl, (fun _ => rfl), rfl, (rrow_ren rfl), trivial⟩ rfl
  ·
    rintro ⟨w1, rfl⟩
    replace H0 := sum_r H0
    show G _ _ [(4, .a (.c (.nv 102)))] [(0, some (rd S W0)), (102, some (rrow 102 36 u8E 1 w1))] _ _
    refine G.seq ?_
    refine G.rg ?_
    refine K.move (.inl rfl) (gd0 rfl) rfl rfl ?_
    refine K.move (.inr rfl) (gd0 rfl) rfl rfl ?_
    refine K.move (.inr rfl) (gd0 rfl) rfl rfl ?_
    refine K.nil ?_
    refine At.next ?_
    refine G.ret ?_
    refine At.ren (fs' := [(2, .a (.c (.nv 30))), (3, .a (.c (.v (.int .i64 0))))]) (tl := [(0, rd S W0), (30, rrow 30 36 u8E 1 w1)]) [(30, 102)] [_, _] rfl ⟨rfl, rfl, trivial⟩ ⟨rfl, (fun _ => rfl), rfl, (rrow_ren rfl), trivial⟩ rfl ?_
    exact At.dr Y [2, 3] rfl rfl (by cases H0; rfl) (by cases H0; rfl) rfl rfl rfl
theorem frame_Get_con {k : Nat}  {S : Foot} {W0 : World} {s0 : Value} {l0 : List Int} {r : List (List Int) × Int} (hL0 : LArg S W0 s0 u8E 1 l0) (H0 : frame_Get.f k l0 = some r) (m30 : Nat) (hd : ndB [m30] = true) : frame_Get_st S W0 s0 r m30 :=
  SCon.ren (rn [(30, m30)]) (frame_Get_con0 (k := k)  hL0 H0) ⟨(fun _ => rfl), trivial⟩ ⟨(fun _ => rfl), (rrow_ren rfl), trivial⟩ (rn_nd hd rfl rfl) (rn_ks hd rfl rfl rfl)
abbrev R19_Value_st (a0 : ByteArray) (r : Int) : Prop := SCon Try.prog 45 [.a (.c (.v (.string a0)))] [] (.a (.c (.v (.int .u64 r)))) [] []
theorem R19_Value_con0 {k : Nat}  {a0 : ByteArray} {r : Int}  (H0 : R19_Value.f k a0 = some r) : R19_Value_st a0 r := by
  rw [R19_Value.f] at H0
  refine spec_of [(0, _)] [] 20 Try.func45 rfl Try.ntmps45 rfl rfl rfl rfl (fun β W F => ?_)
  refine G.seq ?_
  refine G.rg ?_
  refine K.move (.inr rfl) (gd0 rfl) rfl rfl ?_
  refine K.nil ?_
  refine At.next ?_
  refine G.seq ?_
  refine G.rg ?_
  refine K.move (.inr rfl) (gd0 rfl) rfl rfl ?_
  refine K.nil ?_
  refine At.next ?_
  obtain ⟨x1, H1, H0⟩ := bnd H0
  refine G.sJ (σ := { v : Int // x1 = v }) (fun q => [(3, .a (.c (.v (.int .u64 q.1))))]) (fun q => []) ?_ ?_
  ·
    refine G.seq ?_
    refine G.rg ?_
    refine K.move (.inl rfl) (gd0 rfl) rfl rfl ?_
    refine K.bi1 (X := SV.raw (.string a0)) (V := .int .i64 (a0.size : Int)) (gd0 rfl) rfl (fun _ _ w => lenStr Try.underlying9 _ w) rfl ?_
    refine K.bin (V := .int .i64 (w64 ((a0.size : Int) - 1))) (gd0 rfl) rfl rfl (fun _ => rfl) rfl ?_
    refine K.move (.inr rfl) (gd0 rfl) rfl rfl ?_
    refine K.nil ?_
    refine At.next ?_
    refine G.block ?_
    refine G.lp (σ := { q : Nat × (Int × Int) // R19_Value.l0 k a0 q.1 q.2 = some x1 }) (fun q => [(0, .a (.c (.v (.string a0)))), (3, .a (.c (.v (.int .u64 q.1.2.1)))), (4, .a (.c (.v (.int .i64 q.1.2.2))))]) (fun q => []) (fun q => q.1.1) ⟨(k, (0, (w64 ((a0.size : Int) - 1)))), H1⟩ ?_ ?_
    · exact At.into [] [] rfl ⟨rfl, rfl, rfl, trivial⟩ trivial rfl
    ·
      rintro ⟨⟨n0, v1, v2⟩, H1⟩
      show G _ _ [(0, .a (.c (.v (.string a0)))), (3, .a (.c (.v (.int .u64 v1)))), (4, .a (.c (.v (.int .i64 v2))))] [] _ _
      cases n0 with
      | zero => exact absurd H1 (by simp [R19_Value.l0])
      | succ n0 =>
        have HL0 := H1
        rw [R19_Value.l0] at H1
        refine G.seq ?_
        refine G.seq ?_
        refine G.rg ?_
        refine K.move (.inl rfl) (gd0 rfl) rfl rfl ?_
        refine K.bin (V := .bool (decide (v2 ≥ 0))) (gd0 rfl) rfl rfl (fun _ => rfl) rfl ?_
        refine K.nil ?_
        refine At.next ?_
        refine G.cond rfl (fun h1 => ?_) (fun h1 => ?_)
        ·
          replace H1 := bif_t H1 h1
          refine G.skip ?_
          refine At.next ?_
          refine G.seq ?_
          refine G.block ?_
          obtain ⟨x2, hx2, H1⟩ := bnd H1
          refine G.rg ?_
          refine K.move (.inl rfl) (gd0 rfl) rfl rfl ?_
          refine K.bin (V := .int .u64 (IntKind.u64.wrap (v1 * 256))) (gd0 rfl) rfl rfl (fun _ => rfl) rfl ?_
          refine K.move (.inl rfl) (gd0 rfl) rfl rfl ?_
          refine K.move (.inl rfl) (gd0 rfl) rfl rfl ?_
          refine K.sidx (gd0 rfl) rfl rfl (bAt_run Try.underlying9 hx2) rfl ?_
          refine K.conv (V := .int .u64 (IntKind.u64.wrap x2)) (gd0 rfl) rfl (cv_int (by rw [Try.underlying5]; rfl) Try.underlying68) rfl ?_
          refine K.bin (V := .int .u64 (IntKind.u64.wrap ((IntKind.u64.wrap (v1 * 256)) + (IntKind.u64.wrap x2)))) (gd0 rfl) rfl rfl (fun _ => rfl) rfl ?_
          refine K.move (.inr rfl) (gd0 rfl) rfl rfl ?_
          refine K.nil ?_
          refine At.block_normal ?_
          refine At.next ?_
          refine G.rg ?_
          refine K.move (.inl rfl) (gd0 rfl) rfl rfl ?_
          refine K.bin (V := .int .i64 (w64 (v2 - 1))) (gd0 rfl) rfl rfl (fun _ => rfl) rfl ?_
          refine K.move (.inr rfl) (gd0 rfl) rfl rfl ?_
          refine K.nil ?_
          exact At.ag ⟨(n0, ((IntKind.u64.wrap ((IntKind.u64.wrap (v1 * 256)) + (IntKind.u64.wrap x2))), (w64 (v2 - 1)))), H1⟩ [] [] (Nat.lt_succ_self _) rfl ⟨rfl, rfl, rfl, trivial⟩ trivial rfl
        ·
          replace H1 := bif_f H1 h1
          refine G.exit ?_
          refine At.over_exit ?_
          refine At.over_exit ?_
          refine At.block_hit ?_
          exact At.jd ⟨v1, oi H1⟩ [] [] rfl ⟨rfl, trivial⟩ trivial rfl
  ·
    rintro ⟨_, rfl⟩
    show G _ _ [(3, .a (.c (.v (.int .u64 x1))))] [] _ _
    refine G.seq ?_
    refine G.rg ?_
    refine K.move (.inl rfl) (gd0 rfl) rfl rfl ?_
    refine K.move (.inr rfl) (gd0 rfl) rfl rfl ?_
    refine K.nil ?_
    refine At.next ?_
    refine G.ret ?_
    exact At.dr Y [2] rfl rfl (by cases H0; rfl) (by cases H0; rfl) rfl rfl rfl
theorem R19_Value_con {k : Nat}  {a0 : ByteArray} {r : Int}  (H0 : R19_Value.f k a0 = some r) : R19_Value_st a0 r :=
  SCon.ren (rn []) (R19_Value_con0 (k := k)   H0) trivial trivial (by simp) (by simp)
abbrev R19_Get_st (a0 : ByteArray) (r : List ByteArray × Int) (m30 : Nat) : Prop := SCon Try.prog 33 [.a (.c (.v (.string a0)))] [] (.tup [.c (.nv m30), .c (.v (.int .i64 r.2))]) [(m30, lrow m30 9 strE 1 r.1)] [m30]
theorem R19_Get_con0 {k : Nat}  {a0 : ByteArray} {r : List ByteArray × Int}  (H0 : R19_Get.f k a0 = some r) : R19_Get_st a0 r 30 := by
  rw [R19_Get.f] at H0
  refine spec_of [(0, _)] [] 47 Try.func33 rfl Try.ntmps33 rfl rfl rfl rfl (fun β W F => ?_)
  refine G.seq ?_
  refine G.rg ?_
  refine K.nilRow 100 9 strE 1 (.inl rfl) (gd0 rfl) rfl rfl rfl ?_
  refine K.move (.inr rfl) (gd0 rfl) rfl rfl ?_
  refine K.nil ?_
  refine At.next ?_
  refine G.seq ?_
  refine G.rg ?_
  refine K.nilRow 101 9 strE 1 (.inl rfl) (gd0 rfl) rfl rfl rfl ?_
  refine K.nil ?_
  refine At.next ?_
  obtain ⟨x1, H1, H0⟩ := bnd H0
  refine G.sJ (σ := { v : List ByteArray // x1 = Sum.inr v }) (fun q => [(4, .a (.c (.nv 102)))]) (fun q => [(102, lrow 102 9 strE 1 q.1)]) ?_ ?_
  ·
    refine G.block ?_
    refine G.lp (σ := { q : Nat × (ByteArray × List ByteArray) // R19_Get.l0 k q.1 q.2 = some x1 }) (fun q => [(0, .a (.c (.v (.string q.1.2.1)))), (4, .a (.c (.nv 105)))]) (fun q => [(105, lrow 105 9 strE 1 q.1.2.2)]) (fun q => q.1.1) ⟨(k, (a0, ([] : List ByteArray))), H1⟩ ?_ ?_
    · exact At.into [(105, 101)] [_] rfl ⟨rfl, rfl, trivial⟩ ⟨rfl, (lrow_ren rfl), trivial⟩ rfl
    ·
      rintro ⟨⟨n0, v1, v2⟩, H1⟩
      show G _ _ [(0, .a (.c (.v (.string v1)))), (4, .a (.c (.nv 105)))] [(105, some (lrow 105 9 strE 1 v2))] _ _
      cases n0 with
      | zero => exact absurd H1 (by simp [R19_Get.l0])
      | succ n0 =>
        have HL0 := H1
        rw [R19_Get.l0] at H1
        refine G.seq ?_
        refine G.seq ?_
        refine G.rg ?_
        refine K.move (.inl rfl) (gd0 rfl) rfl rfl ?_
        refine K.bi1 (X := SV.raw (.string v1)) (V := .int .i64 (v1.size : Int)) (gd0 rfl) rfl (fun _ _ w => lenStr Try.underlying9 _ w) rfl ?_
        refine K.bin (V := .bool (decide ((v1.size : Int) > 0))) (gd0 rfl) rfl rfl (fun _ => rfl) rfl ?_
        refine K.nil ?_
        refine At.next ?_
        refine G.cond rfl (fun h1 => ?_) (fun h1 => ?_)
        ·
          replace H1 := bif_t H1 h1
          refine G.skip ?_
          refine At.next ?_
          refine G.block ?_
          obtain ⟨x2, H2, H1⟩ := bnd H1
          refine G.sJ (σ := { v : Int × Int × Int × Bool // x2 = Sum.inr v }) (fun q => [(0, .a (.c (.v (.string v1)))), (4, .a (.c (.nv 106))), (14, .a (.c (.v (.string v1)))), (15, .a (.c (.v (.string (v1.extract 0 ((4 : Int).toNat)))))), (16, .a (.c (.v (.int .u64 q.1.1)))), (17, .a (.c (.v (.string v1)))), (18, .a (.c (.v (.int .i64 (v1.size : Int))))), (19, .a (.c (.v (.int .i64 q.1.2.1)))), (20, .a (.c (.v (.int .u64 q.1.2.2.1)))), (21, .a (.c (.v (.bool q.1.2.2.2))))]) (fun q => [(106, lrow 106 9 strE 1 v2)]) ?_ ?_
          ·
            refine G.seq ?_
            rcases Bool.eq_false_or_eq_true (decide ((v1.size : Int) < 8)) with h2 | h2
            ·
              replace H2 := bif_t H2 h2
              refine G.rg ?_
              refine K.move (.inl rfl) (gd0 rfl) rfl rfl ?_
              refine K.bi1 (X := SV.raw (.string v1)) (V := .int .i64 (v1.size : Int)) (gd0 rfl) rfl (fun _ _ w => lenStr Try.underlying9 _ w) rfl ?_
              refine K.bin (V := .bool (decide ((v1.size : Int) < 8))) (gd0 rfl) rfl rfl (fun _ => rfl) rfl ?_
              refine K.move (.inl rfl) (gd0 rfl) rfl rfl ?_
              refine K.skip rfl rfl rfl rfl (h2) rfl ?_
              refine K.skip rfl rfl rfl rfl (h2) rfl ?_
              refine K.skip rfl rfl rfl rfl (h2) rfl ?_
              refine K.skip rfl rfl rfl rfl (h2) rfl ?_
              refine K.skip rfl rfl rfl rfl (h2) rfl ?_
              refine K.skip rfl rfl rfl rfl (h2) rfl ?_
              refine K.skip rfl rfl rfl rfl (h2) rfl ?_
              refine K.skip rfl rfl rfl rfl (h2) rfl ?_
              refine K.pickT (gd0 rfl) rfl (h2) rfl rfl ?_
              refine K.nil ?_
              refine At.next ?_
              refine G.cond rfl (fun h3 => ?_) (fun h3 => ?_)
              ·
                refine G.seq ?_
                refine G.rg ?_
                refine K.nilRow 107 9 strE 1 (.inl rfl) (gd0 rfl) rfl rfl rfl ?_
                refine K.move (.inr rfl) (gd0 rfl) rfl rfl ?_
                refine K.nil ?_
                refine At.next ?_
                refine G.ret ?_
                refine At.over_ret ?_
                cases H2
                replace H1 := sum_l H1
                refine At.block_ret ?_
                refine At.over_ret ?_
                refine At.block_ret ?_
                refine At.over_ret ?_
                cases H1
                replace H0 := sum_l H0
                refine At.ren (fs' := [(2, .a (.c (.nv 30))), (3, .a (.c (.v (.int .i64 40))))]) (tl := [(30, lrow 30 9 strE 1 ([] : List ByteArray))]) [(30, 107)] [_] rfl ⟨rfl, rfl, trivial⟩ ⟨rfl, (lrow_ren rfl), trivial⟩ rfl ?_
                exact At.dr Y [2, 3] rfl rfl (by cases H0; rfl) (by cases H0; rfl) rfl rfl rfl
              · cases h3
            ·
              replace H2 := bif_f H2 h2
              obtain ⟨h4, H2⟩ := grd H2
              obtain ⟨x3, hx3, H2⟩ := bnd H2
              refine G.rg ?_
              refine K.move (.inl rfl) (gd0 rfl) rfl rfl ?_
              refine K.bi1 (X := SV.raw (.string v1)) (V := .int .i64 (v1.size : Int)) (gd0 rfl) rfl (fun _ _ w => lenStr Try.underlying9 _ w) rfl ?_
              refine K.bin (V := .bool (decide ((v1.size : Int) < 8))) (gd0 rfl) rfl rfl (fun _ => rfl) rfl ?_
              refine K.move (.inl rfl) (gd0 rfl) rfl rfl ?_
              refine K.move (.inl rfl) (gd1 rfl rfl rfl (h2)) rfl rfl ?_
              refine K.ssub 0 ((4 : Int).toNat) (gd1 rfl rfl rfl (h2)) rfl .no (.at_ rfl h4.1 rfl) Try.underlying9 (Nat.zero_le _) (tn_len h4.2) rfl ?_
              refine K.cR (cf 45 rfl) (R19_Value_con (k := k) hx3) (gd1 rfl rfl rfl (h2)) rfl rfl rfl rfl ?_
              refine K.move (.inl rfl) (gd1 rfl rfl rfl (h2)) rfl rfl ?_
              refine K.bi1 (X := SV.raw (.string v1)) (V := .int .i64 (v1.size : Int)) (gd1 rfl rfl rfl (h2)) rfl (fun _ _ w => lenStr Try.underlying9 _ w) rfl ?_
              refine K.bin (V := .int .i64 (w64 ((v1.size : Int) - 8))) (gd1 rfl rfl rfl (h2)) rfl rfl (fun _ => rfl) rfl ?_
              refine K.conv (V := .int .u64 (IntKind.u64.wrap (w64 ((v1.size : Int) - 8)))) (gd1 rfl rfl rfl (h2)) rfl (cv_int (by rw [Try.underlying3]; rfl) Try.underlying68) rfl ?_
              refine K.bin (V := .bool (decide (x3 > (IntKind.u64.wrap (w64 ((v1.size : Int) - 8)))))) (gd1 rfl rfl rfl (h2)) rfl rfl (fun _ => rfl) rfl ?_
              refine K.pickF (gd0 rfl) rfl (h2) rfl rfl ?_
              refine K.nil ?_
              refine At.next ?_
              refine G.cond rfl (fun h5 => ?_) (fun h5 => ?_)
              ·
                replace H2 := bif_t H2 h5
                refine G.seq ?_
                refine G.rg ?_
                refine K.nilRow 108 9 strE 1 (.inl rfl) (gd0 rfl) rfl rfl rfl ?_
                refine K.move (.inr rfl) (gd0 rfl) rfl rfl ?_
                refine K.nil ?_
                refine At.next ?_
                refine G.ret ?_
                refine At.over_ret ?_
                cases H2
                replace H1 := sum_l H1
                refine At.block_ret ?_
                refine At.over_ret ?_
                refine At.block_ret ?_
                refine At.over_ret ?_
                cases H1
                replace H0 := sum_l H0
                refine At.ren (fs' := [(2, .a (.c (.nv 30))), (3, .a (.c (.v (.int .i64 40))))]) (tl := [(30, lrow 30 9 strE 1 ([] : List ByteArray))]) [(30, 108)] [_] rfl ⟨rfl, rfl, trivial⟩ ⟨rfl, (lrow_ren rfl), trivial⟩ rfl ?_
                exact At.dr Y [2, 3] rfl rfl (by cases H0; rfl) (by cases H0; rfl) rfl rfl rfl
              ·
                replace H2 := bif_f H2 h5
                refine G.skip ?_
                exact At.jd ⟨(x3, (w64 ((v1.size : Int) - 8)), (IntKind.u64.wrap (w64 ((v1.size : Int) - 8))), (decide (x3 > (IntKind.u64.wrap (w64 ((v1.size : Int) - 8)))))), oi H2⟩ [(106, 105)] [_] rfl ⟨rfl, rfl, rfl, rfl, rfl, rfl, rfl, rfl, rfl, rfl, trivial⟩ ⟨rfl, (lrow_ren rfl), trivial⟩ rfl
          ·
            rintro ⟨w2, rfl⟩
            replace H1 := sum_r H1
            show G _ _ [(0, .a (.c (.v (.string v1)))), (4, .a (.c (.nv 106))), (14, .a (.c (.v (.string v1)))), (15, .a (.c (.v (.string (v1.extract 0 ((4 : Int).toNat)))))), (16, .a (.c (.v (.int .u64 w2.1)))), (17, .a (.c (.v (.string v1)))), (18, .a (.c (.v (.int .i64 (v1.size : Int))))), (19, .a (.c (.v (.int .i64 w2.2.1)))), (20, .a (.c (.v (.int .u64 w2.2.2.1)))), (21, .a (.c (.v (.bool w2.2.2.2))))] [(106, some (lrow 106 9 strE 1 v2))] _ _
            refine G.seq ?_
            obtain ⟨h6, H1⟩ := grd H1
            obtain ⟨x4, hx4, H1⟩ := bnd H1
            refine G.rg ?_
            refine K.move (.inl rfl) (gd0 rfl) rfl rfl ?_
            refine K.ssub 0 ((4 : Int).toNat) (gd0 rfl) rfl .no (.at_ rfl h6.1 rfl) Try.underlying9 (Nat.zero_le _) (tn_len h6.2) rfl ?_
            refine K.cR (cf 45 rfl) (R19_Value_con (k := k) hx4) (gd0 rfl) rfl rfl rfl rfl ?_
            refine K.conv (V := .int .i64 (w64 x4)) (gd0 rfl) rfl (cv_int (by rw [Try.underlying68]; rfl) Try.underlying3) rfl ?_
            refine K.move (.inr rfl) (gd0 rfl) rfl rfl ?_
            refine K.nil ?_
            refine At.next ?_
            refine G.seq ?_
            obtain ⟨h7, H1⟩ := grd H1
            refine G.rg ?_
            refine K.move (.inl rfl) (gd0 rfl) rfl rfl ?_
            refine K.move (.inl rfl) (gd0 rfl) rfl rfl ?_
            refine K.bin (V := .int .i64 (w64 (4 + (w64 x4)))) (gd0 rfl) rfl rfl (fun _ => rfl) rfl ?_
            refine K.ssub ((4 : Int).toNat) (((w64 (4 + (w64 x4)))).toNat) (gd0 rfl) rfl (.at_ rfl h7.1 rfl) (.at_ rfl (Int.le_trans h7.1 h7.2.1) rfl) Try.underlying9 (tn_le h7.2.1) (tn_len h7.2.2) rfl ?_
            refine K.move (.inr rfl) (gd0 rfl) rfl rfl ?_
            refine K.nil ?_
            refine At.next ?_
            refine G.seq ?_
            refine G.seq ?_
            obtain ⟨x5, hx5, H1⟩ := bnd H1
            obtain ⟨h8, H1⟩ := grd H1
            refine G.rd mixed ?_
            refine K.move (.inl rfl) (gd0 rfl) rfl rfl ?_
            refine K.cR (cf 29 rfl) (R19_Frame_con (k := k) hx5) (gd0 rfl) rfl rfl rfl rfl ?_
            refine K.move (.inl rfl) (gd0 rfl) rfl rfl ?_
            refine K.move (.inl rfl) (gd0 rfl) rfl rfl ?_
            refine K.bin (V := .int .i64 (w64 (8 + (w64 x4)))) (gd0 rfl) rfl rfl (fun _ => rfl) rfl ?_
            refine K.ssub 0 (((w64 (8 + (w64 x4)))).toNat) (gd0 rfl) rfl .no (.at_ rfl h8.1 rfl) Try.underlying9 (Nat.zero_le _) (tn_len h8.2) rfl ?_
            refine K.bin (V := .bool (!(gseq x5 (v1.extract 0 (((w64 (8 + (w64 x4)))).toNat))))) (gd0 rfl) rfl rfl (st_neq _ _ _ _ _) rfl ?_
            refine K.nil ?_
            refine ⟨by kernel_rfl, ?_⟩
            refine At.next ?_
            refine G.cond rfl (fun h9 => ?_) (fun h9 => ?_)
            ·
              replace H1 := bif_t H1 h9
              refine G.seq ?_
              refine G.rg ?_
              refine K.nilRow 109 9 strE 1 (.inl rfl) (gd0 rfl) rfl rfl rfl ?_
              refine K.move (.inr rfl) (gd0 rfl) rfl rfl ?_
              refine K.nil ?_
              refine At.next ?_
              refine G.ret ?_
              refine At.over_ret ?_
              refine At.block_ret ?_
              refine At.over_ret ?_
              refine At.block_ret ?_
              refine At.over_ret ?_
              cases H1
              replace H0 := sum_l H0
              refine At.ren (fs' := [(2, .a (.c (.nv 30))), (3, .a (.c (.v (.int .i64 41))))]) (tl := [(30, lrow 30 9 strE 1 ([] : List ByteArray))]) [(30, 109)] [_] rfl ⟨rfl, rfl, trivial⟩ ⟨rfl, (lrow_ren rfl), trivial⟩ rfl ?_
              exact At.dr Y [2, 3] rfl rfl (by cases H0; rfl) (by cases H0; rfl) rfl rfl rfl
            ·
              replace H1 := bif_f H1 h9
              refine G.skip ?_
              refine At.next ?_
              refine G.seq ?_
              obtain ⟨h10, H1⟩ := grd H1
              refine G.rg ?_
              refine K.move (.inl rfl) (gd0 rfl) rfl rfl ?_
              refine K.move (.inl rfl) (gd0 rfl) rfl rfl ?_
              refine K.buildL Y 110 ([(v1.extract ((4 : Int).toNat) (((w64 (4 + (w64 x4)))).toNat))] : List ByteArray) [(0, _)] [((.tmp 39), _)] strE_len (gd0 rfl) (AllE.spec ⟨rfl, trivial⟩) rfl rfl Try.underlying46 t9 rfl rfl rfl rfl rfl rfl rfl rfl ?_
              refine K.appendL 111 (lrowV 110 9 strE 1 ([(v1.extract ((4 : Int).toNat) (((w64 (4 + (w64 x4)))).toNat))] : List ByteArray)) _ el46 (lrowV_is strE_len (by decide)) strE_one (gd0 rfl) rfl rfl rfl rfl rfl (ap_m h10) (ap_b h10 (by decide)) rfl rfl rfl rfl rfl rfl ?_
              refine K.move (.inr rfl) (gd0 rfl) rfl rfl ?_
              refine K.nil ?_
              refine At.next ?_
              obtain ⟨h11, H1⟩ := grd H1
              refine G.rg ?_
              refine K.move (.inl rfl) (gd0 rfl) rfl rfl ?_
              refine K.move (.inl rfl) (gd0 rfl) rfl rfl ?_
              refine K.bin (V := .int .i64 (w64 (8 + (w64 x4)))) (gd0 rfl) rfl rfl (fun _ => rfl) rfl ?_
              refine K.ssub (((w64 (8 + (w64 x4)))).toNat) v1.size (gd0 rfl) rfl (.at_ rfl h11.1 rfl) .no Try.underlying9 (tn_len h11.2) (Nat.le_refl _) rfl ?_
              refine K.move (.inr rfl) (gd0 rfl) rfl rfl ?_
              refine K.nil ?_
              refine At.block_normal ?_
              exact At.ag ⟨(n0, ((v1.extract (((w64 (8 + (w64 x4)))).toNat) v1.size), (v2 ++ ([(v1.extract ((4 : Int).toNat) (((w64 (4 + (w64 x4)))).toNat))] : List ByteArray)))), H1⟩ [(105, 111)] [_] (Nat.lt_succ_self _) rfl ⟨rfl, rfl, trivial⟩ ⟨rfl, (lrow_ren rfl), trivial⟩ rfl
        ·
          replace H1 := bif_f H1 h1
          refine G.exit ?_
          refine At.over_exit ?_
          refine At.over_exit ?_
          refine At.block_hit ?_
          exact At.jd ⟨v2, oi H1⟩ [(102, 105)] [_] rfl ⟨rfl, trivial⟩ ⟨rfl, (lrow_ren rfl), trivial⟩ rfl
  ·
    rintro ⟨w1, rfl⟩
    replace H0 := sum_r H0
    show G _ _ [(4, .a (.c (.nv 102)))] [(102, some (lrow 102 9 strE 1 w1))] _ _
    refine G.seq ?_
    refine G.rg ?_
    refine K.move (.inl rfl) (gd0 rfl) rfl rfl ?_
    refine K.move (.inr rfl) (gd0 rfl) rfl rfl ?_
    refine K.move (.inr rfl) (gd0 rfl) rfl rfl ?_
    refine K.nil ?_
    refine At.next ?_
    refine G.ret ?_
    refine At.ren (fs' := [(2, .a (.c (.nv 30))), (3, .a (.c (.v (.int .i64 0))))]) (tl := [(30, lrow 30 9 strE 1 w1)]) [(30, 102)] [_] rfl ⟨rfl, rfl, trivial⟩ ⟨rfl, (lrow_ren rfl), trivial⟩ rfl ?_
    exact At.dr Y [2, 3] rfl rfl (by cases H0; rfl) (by cases H0; rfl) rfl rfl rfl
theorem R19_Get_con {k : Nat}  {a0 : ByteArray} {r : List ByteArray × Int}  (H0 : R19_Get.f k a0 = some r) (m30 : Nat) (hd : ndB [m30] = true) : R19_Get_st a0 r m30 :=
  SCon.ren (rn [(30, m30)]) (R19_Get_con0 (k := k)   H0) trivial ⟨(lrow_ren rfl), trivial⟩ (rn_nd hd rfl rfl) (rn_ks hd rfl rfl rfl)
end Go.Proofs.Ytheopcgjdfckmaa


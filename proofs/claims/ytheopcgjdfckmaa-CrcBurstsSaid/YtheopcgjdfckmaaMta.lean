/- Layer 6: walks. Printed by a program of mine. -/
import Derived.KernelRfl
import Derived.Test.YtheopcgjdfckmaaMd
namespace Go.Proofs.Ytheopcgjdfckmaa
open Go Go.Proofs.Ytheopcgjdfckmaa.Sx
set_option linter.unusedVariables false
set_option linter.unusedSimpArgs false

theorem crc_nibbles_con0 {k : Nat}  {r : TArr16Int}  (H0 : crc_nibbles.f k = some r) : SCon Try.prog 39 [] [] (.a (.agg ((eTArr16Int r).map .v))) [] [] := by
  rw [crc_nibbles.f] at H0
  refine spec_of [] [] 24 Try.func39 rfl Try.ntmps39 rfl rfl rfl rfl (fun β W F => ?_)
  refine G.seq ?_
  refine G.rg ?_
  refine K.alloc Y 100 [_, _, _, _, _, _, _, _, _, _, _, _, _, _, _, _] (gd0 rfl) t65 rfl rfl rfl rfl rfl ?_
  refine K.nil ?_
  refine At.next ?_
  refine G.seq ?_
  refine G.rg ?_
  refine K.alloc Y 101 [_, _, _, _, _, _, _, _, _, _, _, _, _, _, _, _] (gd0 rfl) t65 rfl rfl rfl rfl rfl ?_
  refine K.nil ?_
  refine At.next ?_
  obtain ⟨x1, H1, H0⟩ := bnd H0
  refine G.seqJ (σ := { v : TArr16Int // x1 = v }) (fun q => [(0, .a (.c (.p 102 0))), (1, .a (.c (.p 103 0)))]) (fun q => [(102, blk 102 [.v (.int .u32 0), .v (.int .u32 0), .v (.int .u32 0), .v (.int .u32 0), .v (.int .u32 0), .v (.int .u32 0), .v (.int .u32 0), .v (.int .u32 0), .v (.int .u32 0), .v (.int .u32 0), .v (.int .u32 0), .v (.int .u32 0), .v (.int .u32 0), .v (.int .u32 0), .v (.int .u32 0), .v (.int .u32 0)] 65), (103, blk 103 [.v (.int .u32 q.1.i0), .v (.int .u32 q.1.i1), .v (.int .u32 q.1.i2), .v (.int .u32 q.1.i3), .v (.int .u32 q.1.i4), .v (.int .u32 q.1.i5), .v (.int .u32 q.1.i6), .v (.int .u32 q.1.i7), .v (.int .u32 q.1.i8), .v (.int .u32 q.1.i9), .v (.int .u32 q.1.i10), .v (.int .u32 q.1.i11), .v (.int .u32 q.1.i12), .v (.int .u32 q.1.i13), .v (.int .u32 q.1.i14), .v (.int .u32 q.1.i15)] 65)]) ?_ ?_
  ·
    refine G.seq ?_
    refine G.rg ?_
    refine K.move (.inl rfl) (gd0 rfl) rfl rfl ?_
    refine K.nil ?_
    refine At.next ?_
    refine G.block ?_
    refine G.loop (σ := { q : Nat × (TArr16Int × Int) // crc_nibbles.l0 k q.1 q.2 = some x1 }) (fun q => [(0, .a (.c (.p 108 0))), (1, .a (.c (.p 109 0))), (4, .a (.c (.v (.int .i64 q.1.2.2))))]) (fun q => [(108, blk 108 [.v (.int .u32 0), .v (.int .u32 0), .v (.int .u32 0), .v (.int .u32 0), .v (.int .u32 0), .v (.int .u32 0), .v (.int .u32 0), .v (.int .u32 0), .v (.int .u32 0), .v (.int .u32 0), .v (.int .u32 0), .v (.int .u32 0), .v (.int .u32 0), .v (.int .u32 0), .v (.int .u32 0), .v (.int .u32 0)] 65), (109, blk 109 [.v (.int .u32 q.1.2.1.i0), .v (.int .u32 q.1.2.1.i1), .v (.int .u32 q.1.2.1.i2), .v (.int .u32 q.1.2.1.i3), .v (.int .u32 q.1.2.1.i4), .v (.int .u32 q.1.2.1.i5), .v (.int .u32 q.1.2.1.i6), .v (.int .u32 q.1.2.1.i7), .v (.int .u32 q.1.2.1.i8), .v (.int .u32 q.1.2.1.i9), .v (.int .u32 q.1.2.1.i10), .v (.int .u32 q.1.2.1.i11), .v (.int .u32 q.1.2.1.i12), .v (.int .u32 q.1.2.1.i13), .v (.int .u32 q.1.2.1.i14), .v (.int .u32 q.1.2.1.i15)] 65)]) (fun q => q.1.1) ⟨(k, ((TArr16Int.mk 0 0 0 0 0 0 0 0 0 0 0 0 0 0 0 0), 0)), H1⟩ ?_ ?_
    · exact At.into [(108, 100), (109, 101)] [_, _] rfl ⟨rfl, rfl, rfl, trivial⟩ ⟨rfl, (blk_ren rfl rfl), rfl, (blk_ren rfl rfl), trivial⟩ rfl
    ·
      rintro ⟨⟨n0, v1, v2⟩, H1⟩
      show G _ _ [(0, .a (.c (.p 108 0))), (1, .a (.c (.p 109 0))), (4, .a (.c (.v (.int .i64 v2))))] [(108, some (blk 108 [.v (.int .u32 0), .v (.int .u32 0), .v (.int .u32 0), .v (.int .u32 0), .v (.int .u32 0), .v (.int .u32 0), .v (.int .u32 0), .v (.int .u32 0), .v (.int .u32 0), .v (.int .u32 0), .v (.int .u32 0), .v (.int .u32 0), .v (.int .u32 0), .v (.int .u32 0), .v (.int .u32 0), .v (.int .u32 0)] 65)), (109, some (blk 109 [.v (.int .u32 v1.i0), .v (.int .u32 v1.i1), .v (.int .u32 v1.i2), .v (.int .u32 v1.i3), .v (.int .u32 v1.i4), .v (.int .u32 v1.i5), .v (.int .u32 v1.i6), .v (.int .u32 v1.i7), .v (.int .u32 v1.i8), .v (.int .u32 v1.i9), .v (.int .u32 v1.i10), .v (.int .u32 v1.i11), .v (.int .u32 v1.i12), .v (.int .u32 v1.i13), .v (.int .u32 v1.i14), .v (.int .u32 v1.i15)] 65))] _ _
      cases n0 with
      | zero => exact absurd H1 (by simp [crc_nibbles.l0])
      | succ n0 =>
        have HL0 := H1
        rw [crc_nibbles.l0] at H1
        refine G.seq ?_
        refine G.rg ?_
        refine K.bin (V := .bool (decide (v2 < 16))) (gd0 rfl) rfl rfl (fun _ => rfl) rfl ?_
        refine K.nil ?_
        refine At.next ?_
        refine G.seq ?_
        refine G.cond rfl (fun h1 => ?_) (fun h1 => ?_)
        ·
          replace H1 := bif_t H1 h1
          refine G.skip ?_
          refine At.next ?_
          obtain ⟨x2, H2, H1⟩ := bnd H1
          refine G.seqJ (σ := { v : TArr16Int // x2 = v }) (fun q => [(0, .a (.c (.p 110 0))), (1, .a (.c (.p 111 0))), (4, .a (.c (.v (.int .i64 v2))))]) (fun q => [(110, blk 110 [.v (.int .u32 0), .v (.int .u32 0), .v (.int .u32 0), .v (.int .u32 0), .v (.int .u32 0), .v (.int .u32 0), .v (.int .u32 0), .v (.int .u32 0), .v (.int .u32 0), .v (.int .u32 0), .v (.int .u32 0), .v (.int .u32 0), .v (.int .u32 0), .v (.int .u32 0), .v (.int .u32 0), .v (.int .u32 0)] 65), (111, blk 111 [.v (.int .u32 q.1.i0), .v (.int .u32 q.1.i1), .v (.int .u32 q.1.i2), .v (.int .u32 q.1.i3), .v (.int .u32 q.1.i4), .v (.int .u32 q.1.i5), .v (.int .u32 q.1.i6), .v (.int .u32 q.1.i7), .v (.int .u32 q.1.i8), .v (.int .u32 q.1.i9), .v (.int .u32 q.1.i10), .v (.int .u32 q.1.i11), .v (.int .u32 q.1.i12), .v (.int .u32 q.1.i13), .v (.int .u32 q.1.i14), .v (.int .u32 q.1.i15)] 65)]) ?_ ?_
          ·
            refine G.block ?_
            refine G.seq ?_
            refine G.rg ?_
            refine K.move (.inl rfl) (gd0 rfl) rfl rfl ?_
            refine K.move (.inr rfl) (gd0 rfl) rfl rfl ?_
            refine K.nil ?_
            refine At.next ?_
            refine G.seq ?_
            refine G.rg ?_
            refine K.move (.inl rfl) (gd0 rfl) rfl rfl ?_
            refine K.conv (V := .int .u32 (IntKind.u32.wrap v2)) (gd0 rfl) rfl (cv_int (by rw [Try.underlying3]; rfl) Try.underlying37) rfl ?_
            refine K.move (.inr rfl) (gd0 rfl) rfl rfl ?_
            refine K.nil ?_
            refine At.next ?_
            obtain ⟨x3, H3, H2⟩ := bnd H2
            refine G.seqJ (σ := { v : Int // x3 = v }) (fun q => [(0, .a (.c (.p 112 0))), (1, .a (.c (.p 113 0))), (2, .a (.c (.v (.int .i64 v2)))), (3, .a (.c (.v (.int .u32 q.1)))), (4, .a (.c (.v (.int .i64 v2))))]) (fun q => [(112, blk 112 [.v (.int .u32 0), .v (.int .u32 0), .v (.int .u32 0), .v (.int .u32 0), .v (.int .u32 0), .v (.int .u32 0), .v (.int .u32 0), .v (.int .u32 0), .v (.int .u32 0), .v (.int .u32 0), .v (.int .u32 0), .v (.int .u32 0), .v (.int .u32 0), .v (.int .u32 0), .v (.int .u32 0), .v (.int .u32 0)] 65), (113, blk 113 [.v (.int .u32 v1.i0), .v (.int .u32 v1.i1), .v (.int .u32 v1.i2), .v (.int .u32 v1.i3), .v (.int .u32 v1.i4), .v (.int .u32 v1.i5), .v (.int .u32 v1.i6), .v (.int .u32 v1.i7), .v (.int .u32 v1.i8), .v (.int .u32 v1.i9), .v (.int .u32 v1.i10), .v (.int .u32 v1.i11), .v (.int .u32 v1.i12), .v (.int .u32 v1.i13), .v (.int .u32 v1.i14), .v (.int .u32 v1.i15)] 65)]) ?_ ?_
            ·
              refine G.seq ?_
              refine G.rg ?_
              refine K.move (.inl rfl) (gd0 rfl) rfl rfl ?_
              refine K.nil ?_
              refine At.next ?_
              refine G.block ?_
              refine G.loop (σ := { q : Nat × (Int × Int) // crc_nibbles.l1 k q.1 q.2 = some x3 }) (fun q => [(0, .a (.c (.p 118 0))), (1, .a (.c (.p 119 0))), (2, .a (.c (.v (.int .i64 v2)))), (3, .a (.c (.v (.int .u32 q.1.2.1)))), (4, .a (.c (.v (.int .i64 v2)))), (9, .a (.c (.v (.int .i64 q.1.2.2))))]) (fun q => [(118, blk 118 [.v (.int .u32 0), .v (.int .u32 0), .v (.int .u32 0), .v (.int .u32 0), .v (.int .u32 0), .v (.int .u32 0), .v (.int .u32 0), .v (.int .u32 0), .v (.int .u32 0), .v (.int .u32 0), .v (.int .u32 0), .v (.int .u32 0), .v (.int .u32 0), .v (.int .u32 0), .v (.int .u32 0), .v (.int .u32 0)] 65), (119, blk 119 [.v (.int .u32 v1.i0), .v (.int .u32 v1.i1), .v (.int .u32 v1.i2), .v (.int .u32 v1.i3), .v (.int .u32 v1.i4), .v (.int .u32 v1.i5), .v (.int .u32 v1.i6), .v (.int .u32 v1.i7), .v (.int .u32 v1.i8), .v (.int .u32 v1.i9), .v (.int .u32 v1.i10), .v (.int .u32 v1.i11), .v (.int .u32 v1.i12), .v (.int .u32 v1.i13), .v (.int .u32 v1.i14), .v (.int .u32 v1.i15)] 65)]) (fun q => q.1.1) ⟨(k, ((IntKind.u32.wrap v2), 0)), H3⟩ ?_ ?_
              · exact At.into [(118, 108), (119, 109)] [_, _] rfl ⟨rfl, rfl, rfl, rfl, rfl, rfl, trivial⟩ ⟨rfl, (blk_ren rfl rfl), rfl, (blk_ren rfl rfl), trivial⟩ rfl
              ·
                rintro ⟨⟨n0, v101, v102⟩, H3⟩
                show G _ _ [(0, .a (.c (.p 118 0))), (1, .a (.c (.p 119 0))), (2, .a (.c (.v (.int .i64 v2)))), (3, .a (.c (.v (.int .u32 v101)))), (4, .a (.c (.v (.int .i64 v2)))), (9, .a (.c (.v (.int .i64 v102))))] [(118, some (blk 118 [.v (.int .u32 0), .v (.int .u32 0), .v (.int .u32 0), .v (.int .u32 0), .v (.int .u32 0), .v (.int .u32 0), .v (.int .u32 0), .v (.int .u32 0), .v (.int .u32 0), .v (.int .u32 0), .v (.int .u32 0), .v (.int .u32 0), .v (.int .u32 0), .v (.int .u32 0), .v (.int .u32 0), .v (.int .u32 0)] 65)), (119, some (blk 119 [.v (.int .u32 v1.i0), .v (.int .u32 v1.i1), .v (.int .u32 v1.i2), .v (.int .u32 v1.i3), .v (.int .u32 v1.i4), .v (.int .u32 v1.i5), .v (.int .u32 v1.i6), .v (.int .u32 v1.i7), .v (.int .u32 v1.i8), .v (.int .u32 v1.i9), .v (.int .u32 v1.i10), .v (.int .u32 v1.i11), .v (.int .u32 v1.i12), .v (.int .u32 v1.i13), .v (.int .u32 v1.i14), .v (.int .u32 v1.i15)] 65))] _ _
                cases n0 with
                | zero => exact absurd H3 (by simp [crc_nibbles.l1])
                | succ n0 =>
                  have HL1 := H3
                  rw [crc_nibbles.l1] at H3
                  refine G.seq ?_
                  refine G.rg ?_
                  refine K.bin (V := .bool (decide (v102 < 4))) (gd0 rfl) rfl rfl (fun _ => rfl) rfl ?_
                  refine K.nil ?_
                  refine At.next ?_
                  refine G.seq ?_
                  refine G.cond rfl (fun h2 => ?_) (fun h2 => ?_)
                  ·
                    replace H3 := bif_t H3 h2
                    refine G.skip ?_
                    refine At.next ?_
                    refine G.seq ?_
                    refine G.block ?_
                    refine G.rg ?_
                    refine K.move (.inl rfl) (gd0 rfl) rfl rfl ?_
                    refine K.bin (V := .int .u32 (gshr .u32 v101 1)) (gd0 rfl) rfl rfl (bt_shr _ _ _ _ (by decide)) rfl ?_
                    refine K.move (.inl rfl) (gd0 rfl) rfl rfl ?_
                    refine K.bin (V := .int .u32 (gand .u32 v101 1)) (gd0 rfl) rfl rfl (bt_and _ _ _) rfl ?_
                    refine K.un (V := .int .u32 (IntKind.u32.wrap (0 - (gand .u32 v101 1)))) (gd0 rfl) rfl (fun _ => rfl) rfl ?_
                    refine K.bin (V := .int .u32 (gand .u32 3988292384 (IntKind.u32.wrap (0 - (gand .u32 v101 1))))) (gd0 rfl) rfl rfl (bt_and _ _ _) rfl ?_
                    refine K.bin (V := .int .u32 (gxor .u32 (gshr .u32 v101 1) (gand .u32 3988292384 (IntKind.u32.wrap (0 - (gand .u32 v101 1)))))) (gd0 rfl) rfl rfl (bt_xor _ _ _) rfl ?_
                    refine K.move (.inr rfl) (gd0 rfl) rfl rfl ?_
                    refine K.nil ?_
                    refine At.block_normal ?_
                    refine At.next ?_
                    refine G.rg ?_
                    refine K.bin (V := .int .i64 (w64 (v102 + 1))) (gd0 rfl) rfl rfl (fun _ => rfl) rfl ?_
                    refine K.move (.inl rfl) (gd0 rfl) rfl rfl ?_
                    refine K.nil ?_
                    exact At.again (σ := { q : Nat × (Int × Int) // crc_nibbles.l1 k q.1 q.2 = some x3 }) (Fs := fun q => [(0, .a (.c (.p 118 0))), (1, .a (.c (.p 119 0))), (2, .a (.c (.v (.int .i64 v2)))), (3, .a (.c (.v (.int .u32 q.1.2.1)))), (4, .a (.c (.v (.int .i64 v2)))), (9, .a (.c (.v (.int .i64 q.1.2.2))))]) (Tl := fun q => [(118, blk 118 [.v (.int .u32 0), .v (.int .u32 0), .v (.int .u32 0), .v (.int .u32 0), .v (.int .u32 0), .v (.int .u32 0), .v (.int .u32 0), .v (.int .u32 0), .v (.int .u32 0), .v (.int .u32 0), .v (.int .u32 0), .v (.int .u32 0), .v (.int .u32 0), .v (.int .u32 0), .v (.int .u32 0), .v (.int .u32 0)] 65), (119, blk 119 [.v (.int .u32 v1.i0), .v (.int .u32 v1.i1), .v (.int .u32 v1.i2), .v (.int .u32 v1.i3), .v (.int .u32 v1.i4), .v (.int .u32 v1.i5), .v (.int .u32 v1.i6), .v (.int .u32 v1.i7), .v (.int .u32 v1.i8), .v (.int .u32 v1.i9), .v (.int .u32 v1.i10), .v (.int .u32 v1.i11), .v (.int .u32 v1.i12), .v (.int .u32 v1.i13), .v (.int .u32 v1.i14), .v (.int .u32 v1.i15)] 65)]) (μ := fun q => q.1.1) (s := ⟨(n0 + 1, (v101, v102)), HL1⟩) ⟨(n0, ((gxor .u32 (gshr .u32 v101 1) (gand .u32 3988292384 (IntKind.u32.wrap (0 - (gand .u32 v101 1))))), (w64 (v102 + 1)))), H3⟩ [] [_, _] (Nat.lt_succ_self _) rfl ⟨rfl, rfl, rfl, rfl, rfl, rfl, trivial⟩ ⟨rfl, (blk_ren rfl rfl), rfl, (blk_ren rfl rfl), trivial⟩ rfl
                  ·
                    replace H3 := bif_f H3 h2
                    refine G.exit ?_
                    refine At.over_exit ?_
                    refine At.over_exit ?_
                    refine At.block_hit ?_
                    exact At.joined (σ := { v : Int // x3 = v }) (Fs := fun q => [(0, .a (.c (.p 112 0))), (1, .a (.c (.p 113 0))), (2, .a (.c (.v (.int .i64 v2)))), (3, .a (.c (.v (.int .u32 q.1)))), (4, .a (.c (.v (.int .i64 v2))))]) (Tl := fun q => [(112, blk 112 [.v (.int .u32 0), .v (.int .u32 0), .v (.int .u32 0), .v (.int .u32 0), .v (.int .u32 0), .v (.int .u32 0), .v (.int .u32 0), .v (.int .u32 0), .v (.int .u32 0), .v (.int .u32 0), .v (.int .u32 0), .v (.int .u32 0), .v (.int .u32 0), .v (.int .u32 0), .v (.int .u32 0), .v (.int .u32 0)] 65), (113, blk 113 [.v (.int .u32 v1.i0), .v (.int .u32 v1.i1), .v (.int .u32 v1.i2), .v (.int .u32 v1.i3), .v (.int .u32 v1.i4), .v (.int .u32 v1.i5), .v (.int .u32 v1.i6), .v (.int .u32 v1.i7), .v (.int .u32 v1.i8), .v (.int .u32 v1.i9), .v (.int .u32 v1.i10), .v (.int .u32 v1.i11), .v (.int .u32 v1.i12), .v (.int .u32 v1.i13), .v (.int .u32 v1.i14), .v (.int .u32 v1.i15)] 65)]) ⟨v101, (Option.some.inj H3).symm⟩ [(112, 118), (113, 119)] [_, _] rfl ⟨rfl, rfl, rfl, rfl, rfl, trivial⟩ ⟨rfl, (blk_ren rfl rfl), rfl, (blk_ren rfl rfl), trivial⟩ rfl
            ·
              rintro ⟨_, rfl⟩
              show G _ _ [(0, .a (.c (.p 112 0))), (1, .a (.c (.p 113 0))), (2, .a (.c (.v (.int .i64 v2)))), (3, .a (.c (.v (.int .u32 x3)))), (4, .a (.c (.v (.int .i64 v2))))] [(112, some (blk 112 [.v (.int .u32 0), .v (.int .u32 0), .v (.int .u32 0), .v (.int .u32 0), .v (.int .u32 0), .v (.int .u32 0), .v (.int .u32 0), .v (.int .u32 0), .v (.int .u32 0), .v (.int .u32 0), .v (.int .u32 0), .v (.int .u32 0), .v (.int .u32 0), .v (.int .u32 0), .v (.int .u32 0), .v (.int .u32 0)] 65)), (113, some (blk 113 [.v (.int .u32 v1.i0), .v (.int .u32 v1.i1), .v (.int .u32 v1.i2), .v (.int .u32 v1.i3), .v (.int .u32 v1.i4), .v (.int .u32 v1.i5), .v (.int .u32 v1.i6), .v (.int .u32 v1.i7), .v (.int .u32 v1.i8), .v (.int .u32 v1.i9), .v (.int .u32 v1.i10), .v (.int .u32 v1.i11), .v (.int .u32 v1.i12), .v (.int .u32 v1.i13), .v (.int .u32 v1.i14), .v (.int .u32 v1.i15)] 65))] _ _
              obtain ⟨x4, hx4, H2⟩ := bnd H2
              refine G.rg ?_
              refine K.move (.inl rfl) (gd0 rfl) rfl rfl ?_
              refine K.move (.inl rfl) (gd0 rfl) rfl rfl ?_
              refine K.idxD (off' := v2.toNat) _ tA65 (atL_lt hx4).1 (atL_lt hx4).2 (gd0 rfl) rfl rfl (by omega) rfl ?_
              refine K.store Y _ (gd0 rfl) rfl rfl rfl t37 rfl rfl rfl (TArr16Int_st_u32 v1 x3 _ (atL_lt hx4).2) (Nat.ble_eq_true_of_le (atL_lt hx4).2) ?_
              refine K.nil ?_
              refine At.block_normal ?_
              exact At.joined (σ := { v : TArr16Int // x2 = v }) (Fs := fun q => [(0, .a (.c (.p 110 0))), (1, .a (.c (.p 111 0))), (4, .a (.c (.v (.int .i64 v2))))]) (Tl := fun q => [(110, blk 110 [.v (.int .u32 0), .v (.int .u32 0), .v (.int .u32 0), .v (.int .u32 0), .v (.int .u32 0), .v (.int .u32 0), .v (.int .u32 0), .v (.int .u32 0), .v (.int .u32 0), .v (.int .u32 0), .v (.int .u32 0), .v (.int .u32 0), .v (.int .u32 0), .v (.int .u32 0), .v (.int .u32 0), .v (.int .u32 0)] 65), (111, blk 111 [.v (.int .u32 q.1.i0), .v (.int .u32 q.1.i1), .v (.int .u32 q.1.i2), .v (.int .u32 q.1.i3), .v (.int .u32 q.1.i4), .v (.int .u32 q.1.i5), .v (.int .u32 q.1.i6), .v (.int .u32 q.1.i7), .v (.int .u32 q.1.i8), .v (.int .u32 q.1.i9), .v (.int .u32 q.1.i10), .v (.int .u32 q.1.i11), .v (.int .u32 q.1.i12), .v (.int .u32 q.1.i13), .v (.int .u32 q.1.i14), .v (.int .u32 q.1.i15)] 65)]) ⟨(TArr16Int.st v1 v2.toNat x3), (Option.some.inj H2).symm⟩ [(110, 112), (111, 113)] [_, _] rfl ⟨rfl, rfl, rfl, trivial⟩ ⟨rfl, (blk_ren rfl rfl), rfl, (blk_ren rfl rfl), trivial⟩ rfl
          ·
            rintro ⟨_, rfl⟩
            show G _ _ [(0, .a (.c (.p 110 0))), (1, .a (.c (.p 111 0))), (4, .a (.c (.v (.int .i64 v2))))] [(110, some (blk 110 [.v (.int .u32 0), .v (.int .u32 0), .v (.int .u32 0), .v (.int .u32 0), .v (.int .u32 0), .v (.int .u32 0), .v (.int .u32 0), .v (.int .u32 0), .v (.int .u32 0), .v (.int .u32 0), .v (.int .u32 0), .v (.int .u32 0), .v (.int .u32 0), .v (.int .u32 0), .v (.int .u32 0), .v (.int .u32 0)] 65)), (111, some (blk 111 [.v (.int .u32 x2.i0), .v (.int .u32 x2.i1), .v (.int .u32 x2.i2), .v (.int .u32 x2.i3), .v (.int .u32 x2.i4), .v (.int .u32 x2.i5), .v (.int .u32 x2.i6), .v (.int .u32 x2.i7), .v (.int .u32 x2.i8), .v (.int .u32 x2.i9), .v (.int .u32 x2.i10), .v (.int .u32 x2.i11), .v (.int .u32 x2.i12), .v (.int .u32 x2.i13), .v (.int .u32 x2.i14), .v (.int .u32 x2.i15)] 65))] _ _
            refine G.rg ?_
            refine K.bin (V := .int .i64 (w64 (v2 + 1))) (gd0 rfl) rfl rfl (fun _ => rfl) rfl ?_
            refine K.move (.inl rfl) (gd0 rfl) rfl rfl ?_
            refine K.nil ?_
            exact At.again (σ := { q : Nat × (TArr16Int × Int) // crc_nibbles.l0 k q.1 q.2 = some x1 }) (Fs := fun q => [(0, .a (.c (.p 108 0))), (1, .a (.c (.p 109 0))), (4, .a (.c (.v (.int .i64 q.1.2.2))))]) (Tl := fun q => [(108, blk 108 [.v (.int .u32 0), .v (.int .u32 0), .v (.int .u32 0), .v (.int .u32 0), .v (.int .u32 0), .v (.int .u32 0), .v (.int .u32 0), .v (.int .u32 0), .v (.int .u32 0), .v (.int .u32 0), .v (.int .u32 0), .v (.int .u32 0), .v (.int .u32 0), .v (.int .u32 0), .v (.int .u32 0), .v (.int .u32 0)] 65), (109, blk 109 [.v (.int .u32 q.1.2.1.i0), .v (.int .u32 q.1.2.1.i1), .v (.int .u32 q.1.2.1.i2), .v (.int .u32 q.1.2.1.i3), .v (.int .u32 q.1.2.1.i4), .v (.int .u32 q.1.2.1.i5), .v (.int .u32 q.1.2.1.i6), .v (.int .u32 q.1.2.1.i7), .v (.int .u32 q.1.2.1.i8), .v (.int .u32 q.1.2.1.i9), .v (.int .u32 q.1.2.1.i10), .v (.int .u32 q.1.2.1.i11), .v (.int .u32 q.1.2.1.i12), .v (.int .u32 q.1.2.1.i13), .v (.int .u32 q.1.2.1.i14), .v (.int .u32 q.1.2.1.i15)] 65)]) (μ := fun q => q.1.1) (s := ⟨(n0 + 1, (v1, v2)), HL0⟩) ⟨(n0, (x2, (w64 (v2 + 1)))), H1⟩ [(108, 110), (109, 111)] [_, _] (Nat.lt_succ_self _) rfl ⟨rfl, rfl, rfl, trivial⟩ ⟨rfl, (blk_ren rfl rfl), rfl, (blk_ren rfl rfl), trivial⟩ rfl
        ·
          replace H1 := bif_f H1 h1
          refine G.exit ?_
          refine At.over_exit ?_
          refine At.over_exit ?_
          refine At.block_hit ?_
          exact At.joined (σ := { v : TArr16Int // x1 = v }) (Fs := fun q => [(0, .a (.c (.p 102 0))), (1, .a (.c (.p 103 0)))]) (Tl := fun q => [(102, blk 102 [.v (.int .u32 0), .v (.int .u32 0), .v (.int .u32 0), .v (.int .u32 0), .v (.int .u32 0), .v (.int .u32 0), .v (.int .u32 0), .v (.int .u32 0), .v (.int .u32 0), .v (.int .u32 0), .v (.int .u32 0), .v (.int .u32 0), .v (.int .u32 0), .v (.int .u32 0), .v (.int .u32 0), .v (.int .u32 0)] 65), (103, blk 103 [.v (.int .u32 q.1.i0), .v (.int .u32 q.1.i1), .v (.int .u32 q.1.i2), .v (.int .u32 q.1.i3), .v (.int .u32 q.1.i4), .v (.int .u32 q.1.i5), .v (.int .u32 q.1.i6), .v (.int .u32 q.1.i7), .v (.int .u32 q.1.i8), .v (.int .u32 q.1.i9), .v (.int .u32 q.1.i10), .v (.int .u32 q.1.i11), .v (.int .u32 q.1.i12), .v (.int .u32 q.1.i13), .v (.int .u32 q.1.i14), .v (.int .u32 q.1.i15)] 65)]) ⟨v1, (Option.some.inj H1).symm⟩ [(102, 108), (103, 109)] [_, _] rfl ⟨rfl, rfl, trivial⟩ ⟨rfl, (blk_ren rfl rfl), rfl, (blk_ren rfl rfl), trivial⟩ rfl
  ·
    rintro ⟨_, rfl⟩
    show G _ _ [(0, .a (.c (.p 102 0))), (1, .a (.c (.p 103 0)))] [(102, some (blk 102 [.v (.int .u32 0), .v (.int .u32 0), .v (.int .u32 0), .v (.int .u32 0), .v (.int .u32 0), .v (.int .u32 0), .v (.int .u32 0), .v (.int .u32 0), .v (.int .u32 0), .v (.int .u32 0), .v (.int .u32 0), .v (.int .u32 0), .v (.int .u32 0), .v (.int .u32 0), .v (.int .u32 0), .v (.int .u32 0)] 65)), (103, some (blk 103 [.v (.int .u32 x1.i0), .v (.int .u32 x1.i1), .v (.int .u32 x1.i2), .v (.int .u32 x1.i3), .v (.int .u32 x1.i4), .v (.int .u32 x1.i5), .v (.int .u32 x1.i6), .v (.int .u32 x1.i7), .v (.int .u32 x1.i8), .v (.int .u32 x1.i9), .v (.int .u32 x1.i10), .v (.int .u32 x1.i11), .v (.int .u32 x1.i12), .v (.int .u32 x1.i13), .v (.int .u32 x1.i14), .v (.int .u32 x1.i15)] 65))] _ _
    refine G.seq ?_
    refine G.rg ?_
    refine K.loadS Y [_, _, _, _, _, _, _, _, _, _, _, _, _, _, _, _] (gd0 rfl) rfl rfl t65 rfl rfl rfl ?_
    refine K.store Y [_, _, _, _, _, _, _, _, _, _, _, _, _, _, _, _] (gd0 rfl) rfl rfl rfl t65 rfl rfl rfl rfl rfl ?_
    refine K.nil ?_
    refine At.next ?_
    refine G.ret ?_
    refine At.done Y [(.cell 0 65, .agg [_, _, _, _, _, _, _, _, _, _, _, _, _, _, _, _])] rfl ⟨.st rfl rfl t65 rfl rfl, trivial⟩ (to' := []) trivial ?_ ?_ rfl rfl rfl (.inl rfl)
    · cases H0; rfl
    · cases H0; rfl
theorem crc_nibbles_con {k : Nat}  {r : TArr16Int}  (H0 : crc_nibbles.f k = some r) : SCon Try.prog 39 [] [] (.a (.agg ((eTArr16Int r).map .v))) [] [] :=
  SCon.ren (rn []) (crc_nibbles_con0 (k := k)   H0) trivial trivial (by simp) (by simp)
theorem crc_More_con0 {k : Nat}  {S : Foot} {W0 : World} {s1 : Value} {a0 : Int} {l1 : List Int} {r : Int} (hL1 : LArg S W0 s1 u8E 1 l1) (H0 : crc_More.f k a0 l1 = some r) : SCon Try.prog 26 [.a (.c (.v (.int .u32 a0))), SV.raw s1] [(0, rd S W0)] (.a (.c (.v (.int .u32 r)))) [(0, rd S W0)] [] := by
  rw [crc_More.f] at H0
  obtain ⟨b1, o1, hI1⟩ := hL1
  refine spec_of [(0, _), (1, _)] [(0, _)] 38 Try.func26 rfl Try.ntmps26 rfl rfl rfl rfl (fun β W F => ?_)
  refine G.seq ?_
  refine G.rg ?_
  refine K.move (.inr rfl) (gd0 rfl) rfl rfl ?_
  refine K.nil ?_
  refine At.next ?_
  refine G.seq ?_
  obtain ⟨x1, hx1, H0⟩ := bnd H0
  refine G.rg ?_
  refine K.callR [(.func 39, _)] (crc_nibbles_con (k := k) hx1) (toFn_func (cf 39 rfl) rfl) (gd0 rfl) ⟨rfl, trivial⟩ trivial rfl rfl rfl ?_
  refine K.alloc Y 100 [_, _, _, _, _, _, _, _, _, _, _, _, _, _, _, _] (gd0 rfl) t65 rfl rfl rfl rfl rfl ?_
  refine K.store Y [_, _, _, _, _, _, _, _, _, _, _, _, _, _, _, _] (gd0 rfl) rfl rfl rfl t65 rfl rfl rfl rfl rfl ?_
  refine K.nil ?_
  refine At.next ?_
  refine G.seq ?_
  refine G.rg ?_
  refine K.move (.inl rfl) (gd0 rfl) rfl rfl ?_
  refine K.un (V := .int .u32 (gcom .u32 a0)) (gd0 rfl) rfl (bt_com _ _) rfl ?_
  refine K.move (.inr rfl) (gd0 rfl) rfl rfl ?_
  refine K.nil ?_
  refine At.next ?_
  obtain ⟨x2, H1, H0⟩ := bnd H0
  refine G.seqJ (σ := { v : Int // x2 = v }) (fun q => [(0, .a (.c (.v (.int .u32 q.1))))]) (fun q => [(0, rd S W0)]) ?_ ?_
  ·
    refine G.seq ?_
    refine G.rg ?_
    refine K.move (.inl rfl) (gd0 rfl) rfl rfl ?_
    refine K.lenL (rV 0 S W0 s1 b1 o1 u8E 1 l1) (hI1.is 0) (gd0 rfl) rfl rfl Try.underlying36 rfl ?_
    refine K.move (.inl rfl) (gd0 rfl) rfl rfl ?_
    refine K.nil ?_
    refine At.next ?_
    refine G.block ?_
    refine G.loop (σ := { q : Nat × (Int × Int) // crc_More.l0 k l1 x1 q.1 q.2 = some x2 }) (fun q => [(0, .a (.c (.v (.int .u32 q.1.2.1)))), (5, .a (.c (.p 103 0))), (11, SV.raw s1), (12, .a (.c (.v (.int .i64 (l1.length : Int))))), (13, .a (.c (.v (.int .i64 q.1.2.2))))]) (fun q => [(0, rd S W0), (103, blk 103 [.v (.int .u32 x1.i0), .v (.int .u32 x1.i1), .v (.int .u32 x1.i2), .v (.int .u32 x1.i3), .v (.int .u32 x1.i4), .v (.int .u32 x1.i5), .v (.int .u32 x1.i6), .v (.int .u32 x1.i7), .v (.int .u32 x1.i8), .v (.int .u32 x1.i9), .v (.int .u32 x1.i10), .v (.int .u32 x1.i11), .v (.int .u32 x1.i12), .v (.int .u32 x1.i13), .v (.int .u32 x1.i14), .v (.int .u32 x1.i15)] 65)]) (fun q => q.1.1) ⟨(k, ((gcom .u32 a0), 0)), H1⟩ ?_ ?_
    · exact At.into [(103, 100)] [_, _] rfl ⟨rfl, rfl, rfl, rfl, rfl, trivial⟩ ⟨rfl, (fun _ => rfl), rfl, (blk_ren rfl rfl), trivial⟩ rfl
    ·
      rintro ⟨⟨n0, v1, v2⟩, H1⟩
      show G _ _ [(0, .a (.c (.v (.int .u32 v1)))), (5, .a (.c (.p 103 0))), (11, SV.raw s1), (12, .a (.c (.v (.int .i64 (l1.length : Int))))), (13, .a (.c (.v (.int .i64 v2))))] [(0, some (rd S W0)), (103, some (blk 103 [.v (.int .u32 x1.i0), .v (.int .u32 x1.i1), .v (.int .u32 x1.i2), .v (.int .u32 x1.i3), .v (.int .u32 x1.i4), .v (.int .u32 x1.i5), .v (.int .u32 x1.i6), .v (.int .u32 x1.i7), .v (.int .u32 x1.i8), .v (.int .u32 x1.i9), .v (.int .u32 x1.i10), .v (.int .u32 x1.i11), .v (.int .u32 x1.i12), .v (.int .u32 x1.i13), .v (.int .u32 x1.i14), .v (.int .u32 x1.i15)] 65))] _ _
      cases n0 with
      | zero => exact absurd H1 (by simp [crc_More.l0])
      | succ n0 =>
        have HL0 := H1
        rw [crc_More.l0] at H1
        refine G.seq ?_
        refine G.rg ?_
        refine K.bin (V := .bool (decide (v2 < (l1.length : Int)))) (gd0 rfl) rfl rfl (fun _ => rfl) rfl ?_
        refine K.nil ?_
        refine At.next ?_
        refine G.seq ?_
        refine G.cond rfl (fun h1 => ?_) (fun h1 => ?_)
        ·
          replace H1 := bif_t H1 h1
          refine G.skip ?_
          refine At.next ?_
          refine G.seq ?_
          refine G.block ?_
          refine G.seq ?_
          obtain ⟨x3, hx3, H1⟩ := bnd H1
          refine G.rg ?_
          refine K.idxL (rV 0 S W0 s1 b1 o1 u8E 1 l1) ((v2).toNat) (hI1.is 0) (atL_get hx3) (atL_nn hx3) (gd0 rfl) rfl rfl rfl Try.underlying36 el36.size_run rfl ?_
          refine K.load1L Y (rV 0 S W0 s1 b1 o1 u8E 1 l1) ((v2).toNat) 0 (hI1.is 0) (atL_get hx3) (gd0 rfl) rfl rfl t5 rfl rfl ?_
          refine K.move (.inr rfl) (gd0 rfl) rfl rfl ?_
          refine K.nil ?_
          refine At.next ?_
          refine G.seq ?_
          refine G.rg ?_
          refine K.move (.inl rfl) (gd0 rfl) rfl rfl ?_
          refine K.move (.inl rfl) (gd0 rfl) rfl rfl ?_
          refine K.conv (V := .int .u32 (IntKind.u32.wrap x3)) (gd0 rfl) rfl (cv_int (by rw [Try.underlying5]; rfl) Try.underlying37) rfl ?_
          refine K.bin (V := .int .u32 (gxor .u32 v1 (IntKind.u32.wrap x3))) (gd0 rfl) rfl rfl (bt_xor _ _ _) rfl ?_
          refine K.move (.inr rfl) (gd0 rfl) rfl rfl ?_
          refine K.nil ?_
          refine At.next ?_
          refine G.seq ?_
          obtain ⟨x4, hx4, H1⟩ := bnd H1
          refine G.rg ?_
          refine K.move (.inl rfl) (gd0 rfl) rfl rfl ?_
          refine K.bin (V := .int .u32 (gshr .u32 (gxor .u32 v1 (IntKind.u32.wrap x3)) 4)) (gd0 rfl) rfl rfl (bt_shr _ _ _ _ (by decide)) rfl ?_
          refine K.move (.inl rfl) (gd0 rfl) rfl rfl ?_
          refine K.bin (V := .int .u32 (gand .u32 (gxor .u32 v1 (IntKind.u32.wrap x3)) 15)) (gd0 rfl) rfl rfl (bt_and _ _ _) rfl ?_
          refine K.idxD (off' := (gand .u32 (gxor .u32 v1 (IntKind.u32.wrap x3)) 15).toNat) _ tA65 (atL_lt hx4).1 (atL_lt hx4).2 (gd0 rfl) rfl rfl (by omega) rfl ?_
          refine K.load1 Y (gd0 rfl) rfl rfl t37 (cells_at (f := fun z => .v (.int .u32 z)) hx4) rfl ?_
          refine K.bin (V := .int .u32 (gxor .u32 (gshr .u32 (gxor .u32 v1 (IntKind.u32.wrap x3)) 4) x4)) (gd0 rfl) rfl rfl (bt_xor _ _ _) rfl ?_
          refine K.move (.inr rfl) (gd0 rfl) rfl rfl ?_
          refine K.nil ?_
          refine At.next ?_
          obtain ⟨x5, hx5, H1⟩ := bnd H1
          refine G.rg ?_
          refine K.move (.inl rfl) (gd0 rfl) rfl rfl ?_
          refine K.bin (V := .int .u32 (gshr .u32 (gxor .u32 (gshr .u32 (gxor .u32 v1 (IntKind.u32.wrap x3)) 4) x4) 4)) (gd0 rfl) rfl rfl (bt_shr _ _ _ _ (by decide)) rfl ?_
          refine K.move (.inl rfl) (gd0 rfl) rfl rfl ?_
          refine K.bin (V := .int .u32 (gand .u32 (gxor .u32 (gshr .u32 (gxor .u32 v1 (IntKind.u32.wrap x3)) 4) x4) 15)) (gd0 rfl) rfl rfl (bt_and _ _ _) rfl ?_
          refine K.idxD (off' := (gand .u32 (gxor .u32 (gshr .u32 (gxor .u32 v1 (IntKind.u32.wrap x3)) 4) x4) 15).toNat) _ tA65 (atL_lt hx5).1 (atL_lt hx5).2 (gd0 rfl) rfl rfl (by omega) rfl ?_
          refine K.load1 Y (gd0 rfl) rfl rfl t37 (cells_at (f := fun z => .v (.int .u32 z)) hx5) rfl ?_
          refine K.bin (V := .int .u32 (gxor .u32 (gshr .u32 (gxor .u32 (gshr .u32 (gxor .u32 v1 (IntKind.u32.wrap x3)) 4) x4) 4) x5)) (gd0 rfl) rfl rfl (bt_xor _ _ _) rfl ?_
          refine K.move (.inr rfl) (gd0 rfl) rfl rfl ?_
          refine K.nil ?_
          refine At.block_normal ?_
          refine At.next ?_
          refine G.rg ?_
          refine K.bin (V := .int .i64 (w64 (v2 + 1))) (gd0 rfl) rfl rfl (fun _ => rfl) rfl ?_
          refine K.move (.inl rfl) (gd0 rfl) rfl rfl ?_
          refine K.nil ?_
          exact At.again (σ := { q : Nat × (Int × Int) // crc_More.l0 k l1 x1 q.1 q.2 = some x2 }) (Fs := fun q => [(0, .a (.c (.v (.int .u32 q.1.2.1)))), (5, .a (.c (.p 103 0))), (11, SV.raw s1), (12, .a (.c (.v (.int .i64 (l1.length : Int))))), (13, .a (.c (.v (.int .i64 q.1.2.2))))]) (Tl := fun q => [(0, rd S W0), (103, blk 103 [.v (.int .u32 x1.i0), .v (.int .u32 x1.i1), .v (.int .u32 x1.i2), .v (.int .u32 x1.i3), .v (.int .u32 x1.i4), .v (.int .u32 x1.i5), .v (.int .u32 x1.i6), .v (.int .u32 x1.i7), .v (.int .u32 x1.i8), .v (.int .u32 x1.i9), .v (.int .u32 x1.i10), .v (.int .u32 x1.i11), .v (.int .u32 x1.i12), .v (.int .u32 x1.i13), .v (.int .u32 x1.i14), .v (.int .u32 x1.i15)] 65)]) (μ := fun q => q.1.1) (s := ⟨(n0 + 1, (v1, v2)), HL0⟩) ⟨(n0, ((gxor .u32 (gshr .u32 (gxor .u32 (gshr .u32 (gxor .u32 v1 (IntKind.u32.wrap x3)) 4) x4) 4) x5), (w64 (v2 + 1)))), H1⟩ [] [_, _] (Nat.lt_succ_self _) rfl ⟨rfl, rfl, rfl, rfl, rfl, trivial⟩ ⟨rfl, (fun _ => rfl), rfl, (blk_ren rfl rfl), trivial⟩ rfl
        ·
          replace H1 := bif_f H1 h1
          refine G.exit ?_
          refine At.over_exit ?_
          refine At.over_exit ?_
          refine At.block_hit ?_
          exact At.joined (σ := { v : Int // x2 = v }) (Fs := fun q => [(0, .a (.c (.v (.int .u32 q.1))))]) (Tl := fun q => [(0, rd S W0)]) ⟨v1, (Option.some.inj H1).symm⟩ [] [_] rfl ⟨rfl, trivial⟩ ⟨rfl, (fun _ => rfl), trivial⟩ rfl
  ·
    rintro ⟨_, rfl⟩
    show G _ _ [(0, .a (.c (.v (.int .u32 x2))))] [(0, some (rd S W0))] _ _
    refine G.seq ?_
    refine G.rg ?_
    refine K.move (.inl rfl) (gd0 rfl) rfl rfl ?_
    refine K.un (V := .int .u32 (gcom .u32 x2)) (gd0 rfl) rfl (bt_com _ _) rfl ?_
    refine K.move (.inr rfl) (gd0 rfl) rfl rfl ?_
    refine K.nil ?_
    refine At.next ?_
    refine G.ret ?_
    refine At.done Y [(.tmp 4, .c _)] rfl ⟨.tmp rfl, trivial⟩ (to' := [(0, _)]) ⟨rfl, trivial⟩ ?_ ?_ rfl rfl rfl (.inl rfl)
    · cases H0; rfl
    · cases H0; rfl
theorem crc_More_con {k : Nat}  {S : Foot} {W0 : World} {s1 : Value} {a0 : Int} {l1 : List Int} {r : Int} (hL1 : LArg S W0 s1 u8E 1 l1) (H0 : crc_More.f k a0 l1 = some r) : SCon Try.prog 26 [.a (.c (.v (.int .u32 a0))), SV.raw s1] [(0, rd S W0)] (.a (.c (.v (.int .u32 r)))) [(0, rd S W0)] [] :=
  SCon.ren (rn []) (crc_More_con0 (k := k)  hL1 H0) ⟨(fun _ => rfl), trivial⟩ ⟨(fun _ => rfl), trivial⟩ (by simp) (by simp)
theorem crc_Sum_con0 {k : Nat}  {S : Foot} {W0 : World} {s0 : Value} {l0 : List Int} {r : Int} (hL0 : LArg S W0 s0 u8E 1 l0) (H0 : crc_Sum.f k l0 = some r) : SCon Try.prog 24 [SV.raw s0] [(0, rd S W0)] (.a (.c (.v (.int .u32 r)))) [(0, rd S W0)] [] := by
  rw [crc_Sum.f] at H0
  obtain ⟨b0, o0, hI0⟩ := hL0
  refine spec_of [(0, _)] [(0, _)] 5 Try.func24 rfl Try.ntmps24 rfl rfl rfl rfl (fun β W F => ?_)
  refine G.seq ?_
  refine G.rg ?_
  refine K.move (.inr rfl) (gd0 rfl) rfl rfl ?_
  refine K.nil ?_
  refine At.next ?_
  refine G.seq ?_
  obtain ⟨x1, hx1, H0⟩ := bnd H0
  refine G.rg ?_
  refine K.move (.inl rfl) (gd0 rfl) rfl rfl ?_
  refine K.callV [(.func 26, _), (_, _), ((.tmp 3), _)] [(0, rd S W0)] [] [] (fun β => [.a (.c (.v (.int .u32 0))), SV.raw s0]) (fun β w S2 h => crc_More_con (k := k) ((hI0.isC 0).larg ⟨_, List.mem_cons_self⟩ h) hx1) (toFn_func (cf 26 rfl) rfl) (gd0 rfl) ⟨rfl, rfl, rfl, trivial⟩ (fun _ => rfl) ⟨rfl, trivial⟩ rfl rfl rfl rfl rfl rfl ?_
  refine K.move (.inr rfl) (gd0 rfl) rfl rfl ?_
  refine K.nil ?_
  refine At.next ?_
  refine G.ret ?_
  refine At.done Y [(.tmp 2, .c _)] rfl ⟨.tmp rfl, trivial⟩ (to' := [(0, _)]) ⟨rfl, trivial⟩ ?_ ?_ rfl rfl rfl (.inl rfl)
  · cases H0; rfl
  · cases H0; rfl
theorem crc_Sum_con {k : Nat}  {S : Foot} {W0 : World} {s0 : Value} {l0 : List Int} {r : Int} (hL0 : LArg S W0 s0 u8E 1 l0) (H0 : crc_Sum.f k l0 = some r) : SCon Try.prog 24 [SV.raw s0] [(0, rd S W0)] (.a (.c (.v (.int .u32 r)))) [(0, rd S W0)] [] :=
  SCon.ren (rn []) (crc_Sum_con0 (k := k)  hL0 H0) ⟨(fun _ => rfl), trivial⟩ ⟨(fun _ => rfl), trivial⟩ (by simp) (by simp)
theorem R01_Rest_con0 {k : Nat}  {a0 : Int} {a1 : Int} {r : Int}  (H0 : R01_Rest.f k a0 a1 = some r) : SCon Try.prog 20 [.a (.c (.v (.int .i64 a0))), .a (.c (.v (.int .i64 a1)))] [] (.a (.c (.v (.int .i64 r)))) [] [] := by
  rw [R01_Rest.f] at H0
  refine spec_of [(0, _), (1, _)] [] 12 Try.func20 rfl Try.ntmps20 rfl rfl rfl rfl (fun β W F => ?_)
  refine G.seq ?_
  refine G.rg ?_
  refine K.move (.inr rfl) (gd0 rfl) rfl rfl ?_
  refine K.nil ?_
  refine At.next ?_
  refine G.seq ?_
  obtain ⟨h1, H0⟩ := grd H0
  obtain ⟨h2, H0⟩ := grd H0
  refine G.rg ?_
  refine K.move (.inl rfl) (gd0 rfl) rfl rfl ?_
  refine K.move (.inl rfl) (gd0 rfl) rfl rfl ?_
  refine K.bin (V := .int .i64 (a0.tmod a1)) (gd0 rfl) rfl rfl (rem_run h1) rfl ?_
  refine K.move (.inl rfl) (gd0 rfl) rfl rfl ?_
  refine K.bin (V := .int .i64 (w64 ((a0.tmod a1) + a1))) (gd0 rfl) rfl rfl (fun _ => rfl) rfl ?_
  refine K.move (.inl rfl) (gd0 rfl) rfl rfl ?_
  refine K.bin (V := .int .i64 ((w64 ((a0.tmod a1) + a1)).tmod a1)) (gd0 rfl) rfl rfl (rem_run h2) rfl ?_
  refine K.move (.inr rfl) (gd0 rfl) rfl rfl ?_
  refine K.nil ?_
  refine At.next ?_
  refine G.ret ?_
  refine At.done Y [(.tmp 4, .c _)] rfl ⟨.tmp rfl, trivial⟩ (to' := []) trivial ?_ ?_ rfl rfl rfl (.inl rfl)
  · cases H0; rfl
  · cases H0; rfl
theorem R01_Rest_con {k : Nat}  {a0 : Int} {a1 : Int} {r : Int}  (H0 : R01_Rest.f k a0 a1 = some r) : SCon Try.prog 20 [.a (.c (.v (.int .i64 a0))), .a (.c (.v (.int .i64 a1)))] [] (.a (.c (.v (.int .i64 r)))) [] [] :=
  SCon.ren (rn []) (R01_Rest_con0 (k := k)   H0) trivial trivial (by simp) (by simp)
end Go.Proofs.Ytheopcgjdfckmaa


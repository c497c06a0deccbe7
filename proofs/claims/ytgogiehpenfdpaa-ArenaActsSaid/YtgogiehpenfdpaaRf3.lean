/- The document's pool of layer 3, walked. Printed by a program of mine. -/
import Derived.KernelRfl
import Derived.Test.YtgogiehpenfdpaaBase
import Derived.Test.YtgogiehpenfdpaaPa3
namespace Go.Proofs.Ytgogiehpenfdpaa
open Go Go.Proofs.Ytgogiehpenfdpaa.Sx
set_option linter.unusedVariables false
set_option linter.unusedSimpArgs false
abbrev rtok (k : Nat) (cs : List (Cell Int)) (V free : List Int) (cap vis : Int) : Tok := obj k 29 (rpoolC cs V free cap vis 3 4)
theorem hasS {cs : List (Cell Int)} {V free : List Int} {cap vis : Int} (hV : V.length = cs.length) (hlen : cs.length < 4294967296) {n : Nat} {c : Cell Int} (hg : cs[n]? = some c) (hl : c.live = true) : SCon Try.prog 54 [SV.p 0 0, SV.agg [.i (n : Int), .i c.gen]] [(0, rtok 0 cs V free cap vis)] (SV.b true) [(0, rtok 0 cs V free cap vis)] [] := by
  have hlt := (List.getElem?_eq_some_iff.1 hg).1
  refine spec_of [(0, _), (1, _)] [(0, _)] 41 Try.func54 rfl Try.ntmps54 rfl rfl rfl rfl (fun β W F => ?_)
  refine G.ent [(0, _)] [(0, _), (21, _), (22, _), (23, _), (24, _)] [21, 22, 23, 24] (obj_open [21, 22, 23, 24] rfl rfl) ⟨rfl, trivial⟩ rfl rfl rfl rfl ?_
  refine G.seq ?_
  refine G.rg ?_
  refine K.box Y 103 [_, _] (gd0 rfl) rfl rfl rfl rfl rfl rfl ?_
  refine K.move (.inr rfl) (gd0 rfl) rfl rfl ?_
  refine K.nil ?_
  refine At.next ?_
  refine G.seq ?_
  refine G.rd mixed ?_
  refine K.fieldAddr Y (gd0 rfl) rfl t40 rfl rfl ?_
  refine K.load1 Y (gd0 rfl) rfl rfl t3 rfl rfl ?_
  refine K.bin (gd0 rfl) rfl rfl (fun _ => rfl) rfl ?_
  refine K.move (.inl rfl) (gd0 rfl) rfl rfl ?_
  refine K.fieldAddr Y (gd1 rfl rfl rfl (by simp [IntKind.wrap_i64] at * <;> omega)) rfl t40 rfl rfl ?_
  refine K.load1 Y (gd1 rfl rfl rfl (by simp [IntKind.wrap_i64] at * <;> omega)) rfl rfl t3 rfl rfl ?_
  refine K.move (.inl rfl) (gd1 rfl rfl rfl (by simp [IntKind.wrap_i64] at * <;> omega)) rfl rfl ?_
  refine K.nilCheck (gd1 rfl rfl rfl (by simp [IntKind.wrap_i64] at * <;> omega)) rfl rfl ?_
  refine K.fieldAddr Y (gd1 rfl rfl rfl (by simp [IntKind.wrap_i64] at * <;> omega)) rfl t29 rfl rfl ?_
  refine K.load1 Y (gd1 rfl rfl rfl (by simp [IntKind.wrap_i64] at * <;> omega)) rfl rfl t26 rfl rfl ?_
  refine K.lenL (lrowV 21 3 intE 1 _) (lrowV_is intE_len (by decide)) (gd1 rfl rfl rfl (by simp [IntKind.wrap_i64] at * <;> omega)) rfl rfl Try.underlying26 rfl ?_
  refine K.bin (gd1 rfl rfl rfl (by simp [IntKind.wrap_i64] at * <;> omega)) rfl rfl (fun _ => rfl) rfl ?_
  refine K.pickT (gd0 rfl) rfl (by simp [IntKind.wrap_i64] at * <;> omega) rfl rfl ?_
  refine K.move (.inl rfl) (gd0 rfl) rfl rfl ?_
  refine K.move (.inl rfl) (gd1 rfl rfl rfl (by simp [IntKind.wrap_i64] at * <;> omega)) rfl rfl ?_
  refine K.nilCheck (gd1 rfl rfl rfl (by simp [IntKind.wrap_i64] at * <;> omega)) rfl rfl ?_
  refine K.fieldAddr Y (gd1 rfl rfl rfl (by simp [IntKind.wrap_i64] at * <;> omega)) rfl t29 rfl rfl ?_
  refine K.load1 Y (gd1 rfl rfl rfl (by simp [IntKind.wrap_i64] at * <;> omega)) rfl rfl t27 rfl rfl ?_
  refine K.fieldAddr Y (gd1 rfl rfl rfl (by simp [IntKind.wrap_i64] at * <;> omega)) rfl t40 rfl rfl ?_
  refine K.load1 Y (gd1 rfl rfl rfl (by simp [IntKind.wrap_i64] at * <;> omega)) rfl rfl t3 rfl rfl ?_
  refine K.idxL (lrowV 23 4 boolE 1 _) n (lrowV_is boolE_len (by decide)) (map_at hg _) rfl (gd1 rfl rfl rfl (by simp [IntKind.wrap_i64] at * <;> omega)) rfl rfl rfl Try.underlying27 el27.size_run rfl ?_
  refine K.load1L Y (lrowV 23 4 boolE 1 _) n 0 (lrowV_is boolE_len (by decide)) (map_at hg _) (gd1 rfl rfl rfl (by simp [IntKind.wrap_i64] at * <;> omega)) rfl rfl t4 rfl rfl ?_
  refine K.pickT (gd0 rfl) rfl (by simp [IntKind.wrap_i64] at * <;> omega) rfl rfl ?_
  refine K.move (.inl rfl) (gd0 rfl) rfl rfl ?_
  refine K.move (.inl rfl) (gd1 rfl rfl rfl (hl)) rfl rfl ?_
  refine K.nilCheck (gd1 rfl rfl rfl (hl)) rfl rfl ?_
  refine K.fieldAddr Y (gd1 rfl rfl rfl (hl)) rfl t29 rfl rfl ?_
  refine K.load1 Y (gd1 rfl rfl rfl (hl)) rfl rfl t26 rfl rfl ?_
  refine K.fieldAddr Y (gd1 rfl rfl rfl (hl)) rfl t40 rfl rfl ?_
  refine K.load1 Y (gd1 rfl rfl rfl (hl)) rfl rfl t3 rfl rfl ?_
  refine K.idxL (lrowV 22 3 intE 1 _) n (lrowV_is intE_len (by decide)) (map_at hg _) rfl (gd1 rfl rfl rfl (hl)) rfl rfl rfl Try.underlying26 el26.size_run rfl ?_
  refine K.load1L Y (lrowV 22 3 intE 1 _) n 0 (lrowV_is intE_len (by decide)) (map_at hg _) (gd1 rfl rfl rfl (hl)) rfl rfl t3 rfl rfl ?_
  refine K.fieldAddr Y (gd1 rfl rfl rfl (hl)) rfl t40 rfl rfl ?_
  refine K.load1 Y (gd1 rfl rfl rfl (hl)) rfl rfl t3 rfl rfl ?_
  refine K.bin (gd1 rfl rfl rfl (hl)) rfl rfl (fun _ => rfl) rfl ?_
  refine K.pickT (gd0 rfl) rfl (hl) rfl rfl ?_
  refine K.move (.inr rfl) (gd0 rfl) rfl rfl ?_
  refine K.nil ?_
  refine ⟨by kernel_rfl, ?_⟩
  refine At.next ?_
  refine G.ret ?_
  refine At.ent [(0, _), (21, _), (22, _), (23, _), (24, _)] [(0, obj 0 29 [OC.l 3 intE 1 _, OC.l 3 intE 1 _, OC.l 4 boolE 1 _, OC.l 3 intE 1 _, .i _, .i _])] [] (obj_close [OC.l 3 intE 1 _, OC.l 3 intE 1 _, OC.l 4 boolE 1 _, OC.l 3 intE 1 _, .i _, .i _] [21, 22, 23, 24] rfl) ⟨rfl, rfl, rfl, rfl, rfl, trivial⟩ rfl rfl rfl rfl ?_
  refine At.done Y [(.tmp 4, .c _)] rfl ⟨.tmp rfl, trivial⟩ (to' := [(0, _)]) ⟨rfl, trivial⟩ ?_ ?_ rfl rfl rfl (.inl rfl)
  · rfl
  · exact ret_b (by simp)
theorem hasD {cs : List (Cell Int)} {V free : List Int} {cap vis : Int} (hV : V.length = cs.length) (hlen : cs.length < 4294967296) {n : Nat} {c : Cell Int} {g : Int} (hg : cs[n]? = some c) (hd : c.live = false ∨ c.gen ≠ g) : SCon Try.prog 54 [SV.p 0 0, SV.agg [.i (n : Int), .i g]] [(0, rtok 0 cs V free cap vis)] (SV.b false) [(0, rtok 0 cs V free cap vis)] [] := by
  have hlt := (List.getElem?_eq_some_iff.1 hg).1
  refine spec_of [(0, _), (1, _)] [(0, _)] 41 Try.func54 rfl Try.ntmps54 rfl rfl rfl rfl (fun β W F => ?_)
  refine G.ent [(0, _)] [(0, _), (21, _), (22, _), (23, _), (24, _)] [21, 22, 23, 24] (obj_open [21, 22, 23, 24] rfl rfl) ⟨rfl, trivial⟩ rfl rfl rfl rfl ?_
  refine G.seq ?_
  refine G.rg ?_
  refine K.box Y 103 [_, _] (gd0 rfl) rfl rfl rfl rfl rfl rfl ?_
  refine K.move (.inr rfl) (gd0 rfl) rfl rfl ?_
  refine K.nil ?_
  refine At.next ?_
  refine G.seq ?_
  rcases Bool.eq_false_or_eq_true c.live with h3 | h3
  ·
    refine G.rd mixed ?_
    refine K.fieldAddr Y (gd0 rfl) rfl t40 rfl rfl ?_
    refine K.load1 Y (gd0 rfl) rfl rfl t3 rfl rfl ?_
    refine K.bin (gd0 rfl) rfl rfl (fun _ => rfl) rfl ?_
    refine K.move (.inl rfl) (gd0 rfl) rfl rfl ?_
    refine K.fieldAddr Y (gd1 rfl rfl rfl (by simp [IntKind.wrap_i64] at * <;> omega)) rfl t40 rfl rfl ?_
    refine K.load1 Y (gd1 rfl rfl rfl (by simp [IntKind.wrap_i64] at * <;> omega)) rfl rfl t3 rfl rfl ?_
    refine K.move (.inl rfl) (gd1 rfl rfl rfl (by simp [IntKind.wrap_i64] at * <;> omega)) rfl rfl ?_
    refine K.nilCheck (gd1 rfl rfl rfl (by simp [IntKind.wrap_i64] at * <;> omega)) rfl rfl ?_
    refine K.fieldAddr Y (gd1 rfl rfl rfl (by simp [IntKind.wrap_i64] at * <;> omega)) rfl t29 rfl rfl ?_
    refine K.load1 Y (gd1 rfl rfl rfl (by simp [IntKind.wrap_i64] at * <;> omega)) rfl rfl t26 rfl rfl ?_
    refine K.lenL (lrowV 21 3 intE 1 _) (lrowV_is intE_len (by decide)) (gd1 rfl rfl rfl (by simp [IntKind.wrap_i64] at * <;> omega)) rfl rfl Try.underlying26 rfl ?_
    refine K.bin (gd1 rfl rfl rfl (by simp [IntKind.wrap_i64] at * <;> omega)) rfl rfl (fun _ => rfl) rfl ?_
    refine K.pickT (gd0 rfl) rfl (by simp [IntKind.wrap_i64] at * <;> omega) rfl rfl ?_
    refine K.move (.inl rfl) (gd0 rfl) rfl rfl ?_
    refine K.move (.inl rfl) (gd1 rfl rfl rfl (by simp [IntKind.wrap_i64] at * <;> omega)) rfl rfl ?_
    refine K.nilCheck (gd1 rfl rfl rfl (by simp [IntKind.wrap_i64] at * <;> omega)) rfl rfl ?_
    refine K.fieldAddr Y (gd1 rfl rfl rfl (by simp [IntKind.wrap_i64] at * <;> omega)) rfl t29 rfl rfl ?_
    refine K.load1 Y (gd1 rfl rfl rfl (by simp [IntKind.wrap_i64] at * <;> omega)) rfl rfl t27 rfl rfl ?_
    refine K.fieldAddr Y (gd1 rfl rfl rfl (by simp [IntKind.wrap_i64] at * <;> omega)) rfl t40 rfl rfl ?_
    refine K.load1 Y (gd1 rfl rfl rfl (by simp [IntKind.wrap_i64] at * <;> omega)) rfl rfl t3 rfl rfl ?_
    refine K.idxL (lrowV 23 4 boolE 1 _) n (lrowV_is boolE_len (by decide)) (map_at hg _) rfl (gd1 rfl rfl rfl (by simp [IntKind.wrap_i64] at * <;> omega)) rfl rfl rfl Try.underlying27 el27.size_run rfl ?_
    refine K.load1L Y (lrowV 23 4 boolE 1 _) n 0 (lrowV_is boolE_len (by decide)) (map_at hg _) (gd1 rfl rfl rfl (by simp [IntKind.wrap_i64] at * <;> omega)) rfl rfl t4 rfl rfl ?_
    refine K.pickT (gd0 rfl) rfl (by simp [IntKind.wrap_i64] at * <;> omega) rfl rfl ?_
    refine K.move (.inl rfl) (gd0 rfl) rfl rfl ?_
    refine K.move (.inl rfl) (gd1 rfl rfl rfl (h3)) rfl rfl ?_
    refine K.nilCheck (gd1 rfl rfl rfl (h3)) rfl rfl ?_
    refine K.fieldAddr Y (gd1 rfl rfl rfl (h3)) rfl t29 rfl rfl ?_
    refine K.load1 Y (gd1 rfl rfl rfl (h3)) rfl rfl t26 rfl rfl ?_
    refine K.fieldAddr Y (gd1 rfl rfl rfl (h3)) rfl t40 rfl rfl ?_
    refine K.load1 Y (gd1 rfl rfl rfl (h3)) rfl rfl t3 rfl rfl ?_
    refine K.idxL (lrowV 22 3 intE 1 _) n (lrowV_is intE_len (by decide)) (map_at hg _) rfl (gd1 rfl rfl rfl (h3)) rfl rfl rfl Try.underlying26 el26.size_run rfl ?_
    refine K.load1L Y (lrowV 22 3 intE 1 _) n 0 (lrowV_is intE_len (by decide)) (map_at hg _) (gd1 rfl rfl rfl (h3)) rfl rfl t3 rfl rfl ?_
    refine K.fieldAddr Y (gd1 rfl rfl rfl (h3)) rfl t40 rfl rfl ?_
    refine K.load1 Y (gd1 rfl rfl rfl (h3)) rfl rfl t3 rfl rfl ?_
    refine K.bin (gd1 rfl rfl rfl (h3)) rfl rfl (fun _ => rfl) rfl ?_
    refine K.pickT (gd0 rfl) rfl (h3) rfl rfl ?_
    refine K.move (.inr rfl) (gd0 rfl) rfl rfl ?_
    refine K.nil ?_
    refine ⟨by kernel_rfl, ?_⟩
    refine At.next ?_
    refine G.ret ?_
    refine At.ent [(0, _), (21, _), (22, _), (23, _), (24, _)] [(0, obj 0 29 [OC.l 3 intE 1 _, OC.l 3 intE 1 _, OC.l 4 boolE 1 _, OC.l 3 intE 1 _, .i _, .i _])] [] (obj_close [OC.l 3 intE 1 _, OC.l 3 intE 1 _, OC.l 4 boolE 1 _, OC.l 3 intE 1 _, .i _, .i _] [21, 22, 23, 24] rfl) ⟨rfl, rfl, rfl, rfl, rfl, trivial⟩ rfl rfl rfl rfl ?_
    refine At.done Y [(.tmp 4, .c _)] rfl ⟨.tmp rfl, trivial⟩ (to' := [(0, _)]) ⟨rfl, trivial⟩ ?_ ?_ rfl rfl rfl (.inl rfl)
    · rfl
    · first | rfl | exact ret_f (by simp_all)
  ·
    refine G.rd mixed ?_
    refine K.fieldAddr Y (gd0 rfl) rfl t40 rfl rfl ?_
    refine K.load1 Y (gd0 rfl) rfl rfl t3 rfl rfl ?_
    refine K.bin (gd0 rfl) rfl rfl (fun _ => rfl) rfl ?_
    refine K.move (.inl rfl) (gd0 rfl) rfl rfl ?_
    refine K.fieldAddr Y (gd1 rfl rfl rfl (by simp [IntKind.wrap_i64] at * <;> omega)) rfl t40 rfl rfl ?_
    refine K.load1 Y (gd1 rfl rfl rfl (by simp [IntKind.wrap_i64] at * <;> omega)) rfl rfl t3 rfl rfl ?_
    refine K.move (.inl rfl) (gd1 rfl rfl rfl (by simp [IntKind.wrap_i64] at * <;> omega)) rfl rfl ?_
    refine K.nilCheck (gd1 rfl rfl rfl (by simp [IntKind.wrap_i64] at * <;> omega)) rfl rfl ?_
    refine K.fieldAddr Y (gd1 rfl rfl rfl (by simp [IntKind.wrap_i64] at * <;> omega)) rfl t29 rfl rfl ?_
    refine K.load1 Y (gd1 rfl rfl rfl (by simp [IntKind.wrap_i64] at * <;> omega)) rfl rfl t26 rfl rfl ?_
    refine K.lenL (lrowV 21 3 intE 1 _) (lrowV_is intE_len (by decide)) (gd1 rfl rfl rfl (by simp [IntKind.wrap_i64] at * <;> omega)) rfl rfl Try.underlying26 rfl ?_
    refine K.bin (gd1 rfl rfl rfl (by simp [IntKind.wrap_i64] at * <;> omega)) rfl rfl (fun _ => rfl) rfl ?_
    refine K.pickT (gd0 rfl) rfl (by simp [IntKind.wrap_i64] at * <;> omega) rfl rfl ?_
    refine K.move (.inl rfl) (gd0 rfl) rfl rfl ?_
    refine K.move (.inl rfl) (gd1 rfl rfl rfl (by simp [IntKind.wrap_i64] at * <;> omega)) rfl rfl ?_
    refine K.nilCheck (gd1 rfl rfl rfl (by simp [IntKind.wrap_i64] at * <;> omega)) rfl rfl ?_
    refine K.fieldAddr Y (gd1 rfl rfl rfl (by simp [IntKind.wrap_i64] at * <;> omega)) rfl t29 rfl rfl ?_
    refine K.load1 Y (gd1 rfl rfl rfl (by simp [IntKind.wrap_i64] at * <;> omega)) rfl rfl t27 rfl rfl ?_
    refine K.fieldAddr Y (gd1 rfl rfl rfl (by simp [IntKind.wrap_i64] at * <;> omega)) rfl t40 rfl rfl ?_
    refine K.load1 Y (gd1 rfl rfl rfl (by simp [IntKind.wrap_i64] at * <;> omega)) rfl rfl t3 rfl rfl ?_
    refine K.idxL (lrowV 23 4 boolE 1 _) n (lrowV_is boolE_len (by decide)) (map_at hg _) rfl (gd1 rfl rfl rfl (by simp [IntKind.wrap_i64] at * <;> omega)) rfl rfl rfl Try.underlying27 el27.size_run rfl ?_
    refine K.load1L Y (lrowV 23 4 boolE 1 _) n 0 (lrowV_is boolE_len (by decide)) (map_at hg _) (gd1 rfl rfl rfl (by simp [IntKind.wrap_i64] at * <;> omega)) rfl rfl t4 rfl rfl ?_
    refine K.pickT (gd0 rfl) rfl (by simp [IntKind.wrap_i64] at * <;> omega) rfl rfl ?_
    refine K.move (.inl rfl) (gd0 rfl) rfl rfl ?_
    refine K.skip rfl rfl rfl rfl (h3) rfl ?_
    refine K.skip rfl rfl rfl rfl (h3) rfl ?_
    refine K.skip rfl rfl rfl rfl (h3) rfl ?_
    refine K.skip rfl rfl rfl rfl (h3) rfl ?_
    refine K.skip rfl rfl rfl rfl (h3) rfl ?_
    refine K.skip rfl rfl rfl rfl (h3) rfl ?_
    refine K.skip rfl rfl rfl rfl (h3) rfl ?_
    refine K.skip rfl rfl rfl rfl (h3) rfl ?_
    refine K.skip rfl rfl rfl rfl (h3) rfl ?_
    refine K.skip rfl rfl rfl rfl (h3) rfl ?_
    refine K.skip rfl rfl rfl rfl (h3) rfl ?_
    refine K.pickF (gd0 rfl) rfl (h3) rfl rfl ?_
    refine K.move (.inr rfl) (gd0 rfl) rfl rfl ?_
    refine K.nil ?_
    refine ⟨by kernel_rfl, ?_⟩
    refine At.next ?_
    refine G.ret ?_
    refine At.ent [(0, _), (21, _), (22, _), (23, _), (24, _)] [(0, obj 0 29 [OC.l 3 intE 1 _, OC.l 3 intE 1 _, OC.l 4 boolE 1 _, OC.l 3 intE 1 _, .i _, .i _])] [] (obj_close [OC.l 3 intE 1 _, OC.l 3 intE 1 _, OC.l 4 boolE 1 _, OC.l 3 intE 1 _, .i _, .i _] [21, 22, 23, 24] rfl) ⟨rfl, rfl, rfl, rfl, rfl, trivial⟩ rfl rfl rfl rfl ?_
    refine At.done Y [(.tmp 4, .c _)] rfl ⟨.tmp rfl, trivial⟩ (to' := [(0, _)]) ⟨rfl, trivial⟩ ?_ ?_ rfl rfl rfl (.inl rfl)
    · rfl
    · first | rfl | exact ret_f (by simp_all)
theorem hasO {cs : List (Cell Int)} {V free : List Int} {cap vis : Int} (hV : V.length = cs.length) (hlen : cs.length < 4294967296) {i g : Int} (ho : i < 0 ∨ (cs.length : Int) ≤ i) : SCon Try.prog 54 [SV.p 0 0, SV.agg [.i i, .i g]] [(0, rtok 0 cs V free cap vis)] (SV.b false) [(0, rtok 0 cs V free cap vis)] [] := by
  refine spec_of [(0, _), (1, _)] [(0, _)] 41 Try.func54 rfl Try.ntmps54 rfl rfl rfl rfl (fun β W F => ?_)
  refine G.ent [(0, _)] [(0, _), (21, _), (22, _), (23, _), (24, _)] [21, 22, 23, 24] (obj_open [21, 22, 23, 24] rfl rfl) ⟨rfl, trivial⟩ rfl rfl rfl rfl ?_
  refine G.seq ?_
  refine G.rg ?_
  refine K.box Y 103 [_, _] (gd0 rfl) rfl rfl rfl rfl rfl rfl ?_
  refine K.move (.inr rfl) (gd0 rfl) rfl rfl ?_
  refine K.nil ?_
  refine At.next ?_
  refine G.seq ?_
  rcases Bool.eq_false_or_eq_true (decide (i ≥ 0)) with h1 | h1
  ·
    refine G.rd mixed ?_
    refine K.fieldAddr Y (gd0 rfl) rfl t40 rfl rfl ?_
    refine K.load1 Y (gd0 rfl) rfl rfl t3 rfl rfl ?_
    refine K.bin (gd0 rfl) rfl rfl (fun _ => rfl) rfl ?_
    refine K.move (.inl rfl) (gd0 rfl) rfl rfl ?_
    refine K.fieldAddr Y (gd1 rfl rfl rfl (h1)) rfl t40 rfl rfl ?_
    refine K.load1 Y (gd1 rfl rfl rfl (h1)) rfl rfl t3 rfl rfl ?_
    refine K.move (.inl rfl) (gd1 rfl rfl rfl (h1)) rfl rfl ?_
    refine K.nilCheck (gd1 rfl rfl rfl (h1)) rfl rfl ?_
    refine K.fieldAddr Y (gd1 rfl rfl rfl (h1)) rfl t29 rfl rfl ?_
    refine K.load1 Y (gd1 rfl rfl rfl (h1)) rfl rfl t26 rfl rfl ?_
    refine K.lenL (lrowV 21 3 intE 1 _) (lrowV_is intE_len (by decide)) (gd1 rfl rfl rfl (h1)) rfl rfl Try.underlying26 rfl ?_
    refine K.bin (gd1 rfl rfl rfl (h1)) rfl rfl (fun _ => rfl) rfl ?_
    refine K.pickT (gd0 rfl) rfl (h1) rfl rfl ?_
    refine K.move (.inl rfl) (gd0 rfl) rfl rfl ?_
    refine K.skip rfl rfl rfl rfl (by simp [IntKind.wrap_i64] at * <;> omega) rfl ?_
    refine K.skip rfl rfl rfl rfl (by simp [IntKind.wrap_i64] at * <;> omega) rfl ?_
    refine K.skip rfl rfl rfl rfl (by simp [IntKind.wrap_i64] at * <;> omega) rfl ?_
    refine K.skip rfl rfl rfl rfl (by simp [IntKind.wrap_i64] at * <;> omega) rfl ?_
    refine K.skip rfl rfl rfl rfl (by simp [IntKind.wrap_i64] at * <;> omega) rfl ?_
    refine K.skip rfl rfl rfl rfl (by simp [IntKind.wrap_i64] at * <;> omega) rfl ?_
    refine K.skip rfl rfl rfl rfl (by simp [IntKind.wrap_i64] at * <;> omega) rfl ?_
    refine K.skip rfl rfl rfl rfl (by simp [IntKind.wrap_i64] at * <;> omega) rfl ?_
    refine K.pickF (gd0 rfl) rfl (by simp [IntKind.wrap_i64] at * <;> omega) rfl rfl ?_
    refine K.move (.inl rfl) (gd0 rfl) rfl rfl ?_
    refine K.skip rfl rfl rfl rfl (rfl) rfl ?_
    refine K.skip rfl rfl rfl rfl (rfl) rfl ?_
    refine K.skip rfl rfl rfl rfl (rfl) rfl ?_
    refine K.skip rfl rfl rfl rfl (rfl) rfl ?_
    refine K.skip rfl rfl rfl rfl (rfl) rfl ?_
    refine K.skip rfl rfl rfl rfl (rfl) rfl ?_
    refine K.skip rfl rfl rfl rfl (rfl) rfl ?_
    refine K.skip rfl rfl rfl rfl (rfl) rfl ?_
    refine K.skip rfl rfl rfl rfl (rfl) rfl ?_
    refine K.skip rfl rfl rfl rfl (rfl) rfl ?_
    refine K.skip rfl rfl rfl rfl (rfl) rfl ?_
    refine K.pickF (gd0 rfl) rfl (rfl) rfl rfl ?_
    refine K.move (.inr rfl) (gd0 rfl) rfl rfl ?_
    refine K.nil ?_
    refine ⟨by kernel_rfl, ?_⟩
    refine At.next ?_
    refine G.ret ?_
    refine At.ent [(0, _), (21, _), (22, _), (23, _), (24, _)] [(0, obj 0 29 [OC.l 3 intE 1 _, OC.l 3 intE 1 _, OC.l 4 boolE 1 _, OC.l 3 intE 1 _, .i _, .i _])] [] (obj_close [OC.l 3 intE 1 _, OC.l 3 intE 1 _, OC.l 4 boolE 1 _, OC.l 3 intE 1 _, .i _, .i _] [21, 22, 23, 24] rfl) ⟨rfl, rfl, rfl, rfl, rfl, trivial⟩ rfl rfl rfl rfl ?_
    refine At.done Y [(.tmp 4, .c _)] rfl ⟨.tmp rfl, trivial⟩ (to' := [(0, _)]) ⟨rfl, trivial⟩ ?_ ?_ rfl rfl rfl (.inl rfl)
    · rfl
    · rfl
  ·
    refine G.rd mixed ?_
    refine K.fieldAddr Y (gd0 rfl) rfl t40 rfl rfl ?_
    refine K.load1 Y (gd0 rfl) rfl rfl t3 rfl rfl ?_
    refine K.bin (gd0 rfl) rfl rfl (fun _ => rfl) rfl ?_
    refine K.move (.inl rfl) (gd0 rfl) rfl rfl ?_
    refine K.skip rfl rfl rfl rfl (h1) rfl ?_
    refine K.skip rfl rfl rfl rfl (h1) rfl ?_
    refine K.skip rfl rfl rfl rfl (h1) rfl ?_
    refine K.skip rfl rfl rfl rfl (h1) rfl ?_
    refine K.skip rfl rfl rfl rfl (h1) rfl ?_
    refine K.skip rfl rfl rfl rfl (h1) rfl ?_
    refine K.skip rfl rfl rfl rfl (h1) rfl ?_
    refine K.skip rfl rfl rfl rfl (h1) rfl ?_
    refine K.pickF (gd0 rfl) rfl (h1) rfl rfl ?_
    refine K.move (.inl rfl) (gd0 rfl) rfl rfl ?_
    refine K.skip rfl rfl rfl rfl (rfl) rfl ?_
    refine K.skip rfl rfl rfl rfl (rfl) rfl ?_
    refine K.skip rfl rfl rfl rfl (rfl) rfl ?_
    refine K.skip rfl rfl rfl rfl (rfl) rfl ?_
    refine K.skip rfl rfl rfl rfl (rfl) rfl ?_
    refine K.skip rfl rfl rfl rfl (rfl) rfl ?_
    refine K.skip rfl rfl rfl rfl (rfl) rfl ?_
    refine K.skip rfl rfl rfl rfl (rfl) rfl ?_
    refine K.pickF (gd0 rfl) rfl (rfl) rfl rfl ?_
    refine K.move (.inl rfl) (gd0 rfl) rfl rfl ?_
    refine K.skip rfl rfl rfl rfl (rfl) rfl ?_
    refine K.skip rfl rfl rfl rfl (rfl) rfl ?_
    refine K.skip rfl rfl rfl rfl (rfl) rfl ?_
    refine K.skip rfl rfl rfl rfl (rfl) rfl ?_
    refine K.skip rfl rfl rfl rfl (rfl) rfl ?_
    refine K.skip rfl rfl rfl rfl (rfl) rfl ?_
    refine K.skip rfl rfl rfl rfl (rfl) rfl ?_
    refine K.skip rfl rfl rfl rfl (rfl) rfl ?_
    refine K.skip rfl rfl rfl rfl (rfl) rfl ?_
    refine K.skip rfl rfl rfl rfl (rfl) rfl ?_
    refine K.skip rfl rfl rfl rfl (rfl) rfl ?_
    refine K.pickF (gd0 rfl) rfl (rfl) rfl rfl ?_
    refine K.move (.inr rfl) (gd0 rfl) rfl rfl ?_
    refine K.nil ?_
    refine ⟨by kernel_rfl, ?_⟩
    refine At.next ?_
    refine G.ret ?_
    refine At.ent [(0, _), (21, _), (22, _), (23, _), (24, _)] [(0, obj 0 29 [OC.l 3 intE 1 _, OC.l 3 intE 1 _, OC.l 4 boolE 1 _, OC.l 3 intE 1 _, .i _, .i _])] [] (obj_close [OC.l 3 intE 1 _, OC.l 3 intE 1 _, OC.l 4 boolE 1 _, OC.l 3 intE 1 _, .i _, .i _] [21, 22, 23, 24] rfl) ⟨rfl, rfl, rfl, rfl, rfl, trivial⟩ rfl rfl rfl rfl ?_
    refine At.done Y [(.tmp 4, .c _)] rfl ⟨.tmp rfl, trivial⟩ (to' := [(0, _)]) ⟨rfl, trivial⟩ ?_ ?_ rfl rfl rfl (.inl rfl)
    · rfl
    · rfl
theorem hasN {cs : List (Cell Int)} {V free : List Int} {cap vis : Int} (hV : V.length = cs.length) (hlen : cs.length < 4294967296) {i g : Int} (hn : lookC cs i g = none) (k : Nat) : SCon Try.prog 54 [SV.p k 0, SV.agg [.i i, .i g]] [(k, rtok k cs V free cap vis)] (SV.b false) [(k, rtok k cs V free cap vis)] [] := by
  refine SCon.ren (rn [(0, k)]) (args := [SV.p 0 0, SV.agg [.i i, .i g]]) (ret := SV.b false) (fr := []) (ti := [(0, rtok 0 cs V free cap vis)]) (to := [(0, rtok 0 cs V free cap vis)]) ?_ ⟨obj_ren rfl, trivial⟩ ⟨obj_ren rfl, trivial⟩ (by simp) (by simp)
  rcases lookC_split hn with h | ⟨n, c, rfl, hg, hd⟩
  · exact hasO hV hlen h
  · exact hasD hV hlen hg hd
theorem hasY {cs : List (Cell Int)} {V free : List Int} {cap vis : Int} (hV : V.length = cs.length) (hlen : cs.length < 4294967296) {n : Nat} {c : Cell Int} (hg : cs[n]? = some c) (hl : c.live = true) (k : Nat) : SCon Try.prog 54 [SV.p k 0, SV.agg [.i (n : Int), .i c.gen]] [(k, rtok k cs V free cap vis)] (SV.b true) [(k, rtok k cs V free cap vis)] [] :=
  SCon.ren (rn [(0, k)]) (hasS hV hlen hg hl) ⟨obj_ren rfl, trivial⟩ ⟨obj_ren rfl, trivial⟩ (by simp) (by simp)

theorem rgetY_ {cs : List (Cell Int)} {V free : List Int} {cap vis : Int} (hV : V.length = cs.length) (hlen : cs.length < 4294967296) {n : Nat} {c : Cell Int} (hg : cs[n]? = some c) (hl : c.live = true) {v : Int} (hv : V[n]? = some v) : SCon Try.prog 30 [SV.p 0 0, SV.agg [.i (n : Int), .i c.gen]] [(0, obj 0 29 [OC.l 3 intE 1 V, OC.l 3 intE 1 (cs.map (·.gen)), OC.l 4 boolE 1 (cs.map (·.live)), OC.l 3 intE 1 free, .i cap, .i vis])] (.tup [.c (.i v), .c (.b true)]) [(0, obj 0 29 [OC.l 3 intE 1 V, OC.l 3 intE 1 (cs.map (·.gen)), OC.l 4 boolE 1 (cs.map (·.live)), OC.l 3 intE 1 free, .i cap, .i (IntKind.i64.wrap (vis + 1))])] [] := by
  have hlt := (List.getElem?_eq_some_iff.1 hg).1
  refine spec_of [(0, _), (1, _)] [(0, _)] 25 Try.func30 rfl Try.ntmps30 rfl rfl rfl rfl (fun β W F => ?_)
  refine G.seq ?_
  refine G.rg ?_
  refine K.box Y 103 [_, _] (gd0 rfl) rfl rfl rfl rfl rfl rfl ?_
  refine K.move (.inr rfl) (gd0 rfl) rfl rfl ?_
  refine K.move (.inr rfl) (gd0 rfl) rfl rfl ?_
  refine K.nil ?_
  refine At.next ?_
  refine G.seq ?_
  refine G.seq ?_
  refine G.rg ?_
  refine K.move (.inl rfl) (gd0 rfl) rfl rfl ?_
  refine K.loadS Y [_, _] (gd0 rfl) rfl rfl t40 rfl rfl rfl ?_
  refine K.call0 [(.func 54, _), ((.tmp 6), _), ((.tmp 7), _)] (hasY hV hlen hg hl 0) (toFn_func (cf 54 rfl) rfl) (gd0 rfl) ⟨rfl, rfl, rfl, trivial⟩ ⟨rfl, trivial⟩ rfl rfl rfl rfl rfl rfl ?_
  refine K.un (gd0 rfl) rfl (fun _ => rfl) rfl ?_
  refine K.nil ?_
  refine At.next ?_
  refine G.cond rfl (fun h1 => ?_) (fun h1 => ?_)
  · exact absurd h1 (by simp)
  ·
    refine G.skip ?_
    refine At.next ?_
    refine G.seq ?_
    refine G.ent [(0, _)] [(0, _), (21, _), (22, _), (23, _), (24, _)] [21, 22, 23, 24] (obj_open [21, 22, 23, 24] rfl rfl) ⟨rfl, trivial⟩ rfl rfl rfl rfl ?_
    refine G.rg ?_
    refine K.move (.inl rfl) (gd0 rfl) rfl rfl ?_
    refine K.nilCheck (gd0 rfl) rfl rfl ?_
    refine K.fieldAddr Y (gd0 rfl) rfl t29 rfl rfl ?_
    refine K.load1 Y (gd0 rfl) rfl rfl t3 rfl rfl ?_
    refine K.bin (gd0 rfl) rfl rfl (fun _ => rfl) rfl ?_
    refine K.nilCheck (gd0 rfl) rfl rfl ?_
    refine K.fieldAddr Y (gd0 rfl) rfl t29 rfl rfl ?_
    refine K.store Y [_, _, _, _, _, _] (gd0 rfl) rfl rfl rfl t3 rfl rfl rfl rfl rfl ?_
    refine K.nil ?_
    refine At.next ?_
    refine G.seq ?_
    refine G.rd mixed ?_
    refine K.move (.inl rfl) (gd0 rfl) rfl rfl ?_
    refine K.nilCheck (gd0 rfl) rfl rfl ?_
    refine K.fieldAddr Y (gd0 rfl) rfl t29 rfl rfl ?_
    refine K.load1 Y (gd0 rfl) rfl rfl t26 rfl rfl ?_
    refine K.fieldAddr Y (gd0 rfl) rfl t40 rfl rfl ?_
    refine K.load1 Y (gd0 rfl) rfl rfl t3 rfl rfl ?_
    refine K.idxL (lrowV 21 3 intE 1 _) n (lrowV_is intE_len (by decide)) hv rfl (gd0 rfl) rfl rfl rfl Try.underlying26 el26.size_run rfl ?_
    refine K.load1L Y (lrowV 21 3 intE 1 _) n 0 (lrowV_is intE_len (by decide)) hv (gd0 rfl) rfl rfl t3 rfl rfl ?_
    refine K.move (.inr rfl) (gd0 rfl) rfl rfl ?_
    refine K.move (.inr rfl) (gd0 rfl) rfl rfl ?_
    refine K.nil ?_
    refine ⟨by kernel_rfl, ?_⟩
    refine At.next ?_
    refine G.ret ?_
    refine At.ent [(0, _), (21, _), (22, _), (23, _), (24, _)] [(0, obj 0 29 [OC.l 3 intE 1 _, OC.l 3 intE 1 _, OC.l 4 boolE 1 _, OC.l 3 intE 1 _, .i _, .i _])] [] (obj_close [OC.l 3 intE 1 _, OC.l 3 intE 1 _, OC.l 4 boolE 1 _, OC.l 3 intE 1 _, .i _, .i _] [21, 22, 23, 24] rfl) ⟨rfl, rfl, rfl, rfl, rfl, trivial⟩ rfl rfl rfl rfl ?_
    refine At.done Y [(.tmp 4, .c _), (.tmp 5, .c _)] rfl ⟨.tmp rfl, .tmp rfl, trivial⟩ (to' := [(0, _)]) ⟨rfl, trivial⟩ ?_ ?_ rfl rfl rfl (.inl rfl)
    · rfl
    · rfl
theorem rgetY {cs : List (Cell Int)} {V free : List Int} {cap vis : Int} (hV : V.length = cs.length) (hlen : cs.length < 4294967296) {n : Nat} {c : Cell Int} (hg : cs[n]? = some c) (hl : c.live = true) {v : Int} (hv : V[n]? = some v) (k : Nat) : SCon Try.prog 30 [SV.p k 0, SV.agg [.i (n : Int), .i c.gen]] [(k, obj k 29 [OC.l 3 intE 1 V, OC.l 3 intE 1 (cs.map (·.gen)), OC.l 4 boolE 1 (cs.map (·.live)), OC.l 3 intE 1 free, .i cap, .i vis])] (.tup [.c (.i v), .c (.b true)]) [(k, obj k 29 [OC.l 3 intE 1 V, OC.l 3 intE 1 (cs.map (·.gen)), OC.l 4 boolE 1 (cs.map (·.live)), OC.l 3 intE 1 free, .i cap, .i (IntKind.i64.wrap (vis + 1))])] [] :=
  SCon.ren (rn [(0, k)]) (rgetY_ hV hlen hg hl hv) ⟨obj_ren rfl, trivial⟩ ⟨obj_ren rfl, trivial⟩ (by simp) (by simp)
theorem rgetN_ {cs : List (Cell Int)} {V free : List Int} {cap vis : Int} (hV : V.length = cs.length) (hlen : cs.length < 4294967296) {i g : Int} (hn : lookC cs i g = none) : SCon Try.prog 30 [SV.p 0 0, SV.agg [.i i, .i g]] [(0, obj 0 29 [OC.l 3 intE 1 V, OC.l 3 intE 1 (cs.map (·.gen)), OC.l 4 boolE 1 (cs.map (·.live)), OC.l 3 intE 1 free, .i cap, .i vis])] (.tup [.c (.i 0), .c (.b false)]) [(0, obj 0 29 [OC.l 3 intE 1 V, OC.l 3 intE 1 (cs.map (·.gen)), OC.l 4 boolE 1 (cs.map (·.live)), OC.l 3 intE 1 free, .i cap, .i vis])] [] := by
  refine spec_of [(0, _), (1, _)] [(0, _)] 25 Try.func30 rfl Try.ntmps30 rfl rfl rfl rfl (fun β W F => ?_)
  refine G.seq ?_
  refine G.rg ?_
  refine K.box Y 103 [_, _] (gd0 rfl) rfl rfl rfl rfl rfl rfl ?_
  refine K.move (.inr rfl) (gd0 rfl) rfl rfl ?_
  refine K.move (.inr rfl) (gd0 rfl) rfl rfl ?_
  refine K.nil ?_
  refine At.next ?_
  refine G.seq ?_
  refine G.seq ?_
  refine G.rg ?_
  refine K.move (.inl rfl) (gd0 rfl) rfl rfl ?_
  refine K.loadS Y [_, _] (gd0 rfl) rfl rfl t40 rfl rfl rfl ?_
  refine K.call0 [(.func 54, _), ((.tmp 6), _), ((.tmp 7), _)] (hasN hV hlen hn 0) (toFn_func (cf 54 rfl) rfl) (gd0 rfl) ⟨rfl, rfl, rfl, trivial⟩ ⟨rfl, trivial⟩ rfl rfl rfl rfl rfl rfl ?_
  refine K.un (gd0 rfl) rfl (fun _ => rfl) rfl ?_
  refine K.nil ?_
  refine At.next ?_
  refine G.cond rfl (fun h1 => ?_) (fun h1 => ?_)
  ·
    refine G.seq ?_
    refine G.rg ?_
    refine K.move (.inr rfl) (gd0 rfl) rfl rfl ?_
    refine K.move (.inr rfl) (gd0 rfl) rfl rfl ?_
    refine K.nil ?_
    refine At.next ?_
    refine G.ret ?_
    refine At.over_ret ?_
    refine At.done Y [(.tmp 4, .c _), (.tmp 5, .c _)] rfl ⟨.tmp rfl, .tmp rfl, trivial⟩ (to' := [(0, _)]) ⟨rfl, trivial⟩ ?_ ?_ rfl rfl rfl (.inl rfl)
    · rfl
    · rfl
  · exact absurd h1 (by simp)
theorem rgetN {cs : List (Cell Int)} {V free : List Int} {cap vis : Int} (hV : V.length = cs.length) (hlen : cs.length < 4294967296) {i g : Int} (hn : lookC cs i g = none) (k : Nat) : SCon Try.prog 30 [SV.p k 0, SV.agg [.i i, .i g]] [(k, obj k 29 [OC.l 3 intE 1 V, OC.l 3 intE 1 (cs.map (·.gen)), OC.l 4 boolE 1 (cs.map (·.live)), OC.l 3 intE 1 free, .i cap, .i vis])] (.tup [.c (.i 0), .c (.b false)]) [(k, obj k 29 [OC.l 3 intE 1 V, OC.l 3 intE 1 (cs.map (·.gen)), OC.l 4 boolE 1 (cs.map (·.live)), OC.l 3 intE 1 free, .i cap, .i vis])] [] :=
  SCon.ren (rn [(0, k)]) (rgetN_ hV hlen hn) ⟨obj_ren rfl, trivial⟩ ⟨obj_ren rfl, trivial⟩ (by simp) (by simp)
theorem rsetY_ {cs : List (Cell Int)} {V free : List Int} {cap vis : Int} (hV : V.length = cs.length) (hlen : cs.length < 4294967296) {n : Nat} {c : Cell Int} (hg : cs[n]? = some c) (hl : c.live = true) (v' : Int) {v : Int} (hv : V[n]? = some v) : SCon Try.prog 31 [SV.p 0 0, SV.agg [.i (n : Int), .i c.gen], SV.i v'] [(0, obj 0 29 [OC.l 3 intE 1 V, OC.l 3 intE 1 (cs.map (·.gen)), OC.l 4 boolE 1 (cs.map (·.live)), OC.l 3 intE 1 free, .i cap, .i vis])] (SV.b true) [(0, obj 0 29 [OC.l 3 intE 1 (V.set n v'), OC.l 3 intE 1 (cs.map (·.gen)), OC.l 4 boolE 1 (cs.map (·.live)), OC.l 3 intE 1 free, .i cap, .i (IntKind.i64.wrap (vis + 1))])] [] := by
  have hlt := (List.getElem?_eq_some_iff.1 hg).1
  refine spec_of [(0, _), (1, _), (2, _)] [(0, _)] 26 Try.func31 rfl Try.ntmps31 rfl rfl rfl rfl (fun β W F => ?_)
  refine G.seq ?_
  refine G.rg ?_
  refine K.box Y 104 [_, _] (gd0 rfl) rfl rfl rfl rfl rfl rfl ?_
  refine K.move (.inr rfl) (gd0 rfl) rfl rfl ?_
  refine K.nil ?_
  refine At.next ?_
  refine G.seq ?_
  refine G.seq ?_
  refine G.rg ?_
  refine K.move (.inl rfl) (gd0 rfl) rfl rfl ?_
  refine K.loadS Y [_, _] (gd0 rfl) rfl rfl t40 rfl rfl rfl ?_
  refine K.call0 [(.func 54, _), ((.tmp 7), _), ((.tmp 8), _)] (hasY hV hlen hg hl 0) (toFn_func (cf 54 rfl) rfl) (gd0 rfl) ⟨rfl, rfl, rfl, trivial⟩ ⟨rfl, trivial⟩ rfl rfl rfl rfl rfl rfl ?_
  refine K.un (gd0 rfl) rfl (fun _ => rfl) rfl ?_
  refine K.nil ?_
  refine At.next ?_
  refine G.cond rfl (fun h1 => ?_) (fun h1 => ?_)
  · exact absurd h1 (by simp)
  ·
    refine G.skip ?_
    refine At.next ?_
    refine G.seq ?_
    refine G.ent [(0, _)] [(0, _), (21, _), (22, _), (23, _), (24, _)] [21, 22, 23, 24] (obj_open [21, 22, 23, 24] rfl rfl) ⟨rfl, trivial⟩ rfl rfl rfl rfl ?_
    refine G.rg ?_
    refine K.move (.inl rfl) (gd0 rfl) rfl rfl ?_
    refine K.nilCheck (gd0 rfl) rfl rfl ?_
    refine K.fieldAddr Y (gd0 rfl) rfl t29 rfl rfl ?_
    refine K.load1 Y (gd0 rfl) rfl rfl t3 rfl rfl ?_
    refine K.bin (gd0 rfl) rfl rfl (fun _ => rfl) rfl ?_
    refine K.nilCheck (gd0 rfl) rfl rfl ?_
    refine K.fieldAddr Y (gd0 rfl) rfl t29 rfl rfl ?_
    refine K.store Y [_, _, _, _, _, _] (gd0 rfl) rfl rfl rfl t3 rfl rfl rfl rfl rfl ?_
    refine K.nil ?_
    refine At.next ?_
    refine G.seq ?_
    refine G.rd mixed ?_
    refine K.move (.inl rfl) (gd0 rfl) rfl rfl ?_
    refine K.nilCheck (gd0 rfl) rfl rfl ?_
    refine K.fieldAddr Y (gd0 rfl) rfl t29 rfl rfl ?_
    refine K.load1 Y (gd0 rfl) rfl rfl t26 rfl rfl ?_
    refine K.fieldAddr Y (gd0 rfl) rfl t40 rfl rfl ?_
    refine K.load1 Y (gd0 rfl) rfl rfl t3 rfl rfl ?_
    refine K.move (.inl rfl) (gd0 rfl) rfl rfl ?_
    refine K.idxL (lrowV 21 3 intE 1 _) n (lrowV_is intE_len (by decide)) hv rfl (gd0 rfl) rfl rfl rfl Try.underlying26 el26.size_run rfl ?_
    refine K.storeL Y n 0 [_] v' intE_len (by decide) hv (gd0 rfl) rfl rfl rfl t3 rfl rfl rfl rfl rfl rfl ?_
    refine K.nil ?_
    refine ⟨by kernel_rfl, ?_⟩
    refine At.next ?_
    refine G.seq ?_
    refine G.rg ?_
    refine K.move (.inr rfl) (gd0 rfl) rfl rfl ?_
    refine K.nil ?_
    refine At.next ?_
    refine G.ret ?_
    refine At.ent [(0, _), (21, _), (22, _), (23, _), (24, _)] [(0, obj 0 29 [OC.l 3 intE 1 _, OC.l 3 intE 1 _, OC.l 4 boolE 1 _, OC.l 3 intE 1 _, .i _, .i _])] [] (obj_close [OC.l 3 intE 1 _, OC.l 3 intE 1 _, OC.l 4 boolE 1 _, OC.l 3 intE 1 _, .i _, .i _] [21, 22, 23, 24] rfl) ⟨rfl, rfl, rfl, rfl, rfl, trivial⟩ rfl rfl rfl rfl ?_
    refine At.done Y [(.tmp 6, .c _)] rfl ⟨.tmp rfl, trivial⟩ (to' := [(0, _)]) ⟨rfl, trivial⟩ ?_ ?_ rfl rfl rfl (.inl rfl)
    · rfl
    · rfl
theorem rsetY {cs : List (Cell Int)} {V free : List Int} {cap vis : Int} (hV : V.length = cs.length) (hlen : cs.length < 4294967296) {n : Nat} {c : Cell Int} (hg : cs[n]? = some c) (hl : c.live = true) (v' : Int) {v : Int} (hv : V[n]? = some v) (k : Nat) : SCon Try.prog 31 [SV.p k 0, SV.agg [.i (n : Int), .i c.gen], SV.i v'] [(k, obj k 29 [OC.l 3 intE 1 V, OC.l 3 intE 1 (cs.map (·.gen)), OC.l 4 boolE 1 (cs.map (·.live)), OC.l 3 intE 1 free, .i cap, .i vis])] (SV.b true) [(k, obj k 29 [OC.l 3 intE 1 (V.set n v'), OC.l 3 intE 1 (cs.map (·.gen)), OC.l 4 boolE 1 (cs.map (·.live)), OC.l 3 intE 1 free, .i cap, .i (IntKind.i64.wrap (vis + 1))])] [] :=
  SCon.ren (rn [(0, k)]) (rsetY_ hV hlen hg hl v' hv) ⟨obj_ren rfl, trivial⟩ ⟨obj_ren rfl, trivial⟩ (by simp) (by simp)
theorem rsetN_ {cs : List (Cell Int)} {V free : List Int} {cap vis : Int} (hV : V.length = cs.length) (hlen : cs.length < 4294967296) {i g : Int} (hn : lookC cs i g = none) (v' : Int) : SCon Try.prog 31 [SV.p 0 0, SV.agg [.i i, .i g], SV.i v'] [(0, obj 0 29 [OC.l 3 intE 1 V, OC.l 3 intE 1 (cs.map (·.gen)), OC.l 4 boolE 1 (cs.map (·.live)), OC.l 3 intE 1 free, .i cap, .i vis])] (SV.b false) [(0, obj 0 29 [OC.l 3 intE 1 V, OC.l 3 intE 1 (cs.map (·.gen)), OC.l 4 boolE 1 (cs.map (·.live)), OC.l 3 intE 1 free, .i cap, .i vis])] [] := by
  refine spec_of [(0, _), (1, _), (2, _)] [(0, _)] 26 Try.func31 rfl Try.ntmps31 rfl rfl rfl rfl (fun β W F => ?_)
  refine G.seq ?_
  refine G.rg ?_
  refine K.box Y 104 [_, _] (gd0 rfl) rfl rfl rfl rfl rfl rfl ?_
  refine K.move (.inr rfl) (gd0 rfl) rfl rfl ?_
  refine K.nil ?_
  refine At.next ?_
  refine G.seq ?_
  refine G.seq ?_
  refine G.rg ?_
  refine K.move (.inl rfl) (gd0 rfl) rfl rfl ?_
  refine K.loadS Y [_, _] (gd0 rfl) rfl rfl t40 rfl rfl rfl ?_
  refine K.call0 [(.func 54, _), ((.tmp 7), _), ((.tmp 8), _)] (hasN hV hlen hn 0) (toFn_func (cf 54 rfl) rfl) (gd0 rfl) ⟨rfl, rfl, rfl, trivial⟩ ⟨rfl, trivial⟩ rfl rfl rfl rfl rfl rfl ?_
  refine K.un (gd0 rfl) rfl (fun _ => rfl) rfl ?_
  refine K.nil ?_
  refine At.next ?_
  refine G.cond rfl (fun h1 => ?_) (fun h1 => ?_)
  ·
    refine G.seq ?_
    refine G.rg ?_
    refine K.move (.inr rfl) (gd0 rfl) rfl rfl ?_
    refine K.nil ?_
    refine At.next ?_
    refine G.ret ?_
    refine At.over_ret ?_
    refine At.done Y [(.tmp 6, .c _)] rfl ⟨.tmp rfl, trivial⟩ (to' := [(0, _)]) ⟨rfl, trivial⟩ ?_ ?_ rfl rfl rfl (.inl rfl)
    · rfl
    · rfl
  · exact absurd h1 (by simp)
theorem rsetN {cs : List (Cell Int)} {V free : List Int} {cap vis : Int} (hV : V.length = cs.length) (hlen : cs.length < 4294967296) {i g : Int} (hn : lookC cs i g = none) (v' : Int) (k : Nat) : SCon Try.prog 31 [SV.p k 0, SV.agg [.i i, .i g], SV.i v'] [(k, obj k 29 [OC.l 3 intE 1 V, OC.l 3 intE 1 (cs.map (·.gen)), OC.l 4 boolE 1 (cs.map (·.live)), OC.l 3 intE 1 free, .i cap, .i vis])] (SV.b false) [(k, obj k 29 [OC.l 3 intE 1 V, OC.l 3 intE 1 (cs.map (·.gen)), OC.l 4 boolE 1 (cs.map (·.live)), OC.l 3 intE 1 free, .i cap, .i vis])] [] :=
  SCon.ren (rn [(0, k)]) (rsetN_ hV hlen hn v') ⟨obj_ren rfl, trivial⟩ ⟨obj_ren rfl, trivial⟩ (by simp) (by simp)
theorem rdropY_ {cs : List (Cell Int)} {V free : List Int} {cap vis : Int} (hV : V.length = cs.length) (hlen : cs.length < 4294967296) {n : Nat} {c : Cell Int} (hg : cs[n]? = some c) (hl : c.live = true) {v : Int} (hv : V[n]? = some v) (hgm : c.gen < 4294967295) (hfl : free.length < 4294967296) : SCon Try.prog 32 [SV.p 0 0, SV.agg [.i (n : Int), .i c.gen]] [(0, obj 0 29 [OC.l 3 intE 1 V, OC.l 3 intE 1 (cs.map (·.gen)), OC.l 4 boolE 1 (cs.map (·.live)), OC.l 3 intE 1 free, .i cap, .i vis])] (.tup [.c (.i v), .c (.b true)]) [(0, obj 0 29 [OC.l 3 intE 1 V, OC.l 3 intE 1 (cs.map (·.gen)), OC.l 4 boolE 1 ((cs.map (·.live)).set n false), OC.l 3 intE 1 ([(n : Int)] ++ free), .i cap, .i (IntKind.i64.wrap (vis + 1))])] [] := by
  have hlt := (List.getElem?_eq_some_iff.1 hg).1
  refine spec_of [(0, _), (1, _)] [(0, _)] 38 Try.func32 rfl Try.ntmps32 rfl rfl rfl rfl (fun β W F => ?_)
  refine G.seq ?_
  refine G.rg ?_
  refine K.box Y 103 [_, _] (gd0 rfl) rfl rfl rfl rfl rfl rfl ?_
  refine K.move (.inr rfl) (gd0 rfl) rfl rfl ?_
  refine K.move (.inr rfl) (gd0 rfl) rfl rfl ?_
  refine K.nil ?_
  refine At.next ?_
  refine G.seq ?_
  refine G.rg ?_
  refine K.move (.inl rfl) (gd0 rfl) rfl rfl ?_
  refine K.loadS Y [_, _] (gd0 rfl) rfl rfl t40 rfl rfl rfl ?_
  refine K.call0 [(.func 30, _), ((.tmp 9), _), ((.tmp 10), _)] (rgetY hV hlen hg hl hv 0) (toFn_func (cf 30 rfl) rfl) (gd0 rfl) ⟨rfl, rfl, rfl, trivial⟩ ⟨rfl, trivial⟩ rfl rfl rfl rfl rfl rfl ?_
  refine K.move (.inl rfl) (gd0 rfl) rfl rfl ?_
  refine K.extract (gd0 rfl) rfl rfl rfl ?_
  refine K.extract (gd0 rfl) rfl rfl rfl ?_
  refine K.move (.inr rfl) (gd0 rfl) rfl rfl ?_
  refine K.move (.inr rfl) (gd0 rfl) rfl rfl ?_
  refine K.nil ?_
  refine At.next ?_
  refine G.seq ?_
  refine G.seq ?_
  refine G.rg ?_
  refine K.move (.inl rfl) (gd0 rfl) rfl rfl ?_
  refine K.nil ?_
  refine At.next ?_
  refine G.cond rfl (fun h1 => ?_) (fun h1 => ?_)
  ·
    refine G.seq ?_
    refine G.ent [(0, _)] [(0, _), (21, _), (22, _), (23, _), (24, _)] [21, 22, 23, 24] (obj_open [21, 22, 23, 24] rfl rfl) ⟨rfl, trivial⟩ rfl rfl rfl rfl ?_
    refine G.rd mixed ?_
    refine K.move (.inl rfl) (gd0 rfl) rfl rfl ?_
    refine K.nilCheck (gd0 rfl) rfl rfl ?_
    refine K.fieldAddr Y (gd0 rfl) rfl t29 rfl rfl ?_
    refine K.load1 Y (gd0 rfl) rfl rfl t27 rfl rfl ?_
    refine K.fieldAddr Y (gd0 rfl) rfl t40 rfl rfl ?_
    refine K.load1 Y (gd0 rfl) rfl rfl t3 rfl rfl ?_
    refine K.idxL (lrowV 23 4 boolE 1 _) n (lrowV_is boolE_len (by decide)) (map_at hg _) rfl (gd0 rfl) rfl rfl rfl Try.underlying27 el27.size_run rfl ?_
    refine K.storeL Y n 0 [_] false boolE_len (by decide) (map_at hg _) (gd0 rfl) rfl rfl rfl t4 rfl rfl rfl rfl rfl rfl ?_
    refine K.nil ?_
    refine ⟨by kernel_rfl, ?_⟩
    refine At.next ?_
    refine G.seq ?_
    refine G.rg ?_
    refine K.fieldAddr Y (gd0 rfl) rfl t40 rfl rfl ?_
    refine K.load1 Y (gd0 rfl) rfl rfl t3 rfl rfl ?_
    refine K.bin (gd0 rfl) rfl rfl (fun _ => rfl) rfl ?_
    refine K.nil ?_
    refine At.next ?_
    refine G.cond rfl (fun h2 => ?_) (fun h2 => ?_)
    ·
      refine G.rd mixed ?_
      refine K.move (.inl rfl) (gd0 rfl) rfl rfl ?_
      refine K.fieldAddr Y (gd0 rfl) rfl t40 rfl rfl ?_
      refine K.load1 Y (gd0 rfl) rfl rfl t3 rfl rfl ?_
      refine K.buildL Y 128 [(n : Int)] [(0, _)] [((.tmp 27), _)] intE_len (gd0 rfl) (AllE.spec ⟨rfl, trivial⟩) rfl rfl Try.underlying26 t3 rfl rfl rfl rfl rfl rfl rfl rfl ?_
      refine K.move (.inl rfl) (gd0 rfl) rfl rfl ?_
      refine K.nilCheck (gd0 rfl) rfl rfl ?_
      refine K.fieldAddr Y (gd0 rfl) rfl t29 rfl rfl ?_
      refine K.load1 Y (gd0 rfl) rfl rfl t26 rfl rfl ?_
      refine K.appendL 133 (lrowV 24 3 intE 1 _) _ el26 (lrowV_is intE_len (by decide)) intE_one (gd0 rfl) rfl rfl rfl rfl rfl (by simp [maxLen]; omega) (by simp; omega) rfl rfl rfl rfl rfl rfl ?_
      refine K.nilCheck (gd0 rfl) rfl rfl ?_
      refine K.fieldAddr Y (gd0 rfl) rfl t29 rfl rfl ?_
      refine K.store Y [_, _, _, _, _, _] (gd0 rfl) rfl rfl rfl t26 rfl rfl rfl rfl rfl ?_
      refine K.nil ?_
      refine ⟨by kernel_rfl, ?_⟩
      refine At.next ?_
      refine G.seq ?_
      refine G.rg ?_
      refine K.move (.inl rfl) (gd0 rfl) rfl rfl ?_
      refine K.move (.inl rfl) (gd0 rfl) rfl rfl ?_
      refine K.move (.inr rfl) (gd0 rfl) rfl rfl ?_
      refine K.move (.inr rfl) (gd0 rfl) rfl rfl ?_
      refine K.nil ?_
      refine At.next ?_
      refine G.ret ?_
      refine At.ent [(0, _), (21, _), (22, _), (23, _), (133, _)] [(0, obj 0 29 [OC.l 3 intE 1 _, OC.l 3 intE 1 _, OC.l 4 boolE 1 _, OC.l 3 intE 1 _, .i _, .i _])] [] (obj_close [OC.l 3 intE 1 _, OC.l 3 intE 1 _, OC.l 4 boolE 1 _, OC.l 3 intE 1 _, .i _, .i _] [21, 22, 23, 133] rfl) ⟨rfl, rfl, rfl, rfl, rfl, trivial⟩ rfl rfl rfl rfl ?_
      refine At.done Y [(.tmp 4, .c _), (.tmp 5, .c _)] rfl ⟨.tmp rfl, .tmp rfl, trivial⟩ (to' := [(0, _)]) ⟨rfl, trivial⟩ ?_ ?_ rfl rfl rfl (.inl rfl)
      · rfl
      · rfl
    · exact absurd h2 (by simp; omega)
  · exact absurd h1 (by simp)
theorem rdropY {cs : List (Cell Int)} {V free : List Int} {cap vis : Int} (hV : V.length = cs.length) (hlen : cs.length < 4294967296) {n : Nat} {c : Cell Int} (hg : cs[n]? = some c) (hl : c.live = true) {v : Int} (hv : V[n]? = some v) (hgm : c.gen < 4294967295) (hfl : free.length < 4294967296) (k : Nat) : SCon Try.prog 32 [SV.p k 0, SV.agg [.i (n : Int), .i c.gen]] [(k, obj k 29 [OC.l 3 intE 1 V, OC.l 3 intE 1 (cs.map (·.gen)), OC.l 4 boolE 1 (cs.map (·.live)), OC.l 3 intE 1 free, .i cap, .i vis])] (.tup [.c (.i v), .c (.b true)]) [(k, obj k 29 [OC.l 3 intE 1 V, OC.l 3 intE 1 (cs.map (·.gen)), OC.l 4 boolE 1 ((cs.map (·.live)).set n false), OC.l 3 intE 1 ([(n : Int)] ++ free), .i cap, .i (IntKind.i64.wrap (vis + 1))])] [] :=
  SCon.ren (rn [(0, k)]) (rdropY_ hV hlen hg hl hv hgm hfl) ⟨obj_ren rfl, trivial⟩ ⟨obj_ren rfl, trivial⟩ (by simp) (by simp)
theorem rdropN_ {cs : List (Cell Int)} {V free : List Int} {cap vis : Int} (hV : V.length = cs.length) (hlen : cs.length < 4294967296) {i g : Int} (hn : lookC cs i g = none) : SCon Try.prog 32 [SV.p 0 0, SV.agg [.i i, .i g]] [(0, obj 0 29 [OC.l 3 intE 1 V, OC.l 3 intE 1 (cs.map (·.gen)), OC.l 4 boolE 1 (cs.map (·.live)), OC.l 3 intE 1 free, .i cap, .i vis])] (.tup [.c (.i 0), .c (.b false)]) [(0, obj 0 29 [OC.l 3 intE 1 V, OC.l 3 intE 1 (cs.map (·.gen)), OC.l 4 boolE 1 (cs.map (·.live)), OC.l 3 intE 1 free, .i cap, .i vis])] [] := by
  refine spec_of [(0, _), (1, _)] [(0, _)] 38 Try.func32 rfl Try.ntmps32 rfl rfl rfl rfl (fun β W F => ?_)
  refine G.seq ?_
  refine G.rg ?_
  refine K.box Y 103 [_, _] (gd0 rfl) rfl rfl rfl rfl rfl rfl ?_
  refine K.move (.inr rfl) (gd0 rfl) rfl rfl ?_
  refine K.move (.inr rfl) (gd0 rfl) rfl rfl ?_
  refine K.nil ?_
  refine At.next ?_
  refine G.seq ?_
  refine G.rg ?_
  refine K.move (.inl rfl) (gd0 rfl) rfl rfl ?_
  refine K.loadS Y [_, _] (gd0 rfl) rfl rfl t40 rfl rfl rfl ?_
  refine K.call0 [(.func 30, _), ((.tmp 9), _), ((.tmp 10), _)] (rgetN hV hlen hn 0) (toFn_func (cf 30 rfl) rfl) (gd0 rfl) ⟨rfl, rfl, rfl, trivial⟩ ⟨rfl, trivial⟩ rfl rfl rfl rfl rfl rfl ?_
  refine K.move (.inl rfl) (gd0 rfl) rfl rfl ?_
  refine K.extract (gd0 rfl) rfl rfl rfl ?_
  refine K.extract (gd0 rfl) rfl rfl rfl ?_
  refine K.move (.inr rfl) (gd0 rfl) rfl rfl ?_
  refine K.move (.inr rfl) (gd0 rfl) rfl rfl ?_
  refine K.nil ?_
  refine At.next ?_
  refine G.seq ?_
  refine G.seq ?_
  refine G.rg ?_
  refine K.move (.inl rfl) (gd0 rfl) rfl rfl ?_
  refine K.nil ?_
  refine At.next ?_
  refine G.cond rfl (fun h1 => ?_) (fun h1 => ?_)
  · exact absurd h1 (by simp)
  ·
    refine G.skip ?_
    refine At.next ?_
    refine G.seq ?_
    refine G.rg ?_
    refine K.move (.inl rfl) (gd0 rfl) rfl rfl ?_
    refine K.move (.inl rfl) (gd0 rfl) rfl rfl ?_
    refine K.move (.inr rfl) (gd0 rfl) rfl rfl ?_
    refine K.move (.inr rfl) (gd0 rfl) rfl rfl ?_
    refine K.nil ?_
    refine At.next ?_
    refine G.ret ?_
    refine At.done Y [(.tmp 4, .c _), (.tmp 5, .c _)] rfl ⟨.tmp rfl, .tmp rfl, trivial⟩ (to' := [(0, _)]) ⟨rfl, trivial⟩ ?_ ?_ rfl rfl rfl (.inl rfl)
    · rfl
    · rfl
theorem rdropN {cs : List (Cell Int)} {V free : List Int} {cap vis : Int} (hV : V.length = cs.length) (hlen : cs.length < 4294967296) {i g : Int} (hn : lookC cs i g = none) (k : Nat) : SCon Try.prog 32 [SV.p k 0, SV.agg [.i i, .i g]] [(k, obj k 29 [OC.l 3 intE 1 V, OC.l 3 intE 1 (cs.map (·.gen)), OC.l 4 boolE 1 (cs.map (·.live)), OC.l 3 intE 1 free, .i cap, .i vis])] (.tup [.c (.i 0), .c (.b false)]) [(k, obj k 29 [OC.l 3 intE 1 V, OC.l 3 intE 1 (cs.map (·.gen)), OC.l 4 boolE 1 (cs.map (·.live)), OC.l 3 intE 1 free, .i cap, .i vis])] [] :=
  SCon.ren (rn [(0, k)]) (rdropN_ hV hlen hn) ⟨obj_ren rfl, trivial⟩ ⟨obj_ren rfl, trivial⟩ (by simp) (by simp)
theorem rlen_ {cs : List (Cell Int)} {V free : List Int} {cap vis : Int} (hV : V.length = cs.length) (hlen : cs.length < 4294967296) : SCon Try.prog 34 [SV.p 0 0] [(0, obj 0 29 [OC.l 3 intE 1 V, OC.l 3 intE 1 (cs.map (·.gen)), OC.l 4 boolE 1 (cs.map (·.live)), OC.l 3 intE 1 free, .i cap, .i vis])] (SV.i (liveN cs)) [(0, obj 0 29 [OC.l 3 intE 1 V, OC.l 3 intE 1 (cs.map (·.gen)), OC.l 4 boolE 1 (cs.map (·.live)), OC.l 3 intE 1 free, .i cap, .i vis])] [] := by
  refine spec_of [(0, _)] [(0, _)] 24 Try.func34 rfl Try.ntmps34 rfl rfl rfl rfl (fun β W F => ?_)
  refine G.ent [(0, _)] [(0, _), (21, _), (22, _), (23, _), (24, _)] [21, 22, 23, 24] (obj_open [21, 22, 23, 24] rfl rfl) ⟨rfl, trivial⟩ rfl rfl rfl rfl ?_
  refine G.seq ?_
  refine G.rg ?_
  refine K.move (.inr rfl) (gd0 rfl) rfl rfl ?_
  refine K.nil ?_
  refine At.next ?_
  refine G.seq ?_
  refine G.rg ?_
  refine K.move (.inr rfl) (gd0 rfl) rfl rfl ?_
  refine K.nil ?_
  refine At.next ?_
  refine G.seq ?_
  refine G.seq ?_
  refine G.rg ?_
  refine K.move (.inr rfl) (gd0 rfl) rfl rfl ?_
  refine K.nil ?_
  refine At.next ?_
  refine G.block ?_
  refine G.loop (σ := { i : Nat // i ≤ cs.length }) (fun s => [(0, SV.p 0 0), (3, SV.i (liveN (cs.take s.1))), (4, SV.i s.1)]) (fun s => [(0, blk 0 (objCl (rpoolC cs V free cap vis 3 4) [21, 22, 23, 24]) 29), (21, lrow 21 3 intE 1 V), (22, lrow 22 3 intE 1 (cs.map (·.gen))), (23, lrow 23 4 boolE 1 (cs.map (·.live))), (24, lrow 24 3 intE 1 free)]) (fun s => cs.length - s.1) ⟨0, Nat.zero_le _⟩ ?_ ?_
  · exact At.into [] [_, _, _, _, _] rfl ⟨rfl, rfl, rfl, trivial⟩ ⟨rfl, (blk_ren rfl rfl), rfl, (lrow_ren rfl), rfl, (lrow_ren rfl), rfl, (lrow_ren rfl), rfl, (lrow_ren rfl), trivial⟩ rfl
  · intro s
    obtain ⟨i, hi⟩ := s
    simp only
    refine G.seq ?_
    refine G.seq ?_
    refine G.rg ?_
    refine K.move (.inl rfl) (gd0 rfl) rfl rfl ?_
    refine K.move (.inl rfl) (gd0 rfl) rfl rfl ?_
    refine K.nilCheck (gd0 rfl) rfl rfl ?_
    refine K.fieldAddr Y (gd0 rfl) rfl t29 rfl rfl ?_
    refine K.load1 Y (gd0 rfl) rfl rfl t27 rfl rfl ?_
    refine K.lenL (lrowV 23 4 boolE 1 _) (lrowV_is boolE_len (by decide)) (gd0 rfl) rfl rfl Try.underlying27 rfl ?_
    refine K.bin (gd0 rfl) rfl rfl (fun _ => rfl) rfl ?_
    refine K.nil ?_
    refine At.next ?_
    refine G.cond rfl (fun h1 => ?_) (fun h1 => ?_)
    ·
      refine G.skip ?_
      refine At.next ?_
      refine G.seq ?_
      refine G.block ?_
      refine G.seq ?_
      have hlt : i < cs.length := by simp [IntKind.wrap_i64] at * <;> omega
      obtain ⟨c, hg⟩ : ∃ c, cs[i]? = some c := ⟨_, List.getElem?_eq_getElem hlt⟩
      refine G.rg ?_
      refine K.move (.inl rfl) (gd0 rfl) rfl rfl ?_
      refine K.nilCheck (gd0 rfl) rfl rfl ?_
      refine K.fieldAddr Y (gd0 rfl) rfl t29 rfl rfl ?_
      refine K.load1 Y (gd0 rfl) rfl rfl t27 rfl rfl ?_
      refine K.move (.inl rfl) (gd0 rfl) rfl rfl ?_
      refine K.idxL (lrowV 23 4 boolE 1 _) i (lrowV_is boolE_len (by decide)) (map_at hg _) rfl (gd0 rfl) rfl rfl rfl Try.underlying27 el27.size_run rfl ?_
      refine K.load1L Y (lrowV 23 4 boolE 1 _) i 0 (lrowV_is boolE_len (by decide)) (map_at hg _) (gd0 rfl) rfl rfl t4 rfl rfl ?_
      refine K.nil ?_
      refine At.next ?_
      refine G.cond rfl (fun h2 => ?_) (fun h2 => ?_)
      ·
        refine G.rg ?_
        refine K.move (.inl rfl) (gd0 rfl) rfl rfl ?_
        refine K.bin (gd0 rfl) rfl rfl (fun _ => rfl) rfl ?_
        refine K.move (.inr rfl) (gd0 rfl) rfl rfl ?_
        refine K.nil ?_
        refine At.block_normal ?_
        refine At.next ?_
        refine G.rg ?_
        refine K.move (.inl rfl) (gd0 rfl) rfl rfl ?_
        refine K.bin (gd0 rfl) rfl rfl (fun _ => rfl) rfl ?_
        refine K.move (.inr rfl) (gd0 rfl) rfl rfl ?_
        refine K.nil ?_
        exact At.again (σ := { i : Nat // i ≤ cs.length }) (Fs := fun s => [(0, SV.p 0 0), (3, SV.i (liveN (cs.take s.1))), (4, SV.i s.1)]) (Tl := fun s => [(0, blk 0 (objCl (rpoolC cs V free cap vis 3 4) [21, 22, 23, 24]) 29), (21, lrow 21 3 intE 1 V), (22, lrow 22 3 intE 1 (cs.map (·.gen))), (23, lrow 23 4 boolE 1 (cs.map (·.live))), (24, lrow 24 3 intE 1 free)]) (μ := fun s => cs.length - s.1) (s := ⟨i, hi⟩) ⟨i + 1, hlt⟩ [] [_, _, _, _, _] (by simp only; omega) rfl ⟨rfl, (congrArg (fun x => some (SV.i x)) (by rw [liveN_succ hg, h2]; have := liveN_le cs i; simp [IntKind.wrap_i64] <;> omega)), (congrArg (fun x => some (SV.i x)) (by simp [IntKind.wrap_i64] at * <;> omega)), trivial⟩ ⟨rfl, (blk_ren rfl rfl), rfl, (lrow_ren rfl), rfl, (lrow_ren rfl), rfl, (lrow_ren rfl), rfl, (lrow_ren rfl), trivial⟩ rfl
      ·
        refine G.skip ?_
        refine At.block_normal ?_
        refine At.next ?_
        refine G.rg ?_
        refine K.move (.inl rfl) (gd0 rfl) rfl rfl ?_
        refine K.bin (gd0 rfl) rfl rfl (fun _ => rfl) rfl ?_
        refine K.move (.inr rfl) (gd0 rfl) rfl rfl ?_
        refine K.nil ?_
        exact At.again (σ := { i : Nat // i ≤ cs.length }) (Fs := fun s => [(0, SV.p 0 0), (3, SV.i (liveN (cs.take s.1))), (4, SV.i s.1)]) (Tl := fun s => [(0, blk 0 (objCl (rpoolC cs V free cap vis 3 4) [21, 22, 23, 24]) 29), (21, lrow 21 3 intE 1 V), (22, lrow 22 3 intE 1 (cs.map (·.gen))), (23, lrow 23 4 boolE 1 (cs.map (·.live))), (24, lrow 24 3 intE 1 free)]) (μ := fun s => cs.length - s.1) (s := ⟨i, hi⟩) ⟨i + 1, hlt⟩ [] [_, _, _, _, _] (by simp only; omega) rfl ⟨rfl, (congrArg (fun x => some (SV.i x)) (by rw [liveN_succ hg, h2]; have := liveN_le cs i; simp [IntKind.wrap_i64] <;> omega)), (congrArg (fun x => some (SV.i x)) (by simp [IntKind.wrap_i64] at * <;> omega)), trivial⟩ ⟨rfl, (blk_ren rfl rfl), rfl, (lrow_ren rfl), rfl, (lrow_ren rfl), rfl, (lrow_ren rfl), rfl, (lrow_ren rfl), trivial⟩ rfl
    ·
      refine G.exit ?_
      refine At.over_exit ?_
      refine At.over_exit ?_
      refine At.block_hit ?_
      refine At.next ?_
      refine G.seq ?_
      have hin : i = cs.length := by simp [IntKind.wrap_i64] at * <;> omega
      subst hin
      refine G.rg ?_
      refine K.move (.inl rfl) (gd0 rfl) rfl rfl ?_
      refine K.move (.inr rfl) (gd0 rfl) rfl rfl ?_
      refine K.nil ?_
      refine At.next ?_
      refine G.ret ?_
      refine At.ent [(0, _), (21, _), (22, _), (23, _), (24, _)] [(0, obj 0 29 [OC.l 3 intE 1 _, OC.l 3 intE 1 _, OC.l 4 boolE 1 _, OC.l 3 intE 1 _, .i _, .i _])] [] (obj_close [OC.l 3 intE 1 _, OC.l 3 intE 1 _, OC.l 4 boolE 1 _, OC.l 3 intE 1 _, .i _, .i _] [21, 22, 23, 24] rfl) ⟨rfl, rfl, rfl, rfl, rfl, trivial⟩ rfl rfl rfl rfl ?_
      refine At.done Y [(.tmp 2, .c _)] rfl ⟨.tmp rfl, trivial⟩ (to' := [(0, _)]) ⟨rfl, trivial⟩ ?_ ?_ rfl rfl rfl (.inl rfl)
      · rfl
      · exact ret_i (by rw [List.take_length])
theorem rlen {cs : List (Cell Int)} {V free : List Int} {cap vis : Int} (hV : V.length = cs.length) (hlen : cs.length < 4294967296) (k : Nat) : SCon Try.prog 34 [SV.p k 0] [(k, obj k 29 [OC.l 3 intE 1 V, OC.l 3 intE 1 (cs.map (·.gen)), OC.l 4 boolE 1 (cs.map (·.live)), OC.l 3 intE 1 free, .i cap, .i vis])] (SV.i (liveN cs)) [(k, obj k 29 [OC.l 3 intE 1 V, OC.l 3 intE 1 (cs.map (·.gen)), OC.l 4 boolE 1 (cs.map (·.live)), OC.l 3 intE 1 free, .i cap, .i vis])] [] :=
  SCon.ren (rn [(0, k)]) (rlen_ hV hlen) ⟨obj_ren rfl, trivial⟩ ⟨obj_ren rfl, trivial⟩ (by simp) (by simp)
theorem rputF_ {cs : List (Cell Int)} {V free : List Int} {cap vis : Int} (hV : V.length = cs.length) (hlen : cs.length < 4294967296) (v' : Int) (hf : (liveN cs : Int) = cap) : SCon Try.prog 29 [SV.p 0 0, SV.i v'] [(0, obj 0 29 [OC.l 3 intE 1 V, OC.l 3 intE 1 (cs.map (·.gen)), OC.l 4 boolE 1 (cs.map (·.live)), OC.l 3 intE 1 free, .i cap, .i vis])] (.tup [.agg [.i 0, .i 0], .c (.b false)]) [(0, obj 0 29 [OC.l 3 intE 1 V, OC.l 3 intE 1 (cs.map (·.gen)), OC.l 4 boolE 1 (cs.map (·.live)), OC.l 3 intE 1 free, .i cap, .i vis])] [] := by
  refine spec_of [(0, _), (1, _)] [(0, _)] 100 Try.func29 rfl Try.ntmps29 rfl rfl rfl rfl (fun β W F => ?_)
  refine G.seq ?_
  refine G.rg ?_
  refine K.alloc Y 104 [_, _] (gd0 rfl) t40 rfl rfl rfl rfl rfl ?_
  refine K.move (.inr rfl) (gd0 rfl) rfl rfl ?_
  refine K.nil ?_
  refine At.next ?_
  refine G.seq ?_
  refine G.seq ?_
  refine G.rd mixed ?_
  refine K.move (.inl rfl) (gd0 rfl) rfl rfl ?_
  refine K.callR [(.func 34, _), ((.tmp 7), _)] (rlen hV hlen 0) (toFn_func (cf 34 rfl) rfl) (gd0 rfl) ⟨rfl, rfl, trivial⟩ ⟨rfl, trivial⟩ rfl rfl rfl ?_
  refine K.move (.inl rfl) (gd0 rfl) rfl rfl ?_
  refine K.nilCheck (gd0 rfl) rfl rfl ?_
  refine K.fieldAddr Y (gd0 rfl) rfl t29 rfl rfl ?_
  refine K.loadO Y (gd0 rfl) rfl rfl t3 rfl rfl ?_
  refine K.bin (gd0 rfl) rfl rfl (fun _ => rfl) rfl ?_
  refine K.nil ?_
  refine ⟨by kernel_rfl, ?_⟩
  refine At.next ?_
  refine G.cond rfl (fun h1 => ?_) (fun h1 => ?_)
  ·
    refine G.seq ?_
    refine G.rg ?_
    refine K.build Y [] [_, _] [] (gd0 rfl) (AllE.spec trivial) rfl rfl t40 rfl rfl ?_
    refine K.store Y [_, _] (gd0 rfl) rfl rfl rfl t40 rfl rfl rfl rfl rfl ?_
    refine K.move (.inr rfl) (gd0 rfl) rfl rfl ?_
    refine K.nil ?_
    refine At.next ?_
    refine G.ret ?_
    refine At.over_ret ?_
    refine At.done Y [(.cell 4 40, .agg [_, _]), (.tmp 5, .c _)] rfl ⟨.st rfl rfl t40 rfl rfl, .tmp rfl, trivial⟩ (to' := [(0, _)]) ⟨rfl, trivial⟩ ?_ ?_ rfl rfl rfl (.inl rfl)
    · rfl
    · rfl
  · exact absurd h1 (by simp [hf])
theorem rputE_ {cs : List (Cell Int)} {V free : List Int} {cap vis : Int} (hV : V.length = cs.length) (hlen : cs.length < 4294967296) (v' : Int) (hf : (liveN cs : Int) ≠ cap) (h0 : free = []) : SCon Try.prog 29 [SV.p 0 0, SV.i v'] [(0, obj 0 29 [OC.l 3 intE 1 V, OC.l 3 intE 1 (cs.map (·.gen)), OC.l 4 boolE 1 (cs.map (·.live)), OC.l 3 intE 1 free, .i cap, .i vis])] (.tup [.agg [.i (cs.length : Int), .i (IntKind.i64.wrap (0 + 1))], .c (.b true)]) [(0, obj 0 29 [OC.l 3 intE 1 ((V ++ [0]).set cs.length v'), OC.l 3 intE 1 ((cs.map (fun (c : Cell Int) => c.gen) ++ [0]).set cs.length (IntKind.i64.wrap (0 + 1))), OC.l 4 boolE 1 ((cs.map (·.live) ++ [false]).set cs.length true), OC.l 3 intE 1 free, .i cap, .i vis])] [] := by
  subst h0
  refine spec_of [(0, _), (1, _)] [(0, _)] 100 Try.func29 rfl Try.ntmps29 rfl rfl rfl rfl (fun β W F => ?_)
  refine G.seq ?_
  refine G.rg ?_
  refine K.alloc Y 104 [_, _] (gd0 rfl) t40 rfl rfl rfl rfl rfl ?_
  refine K.move (.inr rfl) (gd0 rfl) rfl rfl ?_
  refine K.nil ?_
  refine At.next ?_
  refine G.seq ?_
  refine G.seq ?_
  refine G.rd mixed ?_
  refine K.move (.inl rfl) (gd0 rfl) rfl rfl ?_
  refine K.callR [(.func 34, _), ((.tmp 7), _)] (rlen hV hlen 0) (toFn_func (cf 34 rfl) rfl) (gd0 rfl) ⟨rfl, rfl, trivial⟩ ⟨rfl, trivial⟩ rfl rfl rfl ?_
  refine K.move (.inl rfl) (gd0 rfl) rfl rfl ?_
  refine K.nilCheck (gd0 rfl) rfl rfl ?_
  refine K.fieldAddr Y (gd0 rfl) rfl t29 rfl rfl ?_
  refine K.loadO Y (gd0 rfl) rfl rfl t3 rfl rfl ?_
  refine K.bin (gd0 rfl) rfl rfl (fun _ => rfl) rfl ?_
  refine K.nil ?_
  refine ⟨by kernel_rfl, ?_⟩
  refine At.next ?_
  refine G.cond rfl (fun h1 => ?_) (fun h1 => ?_)
  · exact absurd h1 (by simp [hf])
  ·
    refine G.skip ?_
    refine At.next ?_
    refine G.seq ?_
    refine G.ent [(0, _)] [(0, _), (21, _), (22, _), (23, _), (24, _)] [21, 22, 23, 24] (obj_open [21, 22, 23, 24] rfl rfl) ⟨rfl, trivial⟩ rfl rfl rfl rfl ?_
    refine G.rg ?_
    refine K.move (.inl rfl) (gd0 rfl) rfl rfl ?_
    refine K.nilCheck (gd0 rfl) rfl rfl ?_
    refine K.fieldAddr Y (gd0 rfl) rfl t29 rfl rfl ?_
    refine K.load1 Y (gd0 rfl) rfl rfl t26 rfl rfl ?_
    refine K.lenL (lrowV 21 3 intE 1 _) (lrowV_is intE_len (by decide)) (gd0 rfl) rfl rfl Try.underlying26 rfl ?_
    refine K.move (.inr rfl) (gd0 rfl) rfl rfl ?_
    refine K.nil ?_
    refine At.next ?_
    refine G.seq ?_
    refine G.seq ?_
    refine G.rg ?_
    refine K.move (.inl rfl) (gd0 rfl) rfl rfl ?_
    refine K.nilCheck (gd0 rfl) rfl rfl ?_
    refine K.fieldAddr Y (gd0 rfl) rfl t29 rfl rfl ?_
    refine K.load1 Y (gd0 rfl) rfl rfl t26 rfl rfl ?_
    refine K.lenL (lrowV 24 3 intE 1 _) (lrowV_is intE_len (by decide)) (gd0 rfl) rfl rfl Try.underlying26 rfl ?_
    refine K.bin (gd0 rfl) rfl rfl (fun _ => rfl) rfl ?_
    refine K.nil ?_
    refine At.next ?_
    refine G.cond rfl (fun h2 => ?_) (fun h2 => ?_)
    · exact absurd h2 (by simp)
    ·
      refine G.seq ?_
      refine G.rg ?_
      refine K.move (.inl rfl) (gd0 rfl) rfl rfl ?_
      refine K.move (.inl rfl) (gd0 rfl) rfl rfl ?_
      refine K.nilCheck (gd0 rfl) rfl rfl ?_
      refine K.fieldAddr Y (gd0 rfl) rfl t29 rfl rfl ?_
      refine K.load1 Y (gd0 rfl) rfl rfl t26 rfl rfl ?_
      refine K.buildL Y 147 [0] [(0, _)] [(_, _)] intE_len (gd0 rfl) (AllE.spec ⟨rfl, trivial⟩) rfl rfl Try.underlying26 t3 rfl rfl rfl rfl rfl rfl rfl rfl ?_
      refine K.appendL 148 (lrowV 147 3 intE 1 _) _ el26 (lrowV_is intE_len (by decide)) intE_one (gd0 rfl) rfl rfl rfl rfl rfl (by simp [maxLen]; omega) (by simp; omega) rfl rfl rfl rfl rfl rfl ?_
      refine K.nilCheck (gd0 rfl) rfl rfl ?_
      refine K.fieldAddr Y (gd0 rfl) rfl t29 rfl rfl ?_
      refine K.store Y [_, _, _, _, _, _] (gd0 rfl) rfl rfl rfl t26 rfl rfl rfl rfl rfl ?_
      refine K.nil ?_
      refine At.next ?_
      refine G.seq ?_
      refine G.rg ?_
      refine K.move (.inl rfl) (gd0 rfl) rfl rfl ?_
      refine K.move (.inl rfl) (gd0 rfl) rfl rfl ?_
      refine K.nilCheck (gd0 rfl) rfl rfl ?_
      refine K.fieldAddr Y (gd0 rfl) rfl t29 rfl rfl ?_
      refine K.load1 Y (gd0 rfl) rfl rfl t26 rfl rfl ?_
      refine K.buildL Y 156 [0] [(0, _)] [(_, _)] intE_len (gd0 rfl) (AllE.spec ⟨rfl, trivial⟩) rfl rfl Try.underlying26 t3 rfl rfl rfl rfl rfl rfl rfl rfl ?_
      refine K.appendL 157 (lrowV 156 3 intE 1 _) _ el26 (lrowV_is intE_len (by decide)) intE_one (gd0 rfl) rfl rfl rfl rfl rfl (by simp [maxLen]; omega) (by simp; omega) rfl rfl rfl rfl rfl rfl ?_
      refine K.nilCheck (gd0 rfl) rfl rfl ?_
      refine K.fieldAddr Y (gd0 rfl) rfl t29 rfl rfl ?_
      refine K.store Y [_, _, _, _, _, _] (gd0 rfl) rfl rfl rfl t26 rfl rfl rfl rfl rfl ?_
      refine K.nil ?_
      refine At.next ?_
      refine G.rg ?_
      refine K.move (.inl rfl) (gd0 rfl) rfl rfl ?_
      refine K.move (.inl rfl) (gd0 rfl) rfl rfl ?_
      refine K.nilCheck (gd0 rfl) rfl rfl ?_
      refine K.fieldAddr Y (gd0 rfl) rfl t29 rfl rfl ?_
      refine K.load1 Y (gd0 rfl) rfl rfl t27 rfl rfl ?_
      refine K.buildL Y 165 [false] [(0, _)] [(_, _)] boolE_len (gd0 rfl) (AllE.spec ⟨rfl, trivial⟩) rfl rfl Try.underlying27 t4 rfl rfl rfl rfl rfl rfl rfl rfl ?_
      refine K.appendL 166 (lrowV 165 4 boolE 1 _) _ el27 (lrowV_is boolE_len (by decide)) boolE_one (gd0 rfl) rfl rfl rfl rfl rfl (by simp [maxLen]; omega) (by simp; omega) rfl rfl rfl rfl rfl rfl ?_
      refine K.nilCheck (gd0 rfl) rfl rfl ?_
      refine K.fieldAddr Y (gd0 rfl) rfl t29 rfl rfl ?_
      refine K.store Y [_, _, _, _, _, _] (gd0 rfl) rfl rfl rfl t27 rfl rfl rfl rfl rfl ?_
      refine K.nil ?_
      refine At.next ?_
      refine G.seq ?_
      refine G.rg ?_
      refine K.move (.inl rfl) (gd0 rfl) rfl rfl ?_
      refine K.nilCheck (gd0 rfl) rfl rfl ?_
      refine K.fieldAddr Y (gd0 rfl) rfl t29 rfl rfl ?_
      refine K.load1 Y (gd0 rfl) rfl rfl t26 rfl rfl ?_
      refine K.move (.inl rfl) (gd0 rfl) rfl rfl ?_
      refine K.move (.inl rfl) (gd0 rfl) rfl rfl ?_
      refine K.idxL (lrowV 148 3 intE 1 _) cs.length (lrowV_is intE_len (by decide)) (last_get hV _) (by rw [hV]) (gd0 rfl) rfl rfl rfl Try.underlying26 el26.size_run rfl ?_
      refine K.storeL Y cs.length 0 [_] v' intE_len (by decide) (last_get hV _) (gd0 rfl) rfl rfl rfl t3 rfl rfl rfl rfl rfl rfl ?_
      refine K.nil ?_
      refine At.next ?_
      refine G.seq ?_
      refine G.rg ?_
      refine K.move (.inl rfl) (gd0 rfl) rfl rfl ?_
      refine K.nilCheck (gd0 rfl) rfl rfl ?_
      refine K.fieldAddr Y (gd0 rfl) rfl t29 rfl rfl ?_
      refine K.load1 Y (gd0 rfl) rfl rfl t26 rfl rfl ?_
      refine K.move (.inl rfl) (gd0 rfl) rfl rfl ?_
      refine K.idxL (lrowV 157 3 intE 1 _) cs.length (lrowV_is intE_len (by decide)) (last_get (by simp) _) (by rw [hV]) (gd0 rfl) rfl rfl rfl Try.underlying26 el26.size_run rfl ?_
      refine K.load1L Y (lrowV 157 3 intE 1 _) cs.length 0 (lrowV_is intE_len (by decide)) (last_get (by simp) _) (gd0 rfl) rfl rfl t3 rfl rfl ?_
      refine K.bin (gd0 rfl) rfl rfl (fun _ => rfl) rfl ?_
      refine K.idxL (lrowV 157 3 intE 1 _) cs.length (lrowV_is intE_len (by decide)) (last_get (by simp) _) (by rw [hV]) (gd0 rfl) rfl rfl rfl Try.underlying26 el26.size_run rfl ?_
      refine K.storeL Y cs.length 0 [_] (IntKind.i64.wrap (0 + 1)) intE_len (by decide) (last_get (by simp) _) (gd0 rfl) rfl rfl rfl t3 rfl rfl rfl rfl rfl rfl ?_
      refine K.nil ?_
      refine At.next ?_
      refine G.seq ?_
      refine G.rg ?_
      refine K.move (.inl rfl) (gd0 rfl) rfl rfl ?_
      refine K.nilCheck (gd0 rfl) rfl rfl ?_
      refine K.fieldAddr Y (gd0 rfl) rfl t29 rfl rfl ?_
      refine K.load1 Y (gd0 rfl) rfl rfl t27 rfl rfl ?_
      refine K.move (.inl rfl) (gd0 rfl) rfl rfl ?_
      refine K.idxL (lrowV 166 4 boolE 1 _) cs.length (lrowV_is boolE_len (by decide)) (last_get (by simp) _) (by rw [hV]) (gd0 rfl) rfl rfl rfl Try.underlying27 el27.size_run rfl ?_
      refine K.storeL Y cs.length 0 [_] true boolE_len (by decide) (last_get (by simp) _) (gd0 rfl) rfl rfl rfl t4 rfl rfl rfl rfl rfl rfl ?_
      refine K.nil ?_
      refine At.next ?_
      refine G.seq ?_
      refine G.rg ?_
      refine K.move (.inl rfl) (gd0 rfl) rfl rfl ?_
      refine K.move (.inl rfl) (gd0 rfl) rfl rfl ?_
      refine K.nilCheck (gd0 rfl) rfl rfl ?_
      refine K.fieldAddr Y (gd0 rfl) rfl t29 rfl rfl ?_
      refine K.load1 Y (gd0 rfl) rfl rfl t26 rfl rfl ?_
      refine K.move (.inl rfl) (gd0 rfl) rfl rfl ?_
      refine K.idxL (lrowV 157 3 intE 1 _) cs.length (lrowV_is intE_len (by decide)) (set_get (last_get (by simp) _)) (by rw [hV]) (gd0 rfl) rfl rfl rfl Try.underlying26 el26.size_run rfl ?_
      refine K.load1L Y (lrowV 157 3 intE 1 _) cs.length 0 (lrowV_is intE_len (by decide)) (set_get (last_get (by simp) _)) (gd0 rfl) rfl rfl t3 rfl rfl ?_
      refine K.build Y [(0, _), (1, _)] [_, _] [((.tmp 91), _), ((.tmp 98), _)] (gd0 rfl) (AllE.spec ⟨rfl, rfl, trivial⟩) rfl rfl t40 rfl rfl ?_
      refine K.store Y [_, _] (gd0 rfl) rfl rfl rfl t40 rfl rfl rfl rfl rfl ?_
      refine K.move (.inr rfl) (gd0 rfl) rfl rfl ?_
      refine K.nil ?_
      refine At.next ?_
      refine G.ret ?_
      refine At.ent [(0, _), (148, _), (157, _), (166, _), (24, _)] [(0, obj 0 29 [OC.l 3 intE 1 _, OC.l 3 intE 1 _, OC.l 4 boolE 1 _, OC.l 3 intE 1 _, .i _, .i _])] [] (obj_close [OC.l 3 intE 1 _, OC.l 3 intE 1 _, OC.l 4 boolE 1 _, OC.l 3 intE 1 _, .i _, .i _] [148, 157, 166, 24] rfl) ⟨rfl, rfl, rfl, rfl, rfl, trivial⟩ rfl rfl rfl rfl ?_
      refine At.done Y [(.cell 4 40, .agg [_, _]), (.tmp 5, .c _)] rfl ⟨.st rfl rfl t40 rfl rfl, .tmp rfl, trivial⟩ (to' := [(0, _)]) ⟨rfl, trivial⟩ ?_ ?_ rfl rfl rfl (.inl rfl)
      · rfl
      · rw [hV]; rfl
theorem rputC_ {cs : List (Cell Int)} {V free : List Int} {cap vis : Int} (hV : V.length = cs.length) (hlen : cs.length < 4294967296) {n : Nat} {c : Cell Int} {v : Int} {rest : List Int} (hg : cs[n]? = some c) (hv : V[n]? = some v) (hfl : free.length < 4294967296) (v' : Int) (hf : (liveN cs : Int) ≠ cap) (h0 : free = (n : Int) :: rest) : SCon Try.prog 29 [SV.p 0 0, SV.i v'] [(0, obj 0 29 [OC.l 3 intE 1 V, OC.l 3 intE 1 (cs.map (·.gen)), OC.l 4 boolE 1 (cs.map (·.live)), OC.l 3 intE 1 free, .i cap, .i vis])] (.tup [.agg [.i (n : Int), .i (IntKind.i64.wrap (c.gen + 1))], .c (.b true)]) [(0, obj 0 29 [OC.l 3 intE 1 (V.set n v'), OC.l 3 intE 1 ((cs.map (fun (c : Cell Int) => c.gen)).set n (IntKind.i64.wrap (c.gen + 1))), OC.l 4 boolE 1 ((cs.map (·.live)).set n true), OC.l 3 intE 1 rest, .i cap, .i vis])] [] := by
  subst h0
  simp only [List.length_cons] at hfl
  refine spec_of [(0, _), (1, _)] [(0, _)] 100 Try.func29 rfl Try.ntmps29 rfl rfl rfl rfl (fun β W F => ?_)
  refine G.seq ?_
  refine G.rg ?_
  refine K.alloc Y 104 [_, _] (gd0 rfl) t40 rfl rfl rfl rfl rfl ?_
  refine K.move (.inr rfl) (gd0 rfl) rfl rfl ?_
  refine K.nil ?_
  refine At.next ?_
  refine G.seq ?_
  refine G.seq ?_
  refine G.rd mixed ?_
  refine K.move (.inl rfl) (gd0 rfl) rfl rfl ?_
  refine K.callR [(.func 34, _), ((.tmp 7), _)] (rlen hV hlen 0) (toFn_func (cf 34 rfl) rfl) (gd0 rfl) ⟨rfl, rfl, trivial⟩ ⟨rfl, trivial⟩ rfl rfl rfl ?_
  refine K.move (.inl rfl) (gd0 rfl) rfl rfl ?_
  refine K.nilCheck (gd0 rfl) rfl rfl ?_
  refine K.fieldAddr Y (gd0 rfl) rfl t29 rfl rfl ?_
  refine K.loadO Y (gd0 rfl) rfl rfl t3 rfl rfl ?_
  refine K.bin (gd0 rfl) rfl rfl (fun _ => rfl) rfl ?_
  refine K.nil ?_
  refine ⟨by kernel_rfl, ?_⟩
  refine At.next ?_
  refine G.cond rfl (fun h1 => ?_) (fun h1 => ?_)
  · exact absurd h1 (by simp [hf])
  ·
    refine G.skip ?_
    refine At.next ?_
    refine G.seq ?_
    refine G.ent [(0, _)] [(0, _), (21, _), (22, _), (23, _), (24, _)] [21, 22, 23, 24] (obj_open [21, 22, 23, 24] rfl rfl) ⟨rfl, trivial⟩ rfl rfl rfl rfl ?_
    refine G.rg ?_
    refine K.move (.inl rfl) (gd0 rfl) rfl rfl ?_
    refine K.nilCheck (gd0 rfl) rfl rfl ?_
    refine K.fieldAddr Y (gd0 rfl) rfl t29 rfl rfl ?_
    refine K.load1 Y (gd0 rfl) rfl rfl t26 rfl rfl ?_
    refine K.lenL (lrowV 21 3 intE 1 _) (lrowV_is intE_len (by decide)) (gd0 rfl) rfl rfl Try.underlying26 rfl ?_
    refine K.move (.inr rfl) (gd0 rfl) rfl rfl ?_
    refine K.nil ?_
    refine At.next ?_
    refine G.seq ?_
    refine G.seq ?_
    refine G.rg ?_
    refine K.move (.inl rfl) (gd0 rfl) rfl rfl ?_
    refine K.nilCheck (gd0 rfl) rfl rfl ?_
    refine K.fieldAddr Y (gd0 rfl) rfl t29 rfl rfl ?_
    refine K.load1 Y (gd0 rfl) rfl rfl t26 rfl rfl ?_
    refine K.lenL (lrowV 24 3 intE 1 _) (lrowV_is intE_len (by decide)) (gd0 rfl) rfl rfl Try.underlying26 rfl ?_
    refine K.bin (gd0 rfl) rfl rfl (fun _ => rfl) rfl ?_
    refine K.nil ?_
    refine At.next ?_
    refine G.cond rfl (fun h2 => ?_) (fun h2 => ?_)
    ·
      refine G.seq ?_
      refine G.rg ?_
      refine K.move (.inl rfl) (gd0 rfl) rfl rfl ?_
      refine K.nilCheck (gd0 rfl) rfl rfl ?_
      refine K.fieldAddr Y (gd0 rfl) rfl t29 rfl rfl ?_
      refine K.load1 Y (gd0 rfl) rfl rfl t26 rfl rfl ?_
      refine K.idxL (lrowV 24 3 intE 1 _) 0 (lrowV_is intE_len (by decide)) (rfl : ((n : Int) :: rest)[0]? = some (n : Int)) rfl (gd0 rfl) rfl rfl rfl Try.underlying26 el26.size_run rfl ?_
      refine K.load1L Y (lrowV 24 3 intE 1 _) 0 0 (lrowV_is intE_len (by decide)) (rfl : ((n : Int) :: rest)[0]? = some (n : Int)) (gd0 rfl) rfl rfl t3 rfl rfl ?_
      refine K.move (.inr rfl) (gd0 rfl) rfl rfl ?_
      refine K.nil ?_
      refine At.next ?_
      refine G.rg ?_
      refine K.move (.inl rfl) (gd0 rfl) rfl rfl ?_
      refine K.buildL Y 133 ([] : List Int) [] [] intE_len (gd0 rfl) (AllE.spec trivial) rfl rfl Try.underlying26 t3 rfl rfl rfl rfl rfl rfl rfl rfl ?_
      refine K.move (.inl rfl) (gd0 rfl) rfl rfl ?_
      refine K.nilCheck (gd0 rfl) rfl rfl ?_
      refine K.fieldAddr Y (gd0 rfl) rfl t29 rfl rfl ?_
      refine K.load1 Y (gd0 rfl) rfl rfl t26 rfl rfl ?_
      refine K.partL 1 (rest.length + 1) (gd0 rfl) rfl (.at_ rfl (by omega) rfl) .no rfl Try.underlying26 el26.size_run (by omega) (Nat.le_refl _) rfl ?_
      refine K.appendL 139 (lsubV 24 3 intE 1 _ 1 (rest.length + 1)) _ el26 (lsubV_is intE_len (by decide) (by omega) (Nat.le_refl _)) intE_one (gd0 rfl) rfl rfl rfl rfl rfl (by simp [maxLen]; omega) (by simp; omega) rfl rfl rfl rfl rfl rfl ?_
      refine K.nilCheck (gd0 rfl) rfl rfl ?_
      refine K.fieldAddr Y (gd0 rfl) rfl t29 rfl rfl ?_
      refine K.store Y [_, _, _, _, _, _] (gd0 rfl) rfl rfl rfl t26 rfl rfl rfl rfl rfl ?_
      refine K.nil ?_
      refine At.next ?_
      refine G.seq ?_
      refine G.rg ?_
      refine K.move (.inl rfl) (gd0 rfl) rfl rfl ?_
      refine K.nilCheck (gd0 rfl) rfl rfl ?_
      refine K.fieldAddr Y (gd0 rfl) rfl t29 rfl rfl ?_
      refine K.load1 Y (gd0 rfl) rfl rfl t26 rfl rfl ?_
      refine K.move (.inl rfl) (gd0 rfl) rfl rfl ?_
      refine K.move (.inl rfl) (gd0 rfl) rfl rfl ?_
      refine K.idxL (lrowV 21 3 intE 1 _) n (lrowV_is intE_len (by decide)) hv rfl (gd0 rfl) rfl rfl rfl Try.underlying26 el26.size_run rfl ?_
      refine K.storeL Y n 0 [_] v' intE_len (by decide) hv (gd0 rfl) rfl rfl rfl t3 rfl rfl rfl rfl rfl rfl ?_
      refine K.nil ?_
      refine At.next ?_
      refine G.seq ?_
      refine G.rg ?_
      refine K.move (.inl rfl) (gd0 rfl) rfl rfl ?_
      refine K.nilCheck (gd0 rfl) rfl rfl ?_
      refine K.fieldAddr Y (gd0 rfl) rfl t29 rfl rfl ?_
      refine K.load1 Y (gd0 rfl) rfl rfl t26 rfl rfl ?_
      refine K.move (.inl rfl) (gd0 rfl) rfl rfl ?_
      refine K.idxL (lrowV 22 3 intE 1 _) n (lrowV_is intE_len (by decide)) (map_at hg _) rfl (gd0 rfl) rfl rfl rfl Try.underlying26 el26.size_run rfl ?_
      refine K.load1L Y (lrowV 22 3 intE 1 _) n 0 (lrowV_is intE_len (by decide)) (map_at hg _) (gd0 rfl) rfl rfl t3 rfl rfl ?_
      refine K.bin (gd0 rfl) rfl rfl (fun _ => rfl) rfl ?_
      refine K.idxL (lrowV 22 3 intE 1 _) n (lrowV_is intE_len (by decide)) (map_at hg _) rfl (gd0 rfl) rfl rfl rfl Try.underlying26 el26.size_run rfl ?_
      refine K.storeL Y n 0 [_] (IntKind.i64.wrap (c.gen + 1)) intE_len (by decide) (map_at hg _) (gd0 rfl) rfl rfl rfl t3 rfl rfl rfl rfl rfl rfl ?_
      refine K.nil ?_
      refine At.next ?_
      refine G.seq ?_
      refine G.rg ?_
      refine K.move (.inl rfl) (gd0 rfl) rfl rfl ?_
      refine K.nilCheck (gd0 rfl) rfl rfl ?_
      refine K.fieldAddr Y (gd0 rfl) rfl t29 rfl rfl ?_
      refine K.load1 Y (gd0 rfl) rfl rfl t27 rfl rfl ?_
      refine K.move (.inl rfl) (gd0 rfl) rfl rfl ?_
      refine K.idxL (lrowV 23 4 boolE 1 _) n (lrowV_is boolE_len (by decide)) (map_at hg _) rfl (gd0 rfl) rfl rfl rfl Try.underlying27 el27.size_run rfl ?_
      refine K.storeL Y n 0 [_] true boolE_len (by decide) (map_at hg _) (gd0 rfl) rfl rfl rfl t4 rfl rfl rfl rfl rfl rfl ?_
      refine K.nil ?_
      refine At.next ?_
      refine G.seq ?_
      refine G.rg ?_
      refine K.move (.inl rfl) (gd0 rfl) rfl rfl ?_
      refine K.move (.inl rfl) (gd0 rfl) rfl rfl ?_
      refine K.nilCheck (gd0 rfl) rfl rfl ?_
      refine K.fieldAddr Y (gd0 rfl) rfl t29 rfl rfl ?_
      refine K.load1 Y (gd0 rfl) rfl rfl t26 rfl rfl ?_
      refine K.move (.inl rfl) (gd0 rfl) rfl rfl ?_
      refine K.idxL (lrowV 22 3 intE 1 _) n (lrowV_is intE_len (by decide)) (set_get (map_at hg _)) rfl (gd0 rfl) rfl rfl rfl Try.underlying26 el26.size_run rfl ?_
      refine K.load1L Y (lrowV 22 3 intE 1 _) n 0 (lrowV_is intE_len (by decide)) (set_get (map_at hg _)) (gd0 rfl) rfl rfl t3 rfl rfl ?_
      refine K.build Y [(0, _), (1, _)] [_, _] [((.tmp 91), _), ((.tmp 98), _)] (gd0 rfl) (AllE.spec ⟨rfl, rfl, trivial⟩) rfl rfl t40 rfl rfl ?_
      refine K.store Y [_, _] (gd0 rfl) rfl rfl rfl t40 rfl rfl rfl rfl rfl ?_
      refine K.move (.inr rfl) (gd0 rfl) rfl rfl ?_
      refine K.nil ?_
      refine At.next ?_
      refine G.ret ?_
      refine At.ent [(0, _), (21, _), (22, _), (23, _), (139, _)] [(0, obj 0 29 [OC.l 3 intE 1 _, OC.l 3 intE 1 _, OC.l 4 boolE 1 _, OC.l 3 intE 1 _, .i _, .i _])] [] (obj_close [OC.l 3 intE 1 _, OC.l 3 intE 1 _, OC.l 4 boolE 1 _, OC.l 3 intE 1 _, .i _, .i _] [21, 22, 23, 139] rfl) ⟨rfl, rfl, rfl, rfl, rfl, trivial⟩ rfl rfl rfl rfl ?_
      refine At.done Y [(.cell 4 40, .agg [_, _]), (.tmp 5, .c _)] rfl ⟨.st rfl rfl t40 rfl rfl, .tmp rfl, trivial⟩ (to' := [(0, _)]) ⟨rfl, trivial⟩ ?_ ?_ rfl rfl rfl (.inl rfl)
      · simp
      · rfl
    · exact absurd h2 (by simp <;> omega)
theorem rputF {cs : List (Cell Int)} {V free : List Int} {cap vis : Int} (hV : V.length = cs.length) (hlen : cs.length < 4294967296) (v' : Int) (hf : (liveN cs : Int) = cap) (k : Nat) : SCon Try.prog 29 [SV.p k 0, SV.i v'] [(k, obj k 29 [OC.l 3 intE 1 V, OC.l 3 intE 1 (cs.map (·.gen)), OC.l 4 boolE 1 (cs.map (·.live)), OC.l 3 intE 1 free, .i cap, .i vis])] (.tup [.agg [.i 0, .i 0], .c (.b false)]) [(k, obj k 29 [OC.l 3 intE 1 V, OC.l 3 intE 1 (cs.map (·.gen)), OC.l 4 boolE 1 (cs.map (·.live)), OC.l 3 intE 1 free, .i cap, .i vis])] [] :=
  SCon.ren (rn [(0, k)]) (rputF_ hV hlen v' hf) ⟨obj_ren rfl, trivial⟩ ⟨obj_ren rfl, trivial⟩ (by simp) (by simp)
theorem rputE {cs : List (Cell Int)} {V free : List Int} {cap vis : Int} (hV : V.length = cs.length) (hlen : cs.length < 4294967296) (v' : Int) (hf : (liveN cs : Int) ≠ cap) (h0 : free = []) (k : Nat) : SCon Try.prog 29 [SV.p k 0, SV.i v'] [(k, obj k 29 [OC.l 3 intE 1 V, OC.l 3 intE 1 (cs.map (·.gen)), OC.l 4 boolE 1 (cs.map (·.live)), OC.l 3 intE 1 free, .i cap, .i vis])] (.tup [.agg [.i (cs.length : Int), .i (IntKind.i64.wrap (0 + 1))], .c (.b true)]) [(k, obj k 29 [OC.l 3 intE 1 ((V ++ [0]).set cs.length v'), OC.l 3 intE 1 ((cs.map (fun (c : Cell Int) => c.gen) ++ [0]).set cs.length (IntKind.i64.wrap (0 + 1))), OC.l 4 boolE 1 ((cs.map (·.live) ++ [false]).set cs.length true), OC.l 3 intE 1 free, .i cap, .i vis])] [] :=
  SCon.ren (rn [(0, k)]) (rputE_ hV hlen v' hf h0) ⟨obj_ren rfl, trivial⟩ ⟨obj_ren rfl, trivial⟩ (by simp) (by simp)
theorem rputC {cs : List (Cell Int)} {V free : List Int} {cap vis : Int} (hV : V.length = cs.length) (hlen : cs.length < 4294967296) {n : Nat} {c : Cell Int} {v : Int} {rest : List Int} (hg : cs[n]? = some c) (hv : V[n]? = some v) (hfl : free.length < 4294967296) (v' : Int) (hf : (liveN cs : Int) ≠ cap) (h0 : free = (n : Int) :: rest) (k : Nat) : SCon Try.prog 29 [SV.p k 0, SV.i v'] [(k, obj k 29 [OC.l 3 intE 1 V, OC.l 3 intE 1 (cs.map (·.gen)), OC.l 4 boolE 1 (cs.map (·.live)), OC.l 3 intE 1 free, .i cap, .i vis])] (.tup [.agg [.i (n : Int), .i (IntKind.i64.wrap (c.gen + 1))], .c (.b true)]) [(k, obj k 29 [OC.l 3 intE 1 (V.set n v'), OC.l 3 intE 1 ((cs.map (fun (c : Cell Int) => c.gen)).set n (IntKind.i64.wrap (c.gen + 1))), OC.l 4 boolE 1 ((cs.map (·.live)).set n true), OC.l 3 intE 1 rest, .i cap, .i vis])] [] :=
  SCon.ren (rn [(0, k)]) (rputC_ hV hlen hg hv hfl v' hf h0) ⟨obj_ren rfl, trivial⟩ ⟨obj_ren rfl, trivial⟩ (by simp) (by simp)
end Go.Proofs.Ytgogiehpenfdpaa

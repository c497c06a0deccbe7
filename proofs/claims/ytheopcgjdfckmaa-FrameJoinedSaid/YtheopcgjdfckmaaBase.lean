/- The seat's tables: what its types are, which functions have bodies; checked against the program by the kernel. -/
import Derived.Test.YtheopcgjdfckmaaSxaa
import Derived.Test.YtheopcgjdfckmaaProg
import Derived.KernelRfl
namespace Go.Proofs.Ytheopcgjdfckmaa
open Go Go.Proofs.Ytheopcgjdfckmaa.Sx
set_option linter.unusedVariables false
def tysF : TypeId → TyI
  | 1 => .one (.nilFunc)
  | 2 => .one (.int .i64 0)
  | 3 => .one (.int .i64 0)
  | 4 => .one (.bool false)
  | 5 => .one (.int .u8 0)
  | 6 => .one (.int .u8 0)
  | 7 => .st 4 [(0, 1, 2), (1, 1, 3), (2, 1, 4), (3, 1, 6)] [.int .i64 0, .int .i64 0, .bool false, .int .u8 0]
  | 8 => .st 4 [(0, 1, 2), (1, 1, 3), (2, 1, 4), (3, 1, 6)] [.int .i64 0, .int .i64 0, .bool false, .int .u8 0]
  | 9 => .one (.string ⟨#[]⟩)
  | 10 => .one (.string ⟨#[]⟩)
  | 11 => .one (.string ⟨#[]⟩)
  | 12 => .one (.int .u64 0)
  | 13 => .st 2 [(0, 1, 9), (1, 1, 12)] [.string ⟨#[]⟩, .int .u64 0]
  | 14 => .st 2 [(0, 1, 9), (1, 1, 12)] [.string ⟨#[]⟩, .int .u64 0]
  | 15 => .one (.pointer .none)
  | 16 => .one (.pointer .none)
  | 17 => .one (.pointer .none)
  | 18 => .st 1 [(0, 1, 17)] [.pointer .none]
  | 19 => .st 1 [(0, 1, 17)] [.pointer .none]
  | 20 => .one (.nilIface)
  | 21 => .one (.int .i32 0)
  | 22 => .one (.slice .none 0 0)
  | 23 => .one (.nilFunc)
  | 24 => .one (.nilFunc)
  | 25 => .st 3 [(0, 1, 3), (1, 1, 3), (2, 1, 3)] [.int .i64 0, .int .i64 0, .int .i64 0]
  | 26 => .st 3 [(0, 1, 3), (1, 1, 3), (2, 1, 3)] [.int .i64 0, .int .i64 0, .int .i64 0]
  | 27 => .one (.nilFunc)
  | 28 => .one (.nilFunc)
  | 29 => .one (.nilFunc)
  | 30 => .one (.nilFunc)
  | 31 => .one (.nilFunc)
  | 32 => .one (.nilFunc)
  | 33 => .one (.nilFunc)
  | 34 => .one (.nilFunc)
  | 35 => .one (.nilFunc)
  | 36 => .one (.slice .none 0 0)
  | 37 => .one (.int .u32 0)
  | 38 => .one (.nilFunc)
  | 39 => .one (.nilFunc)
  | 40 => .one (.nilFunc)
  | 41 => .one (.nilFunc)
  | 42 => .one (.nilFunc)
  | 43 => .one (.nilFunc)
  | 44 => .one (.slice .none 0 0)
  | 45 => .one (.nilFunc)
  | 46 => .one (.slice .none 0 0)
  | 47 => .one (.nilFunc)
  | 48 => .one (.nilFunc)
  | 49 => .one (.int .i64 0)
  | 51 => .one (.nilFunc)
  | 52 => .one (.nilFunc)
  | 54 => .one (.nilFunc)
  | 55 => .one (.nilFunc)
  | 56 => .one (.nilFunc)
  | 57 => .one (.nilFunc)
  | 59 => .one (.nilFunc)
  | 60 => .one (.nilFunc)
  | 61 => .one (.nilFunc)
  | 62 => .one (.nilFunc)
  | 63 => .one (.nilFunc)
  | 64 => .one (.int .u64 0)
  | 65 => .st 16 [] [.int .u32 0, .int .u32 0, .int .u32 0, .int .u32 0, .int .u32 0, .int .u32 0, .int .u32 0, .int .u32 0, .int .u32 0, .int .u32 0, .int .u32 0, .int .u32 0, .int .u32 0, .int .u32 0, .int .u32 0, .int .u32 0]
  | 66 => .one (.nilFunc)
  | 67 => .one (.nilFunc)
  | 68 => .one (.int .u64 0)
  | 69 => .one (.nilFunc)
  | 70 => .one (.nilFunc)
  | 71 => .one (.nilFunc)
  | 72 => .one (.nilFunc)
  | 73 => .one (.nilFunc)
  | 74 => .one (.nilFunc)
  | 75 => .one (.nilFunc)
  | 76 => .one (.nilFunc)
  | 77 => .one (.nilFunc)
  | 78 => .st 4 [(0, 1, 17), (1, 1, 17), (2, 1, 17), (3, 1, 9)] [.pointer .none, .pointer .none, .pointer .none, .string ⟨#[]⟩]
  | 79 => .st 4 [(0, 1, 17), (1, 1, 17), (2, 1, 17), (3, 1, 9)] [.pointer .none, .pointer .none, .pointer .none, .string ⟨#[]⟩]
  | 83 => .one (.nilFunc)
  | 84 => .one (.int .u8 0)
  | 85 => .one (.int .u8 0)
  | 86 => .one (.nilFunc)
  | 87 => .one (.pointer .none)
  | 88 => .one (.int .i32 0)
  | 89 => .one (.int .i32 0)
  | 90 => .st 11 [(0, 1, 12), (1, 1, 12), (2, 1, 37), (3, 1, 84), (4, 1, 5), (5, 1, 5), (6, 1, 85), (7, 1, 86), (8, 1, 87), (9, 1, 88), (10, 1, 89)] [.int .u64 0, .int .u64 0, .int .u32 0, .int .u8 0, .int .u8 0, .int .u8 0, .int .u8 0, .nilFunc, .pointer .none, .int .i32 0, .int .i32 0]
  | 91 => .st 11 [(0, 1, 12), (1, 1, 12), (2, 1, 37), (3, 1, 84), (4, 1, 5), (5, 1, 5), (6, 1, 85), (7, 1, 86), (8, 1, 87), (9, 1, 88), (10, 1, 89)] [.int .u64 0, .int .u64 0, .int .u32 0, .int .u8 0, .int .u8 0, .int .u8 0, .int .u8 0, .nilFunc, .pointer .none, .int .i32 0, .int .i32 0]
  | 92 => .one (.pointer .none)
  | _ => .none
theorem tysB : (List.range 93).all (fun T => tyB Try.prog T (tysF T)) = true := by kernel_rfl
/-- The table of types. -/
def Y : Tys Try.prog := ⟨fun T => match Nat.blt T 93 with | true => tysF T | false => .none, fun T => by
  cases h : Nat.blt T 93 with
  | true =>
    rw [Nat.blt_eq] at h
    exact tyOk_of (List.all_eq_true.1 tysB T (List.mem_range.2 h))
  | false => trivial⟩
def cfL : List Nat := [3, 4, 5, 6, 7, 8, 9, 10, 11, 12, 13, 14, 15, 16, 17, 18, 19, 20, 21, 22, 23, 24, 25, 26, 27, 28, 29, 30, 31, 32, 33, 34, 35, 36, 37, 38, 39, 40, 41, 42, 43, 44, 45, 46, 47, 48]
theorem cfB : cfL.all (fun f => fnB Try.prog f) = true := by kernel_rfl
theorem cf (f : Nat) (h : cfL.contains f = true) : fnB Try.prog f = true := List.all_eq_true.1 cfB f (by simpa using h)
theorem mixed : Try.prog.follows .mixedOrders = true := by kernel_rfl
theorem t1 : Y.f 1 = .one (.nilFunc) := by kernel_rfl
theorem t2 : Y.f 2 = .one (.int .i64 0) := by kernel_rfl
theorem t3 : Y.f 3 = .one (.int .i64 0) := by kernel_rfl
theorem t4 : Y.f 4 = .one (.bool false) := by kernel_rfl
theorem t5 : Y.f 5 = .one (.int .u8 0) := by kernel_rfl
theorem t6 : Y.f 6 = .one (.int .u8 0) := by kernel_rfl
theorem t7 : Y.f 7 = .st 4 [(0, 1, 2), (1, 1, 3), (2, 1, 4), (3, 1, 6)] [.int .i64 0, .int .i64 0, .bool false, .int .u8 0] := by kernel_rfl
theorem t8 : Y.f 8 = .st 4 [(0, 1, 2), (1, 1, 3), (2, 1, 4), (3, 1, 6)] [.int .i64 0, .int .i64 0, .bool false, .int .u8 0] := by kernel_rfl
theorem t9 : Y.f 9 = .one (.string ⟨#[]⟩) := by kernel_rfl
theorem t10 : Y.f 10 = .one (.string ⟨#[]⟩) := by kernel_rfl
theorem t11 : Y.f 11 = .one (.string ⟨#[]⟩) := by kernel_rfl
theorem t12 : Y.f 12 = .one (.int .u64 0) := by kernel_rfl
theorem t13 : Y.f 13 = .st 2 [(0, 1, 9), (1, 1, 12)] [.string ⟨#[]⟩, .int .u64 0] := by kernel_rfl
theorem t14 : Y.f 14 = .st 2 [(0, 1, 9), (1, 1, 12)] [.string ⟨#[]⟩, .int .u64 0] := by kernel_rfl
theorem t15 : Y.f 15 = .one (.pointer .none) := by kernel_rfl
theorem t16 : Y.f 16 = .one (.pointer .none) := by kernel_rfl
theorem t17 : Y.f 17 = .one (.pointer .none) := by kernel_rfl
theorem t18 : Y.f 18 = .st 1 [(0, 1, 17)] [.pointer .none] := by kernel_rfl
theorem t19 : Y.f 19 = .st 1 [(0, 1, 17)] [.pointer .none] := by kernel_rfl
theorem t20 : Y.f 20 = .one (.nilIface) := by kernel_rfl
theorem t21 : Y.f 21 = .one (.int .i32 0) := by kernel_rfl
theorem t22 : Y.f 22 = .one (.slice .none 0 0) := by kernel_rfl
theorem t23 : Y.f 23 = .one (.nilFunc) := by kernel_rfl
theorem t24 : Y.f 24 = .one (.nilFunc) := by kernel_rfl
theorem t25 : Y.f 25 = .st 3 [(0, 1, 3), (1, 1, 3), (2, 1, 3)] [.int .i64 0, .int .i64 0, .int .i64 0] := by kernel_rfl
theorem t26 : Y.f 26 = .st 3 [(0, 1, 3), (1, 1, 3), (2, 1, 3)] [.int .i64 0, .int .i64 0, .int .i64 0] := by kernel_rfl
theorem t27 : Y.f 27 = .one (.nilFunc) := by kernel_rfl
theorem t28 : Y.f 28 = .one (.nilFunc) := by kernel_rfl
theorem t29 : Y.f 29 = .one (.nilFunc) := by kernel_rfl
theorem t30 : Y.f 30 = .one (.nilFunc) := by kernel_rfl
theorem t31 : Y.f 31 = .one (.nilFunc) := by kernel_rfl
theorem t32 : Y.f 32 = .one (.nilFunc) := by kernel_rfl
theorem t33 : Y.f 33 = .one (.nilFunc) := by kernel_rfl
theorem t34 : Y.f 34 = .one (.nilFunc) := by kernel_rfl
theorem t35 : Y.f 35 = .one (.nilFunc) := by kernel_rfl
theorem t36 : Y.f 36 = .one (.slice .none 0 0) := by kernel_rfl
theorem t37 : Y.f 37 = .one (.int .u32 0) := by kernel_rfl
theorem t38 : Y.f 38 = .one (.nilFunc) := by kernel_rfl
theorem t39 : Y.f 39 = .one (.nilFunc) := by kernel_rfl
theorem t40 : Y.f 40 = .one (.nilFunc) := by kernel_rfl
theorem t41 : Y.f 41 = .one (.nilFunc) := by kernel_rfl
theorem t42 : Y.f 42 = .one (.nilFunc) := by kernel_rfl
theorem t43 : Y.f 43 = .one (.nilFunc) := by kernel_rfl
theorem t44 : Y.f 44 = .one (.slice .none 0 0) := by kernel_rfl
theorem t45 : Y.f 45 = .one (.nilFunc) := by kernel_rfl
theorem t46 : Y.f 46 = .one (.slice .none 0 0) := by kernel_rfl
theorem t47 : Y.f 47 = .one (.nilFunc) := by kernel_rfl
theorem t48 : Y.f 48 = .one (.nilFunc) := by kernel_rfl
theorem t49 : Y.f 49 = .one (.int .i64 0) := by kernel_rfl
theorem t51 : Y.f 51 = .one (.nilFunc) := by kernel_rfl
theorem t52 : Y.f 52 = .one (.nilFunc) := by kernel_rfl
theorem t54 : Y.f 54 = .one (.nilFunc) := by kernel_rfl
theorem t55 : Y.f 55 = .one (.nilFunc) := by kernel_rfl
theorem t56 : Y.f 56 = .one (.nilFunc) := by kernel_rfl
theorem t57 : Y.f 57 = .one (.nilFunc) := by kernel_rfl
theorem t59 : Y.f 59 = .one (.nilFunc) := by kernel_rfl
theorem t60 : Y.f 60 = .one (.nilFunc) := by kernel_rfl
theorem t61 : Y.f 61 = .one (.nilFunc) := by kernel_rfl
theorem t62 : Y.f 62 = .one (.nilFunc) := by kernel_rfl
theorem t63 : Y.f 63 = .one (.nilFunc) := by kernel_rfl
theorem t64 : Y.f 64 = .one (.int .u64 0) := by kernel_rfl
theorem t65 : Y.f 65 = .st 16 [] [.int .u32 0, .int .u32 0, .int .u32 0, .int .u32 0, .int .u32 0, .int .u32 0, .int .u32 0, .int .u32 0, .int .u32 0, .int .u32 0, .int .u32 0, .int .u32 0, .int .u32 0, .int .u32 0, .int .u32 0, .int .u32 0] := by kernel_rfl
theorem t66 : Y.f 66 = .one (.nilFunc) := by kernel_rfl
theorem t67 : Y.f 67 = .one (.nilFunc) := by kernel_rfl
theorem t68 : Y.f 68 = .one (.int .u64 0) := by kernel_rfl
theorem t69 : Y.f 69 = .one (.nilFunc) := by kernel_rfl
theorem t70 : Y.f 70 = .one (.nilFunc) := by kernel_rfl
theorem t71 : Y.f 71 = .one (.nilFunc) := by kernel_rfl
theorem t72 : Y.f 72 = .one (.nilFunc) := by kernel_rfl
theorem t73 : Y.f 73 = .one (.nilFunc) := by kernel_rfl
theorem t74 : Y.f 74 = .one (.nilFunc) := by kernel_rfl
theorem t75 : Y.f 75 = .one (.nilFunc) := by kernel_rfl
theorem t76 : Y.f 76 = .one (.nilFunc) := by kernel_rfl
theorem t77 : Y.f 77 = .one (.nilFunc) := by kernel_rfl
theorem t78 : Y.f 78 = .st 4 [(0, 1, 17), (1, 1, 17), (2, 1, 17), (3, 1, 9)] [.pointer .none, .pointer .none, .pointer .none, .string ⟨#[]⟩] := by kernel_rfl
theorem t79 : Y.f 79 = .st 4 [(0, 1, 17), (1, 1, 17), (2, 1, 17), (3, 1, 9)] [.pointer .none, .pointer .none, .pointer .none, .string ⟨#[]⟩] := by kernel_rfl
theorem t83 : Y.f 83 = .one (.nilFunc) := by kernel_rfl
theorem t84 : Y.f 84 = .one (.int .u8 0) := by kernel_rfl
theorem t85 : Y.f 85 = .one (.int .u8 0) := by kernel_rfl
theorem t86 : Y.f 86 = .one (.nilFunc) := by kernel_rfl
theorem t87 : Y.f 87 = .one (.pointer .none) := by kernel_rfl
theorem t88 : Y.f 88 = .one (.int .i32 0) := by kernel_rfl
theorem t89 : Y.f 89 = .one (.int .i32 0) := by kernel_rfl
theorem t90 : Y.f 90 = .st 11 [(0, 1, 12), (1, 1, 12), (2, 1, 37), (3, 1, 84), (4, 1, 5), (5, 1, 5), (6, 1, 85), (7, 1, 86), (8, 1, 87), (9, 1, 88), (10, 1, 89)] [.int .u64 0, .int .u64 0, .int .u32 0, .int .u8 0, .int .u8 0, .int .u8 0, .int .u8 0, .nilFunc, .pointer .none, .int .i32 0, .int .i32 0] := by kernel_rfl
theorem t91 : Y.f 91 = .st 11 [(0, 1, 12), (1, 1, 12), (2, 1, 37), (3, 1, 84), (4, 1, 5), (5, 1, 5), (6, 1, 85), (7, 1, 86), (8, 1, 87), (9, 1, 88), (10, 1, 89)] [.int .u64 0, .int .u64 0, .int .u32 0, .int .u8 0, .int .u8 0, .int .u8 0, .int .u8 0, .nilFunc, .pointer .none, .int .i32 0, .int .i32 0] := by kernel_rfl
theorem t92 : Y.f 92 = .one (.pointer .none) := by kernel_rfl
theorem el22 : El Try.prog 22 3 1 8 := el_of (by kernel_rfl)
theorem cmp25 : cmpB Try.prog 25 [true, true, true] = true := by kernel_rfl
theorem cmp26 : cmpB Try.prog 26 [true, true, true] = true := by kernel_rfl
theorem el36 : El Try.prog 36 5 1 1 := el_of (by kernel_rfl)
theorem el44 : El Try.prog 44 36 1 24 := el_of (by kernel_rfl)
theorem el46 : El Try.prog 46 9 1 16 := el_of (by kernel_rfl)
theorem tA65 : ArrT Try.prog 65 16 37 1 [.int .u32 0, .int .u32 0, .int .u32 0, .int .u32 0, .int .u32 0, .int .u32 0, .int .u32 0, .int .u32 0, .int .u32 0, .int .u32 0, .int .u32 0, .int .u32 0, .int .u32 0, .int .u32 0, .int .u32 0, .int .u32 0] := arr_of (by kernel_rfl)
end Go.Proofs.Ytheopcgjdfckmaa

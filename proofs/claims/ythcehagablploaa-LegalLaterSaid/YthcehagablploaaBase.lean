/- The seat's tables: what its types are, which functions have bodies; checked against the program by the kernel. -/
import Derived.Test.YthcehagablploaaSxu
import Derived.Test.YthcehagablploaaProg
import Derived.KernelRfl
namespace Go.Proofs.Ythcehagablploaa
open Go Go.Proofs.Ythcehagablploaa.Sx
set_option linter.unusedVariables false
def tysF : TypeId → TyI
  | 1 => .one (.nilFunc)
  | 2 => .one (.int .i64 0)
  | 3 => .one (.int .i64 0)
  | 4 => .one (.bool false)
  | 5 => .one (.int .u8 0)
  | 6 => .one (.int .u8 0)
  | 7 => .st 4 [(0, 1, 2), (1, 1, 3), (2, 1, 4), (3, 1, 6)] [.int .i64 0, .int .i64 0, .bool false, .int .u8 0]
  | 8 => .st 4 [(0, 1, 2), (1, 1, 3), (2, 1, 4), (3, 1, 6)] [.int .i64 0, .int .i64 0, .bool false, .int .u8 0]
  | 9 => .one (.string ⟨#[]⟩)
  | 10 => .one (.string ⟨#[]⟩)
  | 11 => .one (.string ⟨#[]⟩)
  | 12 => .one (.int .u64 0)
  | 13 => .st 2 [(0, 1, 9), (1, 1, 12)] [.string ⟨#[]⟩, .int .u64 0]
  | 14 => .st 2 [(0, 1, 9), (1, 1, 12)] [.string ⟨#[]⟩, .int .u64 0]
  | 15 => .one (.pointer .none)
  | 16 => .one (.pointer .none)
  | 17 => .one (.pointer .none)
  | 18 => .st 1 [(0, 1, 17)] [.pointer .none]
  | 19 => .st 1 [(0, 1, 17)] [.pointer .none]
  | 20 => .one (.nilIface)
  | 21 => .one (.int .i32 0)
  | 22 => .one (.slice .none 0 0)
  | 23 => .one (.nilFunc)
  | 24 => .one (.nilFunc)
  | 25 => .one (.nilFunc)
  | 26 => .one (.pointer .none)
  | 27 => .one (.nilFunc)
  | 28 => .one (.nilFunc)
  | 29 => .one (.nilFunc)
  | 30 => .one (.nilFunc)
  | 31 => .one (.nilFunc)
  | 32 => .st 2 [(0, 1, 3), (1, 1, 3)] [.int .i64 0, .int .i64 0]
  | 33 => .st 2 [(0, 1, 3), (1, 1, 3)] [.int .i64 0, .int .i64 0]
  | 34 => .st 4 [(0, 1, 3), (1, 1, 4), (2, 2, 33)] [.int .i64 0, .bool false, .int .i64 0, .int .i64 0]
  | 35 => .st 4 [(0, 1, 3), (1, 1, 4), (2, 2, 33)] [.int .i64 0, .bool false, .int .i64 0, .int .i64 0]
  | 36 => .st 3 [(0, 1, 4), (1, 2, 33)] [.bool false, .int .i64 0, .int .i64 0]
  | 37 => .st 3 [(0, 1, 4), (1, 2, 33)] [.bool false, .int .i64 0, .int .i64 0]
  | 38 => .st 8 [(0, 4, 35), (4, 1, 4), (5, 3, 37)] [.int .i64 0, .bool false, .int .i64 0, .int .i64 0, .bool false, .bool false, .int .i64 0, .int .i64 0]
  | 39 => .st 8 [(0, 4, 35), (4, 1, 4), (5, 3, 37)] [.int .i64 0, .bool false, .int .i64 0, .int .i64 0, .bool false, .bool false, .int .i64 0, .int .i64 0]
  | 40 => .st 3 [(0, 1, 3), (1, 1, 3), (2, 1, 3)] [.int .i64 0, .int .i64 0, .int .i64 0]
  | 41 => .st 3 [(0, 1, 3), (1, 1, 3), (2, 1, 3)] [.int .i64 0, .int .i64 0, .int .i64 0]
  | 42 => .st 16 [(0, 3, 41), (3, 3, 41), (6, 1, 3), (7, 1, 3), (8, 2, 33), (10, 3, 37), (13, 3, 37)] [.int .i64 0, .int .i64 0, .int .i64 0, .int .i64 0, .int .i64 0, .int .i64 0, .int .i64 0, .int .i64 0, .int .i64 0, .int .i64 0, .bool false, .int .i64 0, .int .i64 0, .bool false, .int .i64 0, .int .i64 0]
  | 43 => .st 16 [(0, 3, 41), (3, 3, 41), (6, 1, 3), (7, 1, 3), (8, 2, 33), (10, 3, 37), (13, 3, 37)] [.int .i64 0, .int .i64 0, .int .i64 0, .int .i64 0, .int .i64 0, .int .i64 0, .int .i64 0, .int .i64 0, .int .i64 0, .int .i64 0, .bool false, .int .i64 0, .int .i64 0, .bool false, .int .i64 0, .int .i64 0]
  | 44 => .one (.nilFunc)
  | 45 => .one (.nilFunc)
  | 46 => .one (.nilFunc)
  | 47 => .one (.nilFunc)
  | 48 => .one (.nilFunc)
  | 49 => .one (.nilFunc)
  | 50 => .one (.nilFunc)
  | 51 => .one (.nilFunc)
  | 52 => .st 8 [(0, 4, 35), (4, 1, 4), (5, 3, 37)] [.int .i64 0, .bool false, .int .i64 0, .int .i64 0, .bool false, .bool false, .int .i64 0, .int .i64 0]
  | 53 => .one (.nilFunc)
  | 54 => .one (.nilFunc)
  | 55 => .one (.int .u16 0)
  | 56 => .one (.nilFunc)
  | 57 => .one (.nilFunc)
  | 58 => .one (.nilFunc)
  | 59 => .one (.nilFunc)
  | 60 => .one (.slice .none 0 0)
  | 61 => .one (.nilFunc)
  | 62 => .one (.nilFunc)
  | 63 => .one (.nilFunc)
  | 64 => .one (.nilFunc)
  | 65 => .one (.nilFunc)
  | 66 => .one (.nilFunc)
  | 67 => .st 2 [(0, 1, 3), (1, 1, 3)] [.int .i64 0, .int .i64 0]
  | 68 => .st 2 [(0, 1, 3), (1, 1, 3)] [.int .i64 0, .int .i64 0]
  | 69 => .st 29 [(0, 8, 39), (8, 2, 68), (10, 2, 68), (12, 1, 3), (13, 16, 43)] [.int .i64 0, .bool false, .int .i64 0, .int .i64 0, .bool false, .bool false, .int .i64 0, .int .i64 0, .int .i64 0, .int .i64 0, .int .i64 0, .int .i64 0, .int .i64 0, .int .i64 0, .int .i64 0, .int .i64 0, .int .i64 0, .int .i64 0, .int .i64 0, .int .i64 0, .int .i64 0, .int .i64 0, .int .i64 0, .bool false, .int .i64 0, .int .i64 0, .bool false, .int .i64 0, .int .i64 0]
  | 70 => .st 29 [(0, 8, 39), (8, 2, 68), (10, 2, 68), (12, 1, 3), (13, 16, 43)] [.int .i64 0, .bool false, .int .i64 0, .int .i64 0, .bool false, .bool false, .int .i64 0, .int .i64 0, .int .i64 0, .int .i64 0, .int .i64 0, .int .i64 0, .int .i64 0, .int .i64 0, .int .i64 0, .int .i64 0, .int .i64 0, .int .i64 0, .int .i64 0, .int .i64 0, .int .i64 0, .int .i64 0, .int .i64 0, .bool false, .int .i64 0, .int .i64 0, .bool false, .int .i64 0, .int .i64 0]
  | 71 => .one (.nilFunc)
  | 72 => .one (.pointer .none)
  | 73 => .st 3 [(0, 1, 72), (1, 2, 68)] [.pointer .none, .int .i64 0, .int .i64 0]
  | 74 => .st 3 [(0, 1, 72), (1, 2, 68)] [.pointer .none, .int .i64 0, .int .i64 0]
  | 75 => .one (.slice .none 0 0)
  | 76 => .one (.nilFunc)
  | 78 => .one (.nilFunc)
  | 79 => .one (.nilFunc)
  | 80 => .one (.nilFunc)
  | 81 => .one (.nilFunc)
  | 82 => .one (.nilFunc)
  | 84 => .one (.nilFunc)
  | 86 => .one (.nilFunc)
  | 87 => .one (.nilFunc)
  | 89 => .one (.nilFunc)
  | 90 => .one (.nilFunc)
  | 91 => .one (.slice .none 0 0)
  | 92 => .st 5 [(0, 1, 91), (1, 1, 60), (2, 1, 3), (3, 1, 3), (4, 1, 3)] [.slice .none 0 0, .slice .none 0 0, .int .i64 0, .int .i64 0, .int .i64 0]
  | 93 => .st 5 [(0, 1, 91), (1, 1, 60), (2, 1, 3), (3, 1, 3), (4, 1, 3)] [.slice .none 0 0, .slice .none 0 0, .int .i64 0, .int .i64 0, .int .i64 0]
  | 94 => .one (.nilFunc)
  | 95 => .one (.nilFunc)
  | 96 => .one (.nilFunc)
  | 97 => .one (.nilFunc)
  | 98 => .one (.nilFunc)
  | 99 => .one (.nilFunc)
  | 100 => .one (.nilFunc)
  | 101 => .one (.pointer .none)
  | 102 => .one (.nilFunc)
  | 103 => .st 31 [(0, 29, 70), (29, 1, 3), (30, 1, 4)] [.int .i64 0, .bool false, .int .i64 0, .int .i64 0, .bool false, .bool false, .int .i64 0, .int .i64 0, .int .i64 0, .int .i64 0, .int .i64 0, .int .i64 0, .int .i64 0, .int .i64 0, .int .i64 0, .int .i64 0, .int .i64 0, .int .i64 0, .int .i64 0, .int .i64 0, .int .i64 0, .int .i64 0, .int .i64 0, .bool false, .int .i64 0, .int .i64 0, .bool false, .int .i64 0, .int .i64 0, .int .i64 0, .bool false]
  | 104 => .st 31 [(0, 29, 70), (29, 1, 3), (30, 1, 4)] [.int .i64 0, .bool false, .int .i64 0, .int .i64 0, .bool false, .bool false, .int .i64 0, .int .i64 0, .int .i64 0, .int .i64 0, .int .i64 0, .int .i64 0, .int .i64 0, .int .i64 0, .int .i64 0, .int .i64 0, .int .i64 0, .int .i64 0, .int .i64 0, .int .i64 0, .int .i64 0, .int .i64 0, .int .i64 0, .bool false, .int .i64 0, .int .i64 0, .bool false, .int .i64 0, .int .i64 0, .int .i64 0, .bool false]
  | 105 => .one (.nilFunc)
  | 106 => .one (.nilFunc)
  | 107 => .one (.nilFunc)
  | 108 => .st 4 [(0, 1, 17), (1, 1, 17), (2, 1, 17), (3, 1, 9)] [.pointer .none, .pointer .none, .pointer .none, .string ⟨#[]⟩]
  | 109 => .st 4 [(0, 1, 17), (1, 1, 17), (2, 1, 17), (3, 1, 9)] [.pointer .none, .pointer .none, .pointer .none, .string ⟨#[]⟩]
  | 113 => .one (.int .u32 0)
  | 114 => .one (.int .u8 0)
  | 115 => .one (.int .u8 0)
  | 116 => .one (.nilFunc)
  | 117 => .one (.pointer .none)
  | 118 => .one (.int .i32 0)
  | 119 => .one (.int .i32 0)
  | 120 => .st 11 [(0, 1, 12), (1, 1, 12), (2, 1, 113), (3, 1, 114), (4, 1, 5), (5, 1, 5), (6, 1, 115), (7, 1, 116), (8, 1, 117), (9, 1, 118), (10, 1, 119)] [.int .u64 0, .int .u64 0, .int .u32 0, .int .u8 0, .int .u8 0, .int .u8 0, .int .u8 0, .nilFunc, .pointer .none, .int .i32 0, .int .i32 0]
  | 121 => .st 11 [(0, 1, 12), (1, 1, 12), (2, 1, 113), (3, 1, 114), (4, 1, 5), (5, 1, 5), (6, 1, 115), (7, 1, 116), (8, 1, 117), (9, 1, 118), (10, 1, 119)] [.int .u64 0, .int .u64 0, .int .u32 0, .int .u8 0, .int .u8 0, .int .u8 0, .int .u8 0, .nilFunc, .pointer .none, .int .i32 0, .int .i32 0]
  | 122 => .one (.nilFunc)
  | 123 => .one (.nilFunc)
  | 124 => .one (.nilFunc)
  | 125 => .one (.nilFunc)
  | 126 => .one (.nilFunc)
  | 127 => .one (.nilFunc)
  | 128 => .one (.nilFunc)
  | 129 => .one (.nilFunc)
  | 130 => .one (.pointer .none)
  | _ => .none
theorem tysB : (List.range 131).all (fun T => tyB Try.prog T (tysF T)) = true := by kernel_rfl
/-- The table of types. -/
def Y : Tys Try.prog := ⟨fun T => match Nat.blt T 131 with | true => tysF T | false => .none, fun T => by
  cases h : Nat.blt T 131 with
  | true =>
    rw [Nat.blt_eq] at h
    exact tyOk_of (List.all_eq_true.1 tysB T (List.mem_range.2 h))
  | false => trivial⟩
def cfL : List Nat := [3, 4, 5, 6, 7, 8, 9, 10, 11, 12, 13, 14, 15, 16, 17, 18, 19, 20, 21, 22, 23, 24, 25, 26, 27, 28, 29, 30, 31, 32, 33, 34, 35, 36, 37, 38, 39, 40, 41, 42, 43, 44, 45, 46, 47, 48, 49, 50, 51, 52, 53, 54, 55, 56, 57, 58, 59, 60, 61, 62, 63, 64, 65, 66, 67, 68, 69, 70, 71, 72, 73, 74, 75, 76, 77, 78, 95, 96, 97, 98, 99, 100, 101, 102, 103, 104, 105]
theorem cfB : cfL.all (fun f => fnB Try.prog f) = true := by kernel_rfl
theorem cf (f : Nat) (h : cfL.contains f = true) : fnB Try.prog f = true := List.all_eq_true.1 cfB f (by simpa using h)
theorem mixed : Try.prog.follows .mixedOrders = true := by kernel_rfl
theorem t1 : Y.f 1 = .one (.nilFunc) := by kernel_rfl
theorem t2 : Y.f 2 = .one (.int .i64 0) := by kernel_rfl
theorem t3 : Y.f 3 = .one (.int .i64 0) := by kernel_rfl
theorem t4 : Y.f 4 = .one (.bool false) := by kernel_rfl
theorem t5 : Y.f 5 = .one (.int .u8 0) := by kernel_rfl
theorem t6 : Y.f 6 = .one (.int .u8 0) := by kernel_rfl
theorem t7 : Y.f 7 = .st 4 [(0, 1, 2), (1, 1, 3), (2, 1, 4), (3, 1, 6)] [.int .i64 0, .int .i64 0, .bool false, .int .u8 0] := by kernel_rfl
theorem t8 : Y.f 8 = .st 4 [(0, 1, 2), (1, 1, 3), (2, 1, 4), (3, 1, 6)] [.int .i64 0, .int .i64 0, .bool false, .int .u8 0] := by kernel_rfl
theorem t9 : Y.f 9 = .one (.string ⟨#[]⟩) := by kernel_rfl
theorem t10 : Y.f 10 = .one (.string ⟨#[]⟩) := by kernel_rfl
theorem t11 : Y.f 11 = .one (.string ⟨#[]⟩) := by kernel_rfl
theorem t12 : Y.f 12 = .one (.int .u64 0) := by kernel_rfl
theorem t13 : Y.f 13 = .st 2 [(0, 1, 9), (1, 1, 12)] [.string ⟨#[]⟩, .int .u64 0] := by kernel_rfl
theorem t14 : Y.f 14 = .st 2 [(0, 1, 9), (1, 1, 12)] [.string ⟨#[]⟩, .int .u64 0] := by kernel_rfl
theorem t15 : Y.f 15 = .one (.pointer .none) := by kernel_rfl
theorem t16 : Y.f 16 = .one (.pointer .none) := by kernel_rfl
theorem t17 : Y.f 17 = .one (.pointer .none) := by kernel_rfl
theorem t18 : Y.f 18 = .st 1 [(0, 1, 17)] [.pointer .none] := by kernel_rfl
theorem t19 : Y.f 19 = .st 1 [(0, 1, 17)] [.pointer .none] := by kernel_rfl
theorem t20 : Y.f 20 = .one (.nilIface) := by kernel_rfl
theorem t21 : Y.f 21 = .one (.int .i32 0) := by kernel_rfl
theorem t22 : Y.f 22 = .one (.slice .none 0 0) := by kernel_rfl
theorem t23 : Y.f 23 = .one (.nilFunc) := by kernel_rfl
theorem t24 : Y.f 24 = .one (.nilFunc) := by kernel_rfl
theorem t25 : Y.f 25 = .one (.nilFunc) := by kernel_rfl
theorem t26 : Y.f 26 = .one (.pointer .none) := by kernel_rfl
theorem t27 : Y.f 27 = .one (.nilFunc) := by kernel_rfl
theorem t28 : Y.f 28 = .one (.nilFunc) := by kernel_rfl
theorem t29 : Y.f 29 = .one (.nilFunc) := by kernel_rfl
theorem t30 : Y.f 30 = .one (.nilFunc) := by kernel_rfl
theorem t31 : Y.f 31 = .one (.nilFunc) := by kernel_rfl
theorem t32 : Y.f 32 = .st 2 [(0, 1, 3), (1, 1, 3)] [.int .i64 0, .int .i64 0] := by kernel_rfl
theorem t33 : Y.f 33 = .st 2 [(0, 1, 3), (1, 1, 3)] [.int .i64 0, .int .i64 0] := by kernel_rfl
theorem t34 : Y.f 34 = .st 4 [(0, 1, 3), (1, 1, 4), (2, 2, 33)] [.int .i64 0, .bool false, .int .i64 0, .int .i64 0] := by kernel_rfl
theorem t35 : Y.f 35 = .st 4 [(0, 1, 3), (1, 1, 4), (2, 2, 33)] [.int .i64 0, .bool false, .int .i64 0, .int .i64 0] := by kernel_rfl
theorem t36 : Y.f 36 = .st 3 [(0, 1, 4), (1, 2, 33)] [.bool false, .int .i64 0, .int .i64 0] := by kernel_rfl
theorem t37 : Y.f 37 = .st 3 [(0, 1, 4), (1, 2, 33)] [.bool false, .int .i64 0, .int .i64 0] := by kernel_rfl
theorem t38 : Y.f 38 = .st 8 [(0, 4, 35), (4, 1, 4), (5, 3, 37)] [.int .i64 0, .bool false, .int .i64 0, .int .i64 0, .bool false, .bool false, .int .i64 0, .int .i64 0] := by kernel_rfl
theorem t39 : Y.f 39 = .st 8 [(0, 4, 35), (4, 1, 4), (5, 3, 37)] [.int .i64 0, .bool false, .int .i64 0, .int .i64 0, .bool false, .bool false, .int .i64 0, .int .i64 0] := by kernel_rfl
theorem t40 : Y.f 40 = .st 3 [(0, 1, 3), (1, 1, 3), (2, 1, 3)] [.int .i64 0, .int .i64 0, .int .i64 0] := by kernel_rfl
theorem t41 : Y.f 41 = .st 3 [(0, 1, 3), (1, 1, 3), (2, 1, 3)] [.int .i64 0, .int .i64 0, .int .i64 0] := by kernel_rfl
theorem t42 : Y.f 42 = .st 16 [(0, 3, 41), (3, 3, 41), (6, 1, 3), (7, 1, 3), (8, 2, 33), (10, 3, 37), (13, 3, 37)] [.int .i64 0, .int .i64 0, .int .i64 0, .int .i64 0, .int .i64 0, .int .i64 0, .int .i64 0, .int .i64 0, .int .i64 0, .int .i64 0, .bool false, .int .i64 0, .int .i64 0, .bool false, .int .i64 0, .int .i64 0] := by kernel_rfl
theorem t43 : Y.f 43 = .st 16 [(0, 3, 41), (3, 3, 41), (6, 1, 3), (7, 1, 3), (8, 2, 33), (10, 3, 37), (13, 3, 37)] [.int .i64 0, .int .i64 0, .int .i64 0, .int .i64 0, .int .i64 0, .int .i64 0, .int .i64 0, .int .i64 0, .int .i64 0, .int .i64 0, .bool false, .int .i64 0, .int .i64 0, .bool false, .int .i64 0, .int .i64 0] := by kernel_rfl
theorem t44 : Y.f 44 = .one (.nilFunc) := by kernel_rfl
theorem t45 : Y.f 45 = .one (.nilFunc) := by kernel_rfl
theorem t46 : Y.f 46 = .one (.nilFunc) := by kernel_rfl
theorem t47 : Y.f 47 = .one (.nilFunc) := by kernel_rfl
theorem t48 : Y.f 48 = .one (.nilFunc) := by kernel_rfl
theorem t49 : Y.f 49 = .one (.nilFunc) := by kernel_rfl
theorem t50 : Y.f 50 = .one (.nilFunc) := by kernel_rfl
theorem t51 : Y.f 51 = .one (.nilFunc) := by kernel_rfl
theorem t52 : Y.f 52 = .st 8 [(0, 4, 35), (4, 1, 4), (5, 3, 37)] [.int .i64 0, .bool false, .int .i64 0, .int .i64 0, .bool false, .bool false, .int .i64 0, .int .i64 0] := by kernel_rfl
theorem t53 : Y.f 53 = .one (.nilFunc) := by kernel_rfl
theorem t54 : Y.f 54 = .one (.nilFunc) := by kernel_rfl
theorem t55 : Y.f 55 = .one (.int .u16 0) := by kernel_rfl
theorem t56 : Y.f 56 = .one (.nilFunc) := by kernel_rfl
theorem t57 : Y.f 57 = .one (.nilFunc) := by kernel_rfl
theorem t58 : Y.f 58 = .one (.nilFunc) := by kernel_rfl
theorem t59 : Y.f 59 = .one (.nilFunc) := by kernel_rfl
theorem t60 : Y.f 60 = .one (.slice .none 0 0) := by kernel_rfl
theorem t61 : Y.f 61 = .one (.nilFunc) := by kernel_rfl
theorem t62 : Y.f 62 = .one (.nilFunc) := by kernel_rfl
theorem t63 : Y.f 63 = .one (.nilFunc) := by kernel_rfl
theorem t64 : Y.f 64 = .one (.nilFunc) := by kernel_rfl
theorem t65 : Y.f 65 = .one (.nilFunc) := by kernel_rfl
theorem t66 : Y.f 66 = .one (.nilFunc) := by kernel_rfl
theorem t67 : Y.f 67 = .st 2 [(0, 1, 3), (1, 1, 3)] [.int .i64 0, .int .i64 0] := by kernel_rfl
theorem t68 : Y.f 68 = .st 2 [(0, 1, 3), (1, 1, 3)] [.int .i64 0, .int .i64 0] := by kernel_rfl
theorem t69 : Y.f 69 = .st 29 [(0, 8, 39), (8, 2, 68), (10, 2, 68), (12, 1, 3), (13, 16, 43)] [.int .i64 0, .bool false, .int .i64 0, .int .i64 0, .bool false, .bool false, .int .i64 0, .int .i64 0, .int .i64 0, .int .i64 0, .int .i64 0, .int .i64 0, .int .i64 0, .int .i64 0, .int .i64 0, .int .i64 0, .int .i64 0, .int .i64 0, .int .i64 0, .int .i64 0, .int .i64 0, .int .i64 0, .int .i64 0, .bool false, .int .i64 0, .int .i64 0, .bool false, .int .i64 0, .int .i64 0] := by kernel_rfl
theorem t70 : Y.f 70 = .st 29 [(0, 8, 39), (8, 2, 68), (10, 2, 68), (12, 1, 3), (13, 16, 43)] [.int .i64 0, .bool false, .int .i64 0, .int .i64 0, .bool false, .bool false, .int .i64 0, .int .i64 0, .int .i64 0, .int .i64 0, .int .i64 0, .int .i64 0, .int .i64 0, .int .i64 0, .int .i64 0, .int .i64 0, .int .i64 0, .int .i64 0, .int .i64 0, .int .i64 0, .int .i64 0, .int .i64 0, .int .i64 0, .bool false, .int .i64 0, .int .i64 0, .bool false, .int .i64 0, .int .i64 0] := by kernel_rfl
theorem t71 : Y.f 71 = .one (.nilFunc) := by kernel_rfl
theorem t72 : Y.f 72 = .one (.pointer .none) := by kernel_rfl
theorem t73 : Y.f 73 = .st 3 [(0, 1, 72), (1, 2, 68)] [.pointer .none, .int .i64 0, .int .i64 0] := by kernel_rfl
theorem t74 : Y.f 74 = .st 3 [(0, 1, 72), (1, 2, 68)] [.pointer .none, .int .i64 0, .int .i64 0] := by kernel_rfl
theorem t75 : Y.f 75 = .one (.slice .none 0 0) := by kernel_rfl
theorem t76 : Y.f 76 = .one (.nilFunc) := by kernel_rfl
theorem t78 : Y.f 78 = .one (.nilFunc) := by kernel_rfl
theorem t79 : Y.f 79 = .one (.nilFunc) := by kernel_rfl
theorem t80 : Y.f 80 = .one (.nilFunc) := by kernel_rfl
theorem t81 : Y.f 81 = .one (.nilFunc) := by kernel_rfl
theorem t82 : Y.f 82 = .one (.nilFunc) := by kernel_rfl
theorem t84 : Y.f 84 = .one (.nilFunc) := by kernel_rfl
theorem t86 : Y.f 86 = .one (.nilFunc) := by kernel_rfl
theorem t87 : Y.f 87 = .one (.nilFunc) := by kernel_rfl
theorem t89 : Y.f 89 = .one (.nilFunc) := by kernel_rfl
theorem t90 : Y.f 90 = .one (.nilFunc) := by kernel_rfl
theorem t91 : Y.f 91 = .one (.slice .none 0 0) := by kernel_rfl
theorem t92 : Y.f 92 = .st 5 [(0, 1, 91), (1, 1, 60), (2, 1, 3), (3, 1, 3), (4, 1, 3)] [.slice .none 0 0, .slice .none 0 0, .int .i64 0, .int .i64 0, .int .i64 0] := by kernel_rfl
theorem t93 : Y.f 93 = .st 5 [(0, 1, 91), (1, 1, 60), (2, 1, 3), (3, 1, 3), (4, 1, 3)] [.slice .none 0 0, .slice .none 0 0, .int .i64 0, .int .i64 0, .int .i64 0] := by kernel_rfl
theorem t94 : Y.f 94 = .one (.nilFunc) := by kernel_rfl
theorem t95 : Y.f 95 = .one (.nilFunc) := by kernel_rfl
theorem t96 : Y.f 96 = .one (.nilFunc) := by kernel_rfl
theorem t97 : Y.f 97 = .one (.nilFunc) := by kernel_rfl
theorem t98 : Y.f 98 = .one (.nilFunc) := by kernel_rfl
theorem t99 : Y.f 99 = .one (.nilFunc) := by kernel_rfl
theorem t100 : Y.f 100 = .one (.nilFunc) := by kernel_rfl
theorem t101 : Y.f 101 = .one (.pointer .none) := by kernel_rfl
theorem t102 : Y.f 102 = .one (.nilFunc) := by kernel_rfl
theorem t103 : Y.f 103 = .st 31 [(0, 29, 70), (29, 1, 3), (30, 1, 4)] [.int .i64 0, .bool false, .int .i64 0, .int .i64 0, .bool false, .bool false, .int .i64 0, .int .i64 0, .int .i64 0, .int .i64 0, .int .i64 0, .int .i64 0, .int .i64 0, .int .i64 0, .int .i64 0, .int .i64 0, .int .i64 0, .int .i64 0, .int .i64 0, .int .i64 0, .int .i64 0, .int .i64 0, .int .i64 0, .bool false, .int .i64 0, .int .i64 0, .bool false, .int .i64 0, .int .i64 0, .int .i64 0, .bool false] := by kernel_rfl
theorem t104 : Y.f 104 = .st 31 [(0, 29, 70), (29, 1, 3), (30, 1, 4)] [.int .i64 0, .bool false, .int .i64 0, .int .i64 0, .bool false, .bool false, .int .i64 0, .int .i64 0, .int .i64 0, .int .i64 0, .int .i64 0, .int .i64 0, .int .i64 0, .int .i64 0, .int .i64 0, .int .i64 0, .int .i64 0, .int .i64 0, .int .i64 0, .int .i64 0, .int .i64 0, .int .i64 0, .int .i64 0, .bool false, .int .i64 0, .int .i64 0, .bool false, .int .i64 0, .int .i64 0, .int .i64 0, .bool false] := by kernel_rfl
theorem t105 : Y.f 105 = .one (.nilFunc) := by kernel_rfl
theorem t106 : Y.f 106 = .one (.nilFunc) := by kernel_rfl
theorem t107 : Y.f 107 = .one (.nilFunc) := by kernel_rfl
theorem t108 : Y.f 108 = .st 4 [(0, 1, 17), (1, 1, 17), (2, 1, 17), (3, 1, 9)] [.pointer .none, .pointer .none, .pointer .none, .string ⟨#[]⟩] := by kernel_rfl
theorem t109 : Y.f 109 = .st 4 [(0, 1, 17), (1, 1, 17), (2, 1, 17), (3, 1, 9)] [.pointer .none, .pointer .none, .pointer .none, .string ⟨#[]⟩] := by kernel_rfl
theorem t113 : Y.f 113 = .one (.int .u32 0) := by kernel_rfl
theorem t114 : Y.f 114 = .one (.int .u8 0) := by kernel_rfl
theorem t115 : Y.f 115 = .one (.int .u8 0) := by kernel_rfl
theorem t116 : Y.f 116 = .one (.nilFunc) := by kernel_rfl
theorem t117 : Y.f 117 = .one (.pointer .none) := by kernel_rfl
theorem t118 : Y.f 118 = .one (.int .i32 0) := by kernel_rfl
theorem t119 : Y.f 119 = .one (.int .i32 0) := by kernel_rfl
theorem t120 : Y.f 120 = .st 11 [(0, 1, 12), (1, 1, 12), (2, 1, 113), (3, 1, 114), (4, 1, 5), (5, 1, 5), (6, 1, 115), (7, 1, 116), (8, 1, 117), (9, 1, 118), (10, 1, 119)] [.int .u64 0, .int .u64 0, .int .u32 0, .int .u8 0, .int .u8 0, .int .u8 0, .int .u8 0, .nilFunc, .pointer .none, .int .i32 0, .int .i32 0] := by kernel_rfl
theorem t121 : Y.f 121 = .st 11 [(0, 1, 12), (1, 1, 12), (2, 1, 113), (3, 1, 114), (4, 1, 5), (5, 1, 5), (6, 1, 115), (7, 1, 116), (8, 1, 117), (9, 1, 118), (10, 1, 119)] [.int .u64 0, .int .u64 0, .int .u32 0, .int .u8 0, .int .u8 0, .int .u8 0, .int .u8 0, .nilFunc, .pointer .none, .int .i32 0, .int .i32 0] := by kernel_rfl
theorem t122 : Y.f 122 = .one (.nilFunc) := by kernel_rfl
theorem t123 : Y.f 123 = .one (.nilFunc) := by kernel_rfl
theorem t124 : Y.f 124 = .one (.nilFunc) := by kernel_rfl
theorem t125 : Y.f 125 = .one (.nilFunc) := by kernel_rfl
theorem t126 : Y.f 126 = .one (.nilFunc) := by kernel_rfl
theorem t127 : Y.f 127 = .one (.nilFunc) := by kernel_rfl
theorem t128 : Y.f 128 = .one (.nilFunc) := by kernel_rfl
theorem t129 : Y.f 129 = .one (.nilFunc) := by kernel_rfl
theorem t130 : Y.f 130 = .one (.pointer .none) := by kernel_rfl
theorem el22 : El Try.prog 22 52 8 64 := el_of (by kernel_rfl)
theorem cmp32 : cmpB Try.prog 32 [true, true] = true := by kernel_rfl
theorem cmp33 : cmpB Try.prog 33 [true, true] = true := by kernel_rfl
theorem cmp34 : cmpB Try.prog 34 [true, false, true, true] = true := by kernel_rfl
theorem cmp35 : cmpB Try.prog 35 [true, false, true, true] = true := by kernel_rfl
theorem cmp36 : cmpB Try.prog 36 [false, true, true] = true := by kernel_rfl
theorem cmp37 : cmpB Try.prog 37 [false, true, true] = true := by kernel_rfl
theorem cmp38 : cmpB Try.prog 38 [true, false, true, true, false, false, true, true] = true := by kernel_rfl
theorem cmp39 : cmpB Try.prog 39 [true, false, true, true, false, false, true, true] = true := by kernel_rfl
theorem cmp40 : cmpB Try.prog 40 [true, true, true] = true := by kernel_rfl
theorem cmp41 : cmpB Try.prog 41 [true, true, true] = true := by kernel_rfl
theorem cmp42 : cmpB Try.prog 42 [true, true, true, true, true, true, true, true, true, true, false, true, true, false, true, true] = true := by kernel_rfl
theorem cmp43 : cmpB Try.prog 43 [true, true, true, true, true, true, true, true, true, true, false, true, true, false, true, true] = true := by kernel_rfl
theorem cmp52 : cmpB Try.prog 52 [true, false, true, true, false, false, true, true] = true := by kernel_rfl
theorem el60 : El Try.prog 60 3 1 8 := el_of (by kernel_rfl)
theorem cmp67 : cmpB Try.prog 67 [true, true] = true := by kernel_rfl
theorem cmp68 : cmpB Try.prog 68 [true, true] = true := by kernel_rfl
theorem cmp69 : cmpB Try.prog 69 [true, false, true, true, false, false, true, true, true, true, true, true, true, true, true, true, true, true, true, true, true, true, true, false, true, true, false, true, true] = true := by kernel_rfl
theorem cmp70 : cmpB Try.prog 70 [true, false, true, true, false, false, true, true, true, true, true, true, true, true, true, true, true, true, true, true, true, true, true, false, true, true, false, true, true] = true := by kernel_rfl
theorem el75 : El Try.prog 75 33 2 16 := el_of (by kernel_rfl)
theorem el91 : El Try.prog 91 104 31 248 := el_of (by kernel_rfl)
theorem cmp103 : cmpB Try.prog 103 [true, false, true, true, false, false, true, true, true, true, true, true, true, true, true, true, true, true, true, true, true, true, true, false, true, true, false, true, true, true, false] = true := by kernel_rfl
theorem cmp104 : cmpB Try.prog 104 [true, false, true, true, false, false, true, true, true, true, true, true, true, true, true, true, true, true, true, true, true, true, true, false, true, true, false, true, true, true, false] = true := by kernel_rfl
end Go.Proofs.Ythcehagablploaa

/- The seat's tables: what its types are, which functions have bodies; checked against the program by the kernel. -/
import Derived.Test.YtjokolmijhhinaaSxu
import Derived.Test.YtjokolmijhhinaaProg
import Derived.KernelRfl
namespace Go.Proofs.Ytjokolmijhhinaa
open Go Go.Proofs.Ytjokolmijhhinaa.Sx
set_option linter.unusedVariables false
def tysF : TypeId → TyI
  | 1 => .one (.nilFunc)
  | 2 => .one (.int .i64 0)
  | 3 => .one (.int .i64 0)
  | 4 => .one (.bool false)
  | 5 => .one (.int .u8 0)
  | 6 => .one (.int .u8 0)
  | 7 => .st 4 [(0, 1, 2), (1, 1, 3), (2, 1, 4), (3, 1, 6)] [.int .i64 0, .int .i64 0, .bool false, .int .u8 0]
  | 8 => .st 4 [(0, 1, 2), (1, 1, 3), (2, 1, 4), (3, 1, 6)] [.int .i64 0, .int .i64 0, .bool false, .int .u8 0]
  | 9 => .one (.string ⟨#[]⟩)
  | 10 => .one (.string ⟨#[]⟩)
  | 11 => .one (.string ⟨#[]⟩)
  | 12 => .one (.int .u64 0)
  | 13 => .st 2 [(0, 1, 9), (1, 1, 12)] [.string ⟨#[]⟩, .int .u64 0]
  | 14 => .st 2 [(0, 1, 9), (1, 1, 12)] [.string ⟨#[]⟩, .int .u64 0]
  | 15 => .one (.pointer .none)
  | 16 => .one (.pointer .none)
  | 17 => .one (.pointer .none)
  | 18 => .st 1 [(0, 1, 17)] [.pointer .none]
  | 19 => .st 1 [(0, 1, 17)] [.pointer .none]
  | 20 => .one (.nilIface)
  | 21 => .one (.int .i32 0)
  | 22 => .one (.slice .none 0 0)
  | 23 => .one (.nilFunc)
  | 24 => .one (.nilFunc)
  | 25 => .one (.pointer .none)
  | 26 => .one (.slice .none 0 0)
  | 28 => .one (.nilFunc)
  | 29 => .one (.slice .none 0 0)
  | 30 => .one (.nilFunc)
  | 31 => .st 3 [(0, 1, 3), (1, 1, 3), (2, 1, 3)] [.int .i64 0, .int .i64 0, .int .i64 0]
  | 32 => .st 3 [(0, 1, 3), (1, 1, 3), (2, 1, 3)] [.int .i64 0, .int .i64 0, .int .i64 0]
  | 33 => .one (.nilFunc)
  | 34 => .st 2 [(0, 1, 3), (1, 1, 3)] [.int .i64 0, .int .i64 0]
  | 35 => .st 2 [(0, 1, 3), (1, 1, 3)] [.int .i64 0, .int .i64 0]
  | 36 => .one (.nilFunc)
  | 37 => .one (.nilFunc)
  | 38 => .one (.nilFunc)
  | 39 => .one (.nilFunc)
  | 40 => .st 3 [(0, 1, 3), (1, 1, 3), (2, 1, 3)] [.int .i64 0, .int .i64 0, .int .i64 0]
  | 41 => .st 3 [(0, 1, 3), (1, 1, 3), (2, 1, 3)] [.int .i64 0, .int .i64 0, .int .i64 0]
  | 42 => .one (.nilFunc)
  | 43 => .one (.nilFunc)
  | 45 => .one (.nilFunc)
  | 46 => .one (.nilFunc)
  | 47 => .one (.nilFunc)
  | 48 => .one (.nilFunc)
  | 49 => .one (.nilFunc)
  | 50 => .one (.nilFunc)
  | 51 => .one (.nilFunc)
  | 53 => .one (.nilFunc)
  | 54 => .st 2 [(0, 1, 3), (1, 1, 3)] [.int .i64 0, .int .i64 0]
  | 56 => .one (.nilFunc)
  | 57 => .one (.nilFunc)
  | 58 => .one (.nilFunc)
  | 59 => .one (.nilFunc)
  | 60 => .one (.nilFunc)
  | 61 => .one (.slice .none 0 0)
  | 62 => .one (.nilFunc)
  | 63 => .one (.nilFunc)
  | 64 => .one (.nilFunc)
  | 65 => .one (.nilFunc)
  | 66 => .one (.nilFunc)
  | 67 => .st 2 [(0, 1, 3), (1, 1, 3)] [.int .i64 0, .int .i64 0]
  | 68 => .st 2 [(0, 1, 3), (1, 1, 3)] [.int .i64 0, .int .i64 0]
  | 69 => .st 4 [] [.int .i64 0, .int .i64 0, .int .i64 0, .int .i64 0]
  | 70 => .st 2 [] [.int .i64 0, .int .i64 0]
  | 71 => .st 4 [(0, 2, 68), (2, 1, 4), (3, 1, 3)] [.int .i64 0, .int .i64 0, .bool false, .int .i64 0]
  | 72 => .st 4 [(0, 2, 68), (2, 1, 4), (3, 1, 3)] [.int .i64 0, .int .i64 0, .bool false, .int .i64 0]
  | 73 => .one (.pointer .none)
  | 74 => .one (.nilFunc)
  | 75 => .one (.nilFunc)
  | 76 => .one (.int .i64 0)
  | 78 => .one (.nilFunc)
  | 79 => .one (.nilFunc)
  | 80 => .one (.nilFunc)
  | 81 => .one (.nilFunc)
  | 82 => .one (.nilFunc)
  | 83 => .one (.nilFunc)
  | 84 => .one (.nilFunc)
  | 85 => .one (.slice .none 0 0)
  | 86 => .one (.slice .none 0 0)
  | 87 => .st 3 [(0, 1, 4), (1, 2, 68)] [.bool false, .int .i64 0, .int .i64 0]
  | 88 => .st 3 [(0, 1, 4), (1, 2, 68)] [.bool false, .int .i64 0, .int .i64 0]
  | 89 => .one (.nilFunc)
  | 90 => .one (.nilFunc)
  | 91 => .one (.nilFunc)
  | 92 => .one (.nilFunc)
  | 93 => .one (.nilFunc)
  | 94 => .one (.nilFunc)
  | 95 => .one (.nilFunc)
  | 96 => .one (.nilFunc)
  | 97 => .one (.pointer .none)
  | 98 => .st 2 [(0, 1, 3), (1, 1, 3)] [.int .i64 0, .int .i64 0]
  | 99 => .st 2 [(0, 1, 3), (1, 1, 3)] [.int .i64 0, .int .i64 0]
  | 100 => .st 3 [(0, 1, 97), (1, 2, 99)] [.pointer .none, .int .i64 0, .int .i64 0]
  | 101 => .st 3 [(0, 1, 97), (1, 2, 99)] [.pointer .none, .int .i64 0, .int .i64 0]
  | 102 => .one (.nilFunc)
  | 103 => .st 10 [(0, 2, 35), (2, 2, 99), (4, 2, 99), (6, 1, 3), (7, 3, 32)] [.int .i64 0, .int .i64 0, .int .i64 0, .int .i64 0, .int .i64 0, .int .i64 0, .int .i64 0, .int .i64 0, .int .i64 0, .int .i64 0]
  | 104 => .st 10 [(0, 2, 35), (2, 2, 99), (4, 2, 99), (6, 1, 3), (7, 3, 32)] [.int .i64 0, .int .i64 0, .int .i64 0, .int .i64 0, .int .i64 0, .int .i64 0, .int .i64 0, .int .i64 0, .int .i64 0, .int .i64 0]
  | 105 => .one (.nilFunc)
  | 107 => .one (.nilFunc)
  | 109 => .one (.nilFunc)
  | 110 => .one (.nilFunc)
  | 112 => .one (.nilFunc)
  | 113 => .one (.nilFunc)
  | 114 => .one (.nilFunc)
  | 115 => .one (.nilFunc)
  | 117 => .one (.nilFunc)
  | 118 => .one (.nilFunc)
  | 119 => .one (.nilFunc)
  | 120 => .one (.pointer .none)
  | 121 => .st 3 [(0, 1, 120), (1, 2, 99)] [.pointer .none, .int .i64 0, .int .i64 0]
  | 122 => .st 3 [(0, 1, 120), (1, 2, 99)] [.pointer .none, .int .i64 0, .int .i64 0]
  | 123 => .st 10 [(0, 4, 72), (4, 2, 99), (6, 2, 99), (8, 1, 3), (9, 1, 76)] [.int .i64 0, .int .i64 0, .bool false, .int .i64 0, .int .i64 0, .int .i64 0, .int .i64 0, .int .i64 0, .int .i64 0, .int .i64 0]
  | 124 => .st 10 [(0, 4, 72), (4, 2, 99), (6, 2, 99), (8, 1, 3), (9, 1, 76)] [.int .i64 0, .int .i64 0, .bool false, .int .i64 0, .int .i64 0, .int .i64 0, .int .i64 0, .int .i64 0, .int .i64 0, .int .i64 0]
  | 125 => .one (.nilFunc)
  | 126 => .one (.nilFunc)
  | 128 => .one (.nilFunc)
  | 129 => .one (.nilFunc)
  | 130 => .one (.slice .none 0 0)
  | 131 => .one (.nilFunc)
  | 132 => .one (.nilFunc)
  | 133 => .one (.nilFunc)
  | 134 => .one (.nilFunc)
  | 135 => .one (.slice .none 0 0)
  | 136 => .st 5 [(0, 1, 135), (1, 1, 29), (2, 1, 3), (3, 1, 3), (4, 1, 3)] [.slice .none 0 0, .slice .none 0 0, .int .i64 0, .int .i64 0, .int .i64 0]
  | 137 => .st 5 [(0, 1, 135), (1, 1, 29), (2, 1, 3), (3, 1, 3), (4, 1, 3)] [.slice .none 0 0, .slice .none 0 0, .int .i64 0, .int .i64 0, .int .i64 0]
  | 139 => .one (.nilFunc)
  | 140 => .one (.nilFunc)
  | 141 => .one (.nilFunc)
  | 142 => .one (.nilFunc)
  | 143 => .one (.nilFunc)
  | 144 => .one (.nilFunc)
  | 145 => .one (.nilFunc)
  | 146 => .one (.nilFunc)
  | 148 => .one (.nilFunc)
  | 149 => .one (.nilFunc)
  | 150 => .one (.nilFunc)
  | 151 => .one (.pointer .none)
  | 152 => .one (.nilFunc)
  | 153 => .st 12 [(0, 10, 104), (10, 1, 3), (11, 1, 4)] [.int .i64 0, .int .i64 0, .int .i64 0, .int .i64 0, .int .i64 0, .int .i64 0, .int .i64 0, .int .i64 0, .int .i64 0, .int .i64 0, .int .i64 0, .bool false]
  | 154 => .st 12 [(0, 10, 104), (10, 1, 3), (11, 1, 4)] [.int .i64 0, .int .i64 0, .int .i64 0, .int .i64 0, .int .i64 0, .int .i64 0, .int .i64 0, .int .i64 0, .int .i64 0, .int .i64 0, .int .i64 0, .bool false]
  | 155 => .one (.nilFunc)
  | 156 => .one (.slice .none 0 0)
  | 157 => .st 5 [(0, 1, 156), (1, 1, 29), (2, 1, 3), (3, 1, 3), (4, 1, 3)] [.slice .none 0 0, .slice .none 0 0, .int .i64 0, .int .i64 0, .int .i64 0]
  | 158 => .st 5 [(0, 1, 156), (1, 1, 29), (2, 1, 3), (3, 1, 3), (4, 1, 3)] [.slice .none 0 0, .slice .none 0 0, .int .i64 0, .int .i64 0, .int .i64 0]
  | 159 => .one (.pointer .none)
  | 160 => .st 12 [(0, 10, 124), (10, 1, 3), (11, 1, 4)] [.int .i64 0, .int .i64 0, .bool false, .int .i64 0, .int .i64 0, .int .i64 0, .int .i64 0, .int .i64 0, .int .i64 0, .int .i64 0, .int .i64 0, .bool false]
  | 161 => .st 12 [(0, 10, 124), (10, 1, 3), (11, 1, 4)] [.int .i64 0, .int .i64 0, .bool false, .int .i64 0, .int .i64 0, .int .i64 0, .int .i64 0, .int .i64 0, .int .i64 0, .int .i64 0, .int .i64 0, .bool false]
  | 162 => .one (.nilFunc)
  | 163 => .one (.nilFunc)
  | 164 => .one (.nilFunc)
  | 165 => .st 4 [(0, 1, 17), (1, 1, 17), (2, 1, 17), (3, 1, 9)] [.pointer .none, .pointer .none, .pointer .none, .string ⟨#[]⟩]
  | 166 => .st 4 [(0, 1, 17), (1, 1, 17), (2, 1, 17), (3, 1, 9)] [.pointer .none, .pointer .none, .pointer .none, .string ⟨#[]⟩]
  | 170 => .one (.int .u32 0)
  | 171 => .one (.int .u8 0)
  | 172 => .one (.int .u8 0)
  | 173 => .one (.nilFunc)
  | 174 => .one (.pointer .none)
  | 175 => .one (.int .i32 0)
  | 176 => .one (.int .i32 0)
  | 177 => .st 11 [(0, 1, 12), (1, 1, 12), (2, 1, 170), (3, 1, 171), (4, 1, 5), (5, 1, 5), (6, 1, 172), (7, 1, 173), (8, 1, 174), (9, 1, 175), (10, 1, 176)] [.int .u64 0, .int .u64 0, .int .u32 0, .int .u8 0, .int .u8 0, .int .u8 0, .int .u8 0, .nilFunc, .pointer .none, .int .i32 0, .int .i32 0]
  | 178 => .st 11 [(0, 1, 12), (1, 1, 12), (2, 1, 170), (3, 1, 171), (4, 1, 5), (5, 1, 5), (6, 1, 172), (7, 1, 173), (8, 1, 174), (9, 1, 175), (10, 1, 176)] [.int .u64 0, .int .u64 0, .int .u32 0, .int .u8 0, .int .u8 0, .int .u8 0, .int .u8 0, .nilFunc, .pointer .none, .int .i32 0, .int .i32 0]
  | 179 => .one (.nilFunc)
  | 180 => .one (.nilFunc)
  | 181 => .one (.nilFunc)
  | 182 => .one (.nilFunc)
  | 183 => .one (.nilFunc)
  | 184 => .one (.nilFunc)
  | 185 => .one (.nilFunc)
  | 186 => .one (.nilFunc)
  | 187 => .one (.pointer .none)
  | 188 => .one (.nilFunc)
  | _ => .none
theorem tysB : (List.range 189).all (fun T => tyB Try.prog T (tysF T)) = true := by kernel_rfl
/-- The table of types. -/
def Y : Tys Try.prog := ⟨fun T => match Nat.blt T 189 with | true => tysF T | false => .none, fun T => by
  cases h : Nat.blt T 189 with
  | true =>
    rw [Nat.blt_eq] at h
    exact tyOk_of (List.all_eq_true.1 tysB T (List.mem_range.2 h))
  | false => trivial⟩
def cfL : List Nat := [3, 4, 5, 6, 7, 8, 9, 10, 11, 12, 13, 14, 15, 16, 17, 18, 19, 20, 21, 22, 23, 24, 25, 26, 27, 28, 29, 30, 31, 32, 33, 34, 35, 36, 37, 38, 39, 40, 41, 42, 43, 44, 45, 46, 47, 48, 49, 50, 51, 52, 53, 54, 55, 56, 57, 58, 59, 60, 61, 62, 63, 64, 65, 66, 67, 68, 69, 70, 71, 72, 73, 74, 75, 76, 77, 78, 79, 80, 81, 82, 83, 84, 85, 86, 87, 88, 89, 90, 91, 92, 93, 94, 95, 96, 97, 98, 99, 100, 101, 102, 103, 104, 105, 106, 107, 108, 109, 110, 111, 112, 113, 130, 131, 132, 133]
theorem cfB : cfL.all (fun f => fnB Try.prog f) = true := by kernel_rfl
theorem cf (f : Nat) (h : cfL.contains f = true) : fnB Try.prog f = true := List.all_eq_true.1 cfB f (by simpa using h)
theorem mixed : Try.prog.follows .mixedOrders = true := by kernel_rfl
theorem t1 : Y.f 1 = .one (.nilFunc) := by kernel_rfl
theorem t2 : Y.f 2 = .one (.int .i64 0) := by kernel_rfl
theorem t3 : Y.f 3 = .one (.int .i64 0) := by kernel_rfl
theorem t4 : Y.f 4 = .one (.bool false) := by kernel_rfl
theorem t5 : Y.f 5 = .one (.int .u8 0) := by kernel_rfl
theorem t6 : Y.f 6 = .one (.int .u8 0) := by kernel_rfl
theorem t7 : Y.f 7 = .st 4 [(0, 1, 2), (1, 1, 3), (2, 1, 4), (3, 1, 6)] [.int .i64 0, .int .i64 0, .bool false, .int .u8 0] := by kernel_rfl
theorem t8 : Y.f 8 = .st 4 [(0, 1, 2), (1, 1, 3), (2, 1, 4), (3, 1, 6)] [.int .i64 0, .int .i64 0, .bool false, .int .u8 0] := by kernel_rfl
theorem t9 : Y.f 9 = .one (.string ⟨#[]⟩) := by kernel_rfl
theorem t10 : Y.f 10 = .one (.string ⟨#[]⟩) := by kernel_rfl
theorem t11 : Y.f 11 = .one (.string ⟨#[]⟩) := by kernel_rfl
theorem t12 : Y.f 12 = .one (.int .u64 0) := by kernel_rfl
theorem t13 : Y.f 13 = .st 2 [(0, 1, 9), (1, 1, 12)] [.string ⟨#[]⟩, .int .u64 0] := by kernel_rfl
theorem t14 : Y.f 14 = .st 2 [(0, 1, 9), (1, 1, 12)] [.string ⟨#[]⟩, .int .u64 0] := by kernel_rfl
theorem t15 : Y.f 15 = .one (.pointer .none) := by kernel_rfl
theorem t16 : Y.f 16 = .one (.pointer .none) := by kernel_rfl
theorem t17 : Y.f 17 = .one (.pointer .none) := by kernel_rfl
theorem t18 : Y.f 18 = .st 1 [(0, 1, 17)] [.pointer .none] := by kernel_rfl
theorem t19 : Y.f 19 = .st 1 [(0, 1, 17)] [.pointer .none] := by kernel_rfl
theorem t20 : Y.f 20 = .one (.nilIface) := by kernel_rfl
theorem t21 : Y.f 21 = .one (.int .i32 0) := by kernel_rfl
theorem t22 : Y.f 22 = .one (.slice .none 0 0) := by kernel_rfl
theorem t23 : Y.f 23 = .one (.nilFunc) := by kernel_rfl
theorem t24 : Y.f 24 = .one (.nilFunc) := by kernel_rfl
theorem t25 : Y.f 25 = .one (.pointer .none) := by kernel_rfl
theorem t26 : Y.f 26 = .one (.slice .none 0 0) := by kernel_rfl
theorem t28 : Y.f 28 = .one (.nilFunc) := by kernel_rfl
theorem t29 : Y.f 29 = .one (.slice .none 0 0) := by kernel_rfl
theorem t30 : Y.f 30 = .one (.nilFunc) := by kernel_rfl
theorem t31 : Y.f 31 = .st 3 [(0, 1, 3), (1, 1, 3), (2, 1, 3)] [.int .i64 0, .int .i64 0, .int .i64 0] := by kernel_rfl
theorem t32 : Y.f 32 = .st 3 [(0, 1, 3), (1, 1, 3), (2, 1, 3)] [.int .i64 0, .int .i64 0, .int .i64 0] := by kernel_rfl
theorem t33 : Y.f 33 = .one (.nilFunc) := by kernel_rfl
theorem t34 : Y.f 34 = .st 2 [(0, 1, 3), (1, 1, 3)] [.int .i64 0, .int .i64 0] := by kernel_rfl
theorem t35 : Y.f 35 = .st 2 [(0, 1, 3), (1, 1, 3)] [.int .i64 0, .int .i64 0] := by kernel_rfl
theorem t36 : Y.f 36 = .one (.nilFunc) := by kernel_rfl
theorem t37 : Y.f 37 = .one (.nilFunc) := by kernel_rfl
theorem t38 : Y.f 38 = .one (.nilFunc) := by kernel_rfl
theorem t39 : Y.f 39 = .one (.nilFunc) := by kernel_rfl
theorem t40 : Y.f 40 = .st 3 [(0, 1, 3), (1, 1, 3), (2, 1, 3)] [.int .i64 0, .int .i64 0, .int .i64 0] := by kernel_rfl
theorem t41 : Y.f 41 = .st 3 [(0, 1, 3), (1, 1, 3), (2, 1, 3)] [.int .i64 0, .int .i64 0, .int .i64 0] := by kernel_rfl
theorem t42 : Y.f 42 = .one (.nilFunc) := by kernel_rfl
theorem t43 : Y.f 43 = .one (.nilFunc) := by kernel_rfl
theorem t45 : Y.f 45 = .one (.nilFunc) := by kernel_rfl
theorem t46 : Y.f 46 = .one (.nilFunc) := by kernel_rfl
theorem t47 : Y.f 47 = .one (.nilFunc) := by kernel_rfl
theorem t48 : Y.f 48 = .one (.nilFunc) := by kernel_rfl
theorem t49 : Y.f 49 = .one (.nilFunc) := by kernel_rfl
theorem t50 : Y.f 50 = .one (.nilFunc) := by kernel_rfl
theorem t51 : Y.f 51 = .one (.nilFunc) := by kernel_rfl
theorem t53 : Y.f 53 = .one (.nilFunc) := by kernel_rfl
theorem t54 : Y.f 54 = .st 2 [(0, 1, 3), (1, 1, 3)] [.int .i64 0, .int .i64 0] := by kernel_rfl
theorem t56 : Y.f 56 = .one (.nilFunc) := by kernel_rfl
theorem t57 : Y.f 57 = .one (.nilFunc) := by kernel_rfl
theorem t58 : Y.f 58 = .one (.nilFunc) := by kernel_rfl
theorem t59 : Y.f 59 = .one (.nilFunc) := by kernel_rfl
theorem t60 : Y.f 60 = .one (.nilFunc) := by kernel_rfl
theorem t61 : Y.f 61 = .one (.slice .none 0 0) := by kernel_rfl
theorem t62 : Y.f 62 = .one (.nilFunc) := by kernel_rfl
theorem t63 : Y.f 63 = .one (.nilFunc) := by kernel_rfl
theorem t64 : Y.f 64 = .one (.nilFunc) := by kernel_rfl
theorem t65 : Y.f 65 = .one (.nilFunc) := by kernel_rfl
theorem t66 : Y.f 66 = .one (.nilFunc) := by kernel_rfl
theorem t67 : Y.f 67 = .st 2 [(0, 1, 3), (1, 1, 3)] [.int .i64 0, .int .i64 0] := by kernel_rfl
theorem t68 : Y.f 68 = .st 2 [(0, 1, 3), (1, 1, 3)] [.int .i64 0, .int .i64 0] := by kernel_rfl
theorem t69 : Y.f 69 = .st 4 [] [.int .i64 0, .int .i64 0, .int .i64 0, .int .i64 0] := by kernel_rfl
theorem t70 : Y.f 70 = .st 2 [] [.int .i64 0, .int .i64 0] := by kernel_rfl
theorem t71 : Y.f 71 = .st 4 [(0, 2, 68), (2, 1, 4), (3, 1, 3)] [.int .i64 0, .int .i64 0, .bool false, .int .i64 0] := by kernel_rfl
theorem t72 : Y.f 72 = .st 4 [(0, 2, 68), (2, 1, 4), (3, 1, 3)] [.int .i64 0, .int .i64 0, .bool false, .int .i64 0] := by kernel_rfl
theorem t73 : Y.f 73 = .one (.pointer .none) := by kernel_rfl
theorem t74 : Y.f 74 = .one (.nilFunc) := by kernel_rfl
theorem t75 : Y.f 75 = .one (.nilFunc) := by kernel_rfl
theorem t76 : Y.f 76 = .one (.int .i64 0) := by kernel_rfl
theorem t78 : Y.f 78 = .one (.nilFunc) := by kernel_rfl
theorem t79 : Y.f 79 = .one (.nilFunc) := by kernel_rfl
theorem t80 : Y.f 80 = .one (.nilFunc) := by kernel_rfl
theorem t81 : Y.f 81 = .one (.nilFunc) := by kernel_rfl
theorem t82 : Y.f 82 = .one (.nilFunc) := by kernel_rfl
theorem t83 : Y.f 83 = .one (.nilFunc) := by kernel_rfl
theorem t84 : Y.f 84 = .one (.nilFunc) := by kernel_rfl
theorem t85 : Y.f 85 = .one (.slice .none 0 0) := by kernel_rfl
theorem t86 : Y.f 86 = .one (.slice .none 0 0) := by kernel_rfl
theorem t87 : Y.f 87 = .st 3 [(0, 1, 4), (1, 2, 68)] [.bool false, .int .i64 0, .int .i64 0] := by kernel_rfl
theorem t88 : Y.f 88 = .st 3 [(0, 1, 4), (1, 2, 68)] [.bool false, .int .i64 0, .int .i64 0] := by kernel_rfl
theorem t89 : Y.f 89 = .one (.nilFunc) := by kernel_rfl
theorem t90 : Y.f 90 = .one (.nilFunc) := by kernel_rfl
theorem t91 : Y.f 91 = .one (.nilFunc) := by kernel_rfl
theorem t92 : Y.f 92 = .one (.nilFunc) := by kernel_rfl
theorem t93 : Y.f 93 = .one (.nilFunc) := by kernel_rfl
theorem t94 : Y.f 94 = .one (.nilFunc) := by kernel_rfl
theorem t95 : Y.f 95 = .one (.nilFunc) := by kernel_rfl
theorem t96 : Y.f 96 = .one (.nilFunc) := by kernel_rfl
theorem t97 : Y.f 97 = .one (.pointer .none) := by kernel_rfl
theorem t98 : Y.f 98 = .st 2 [(0, 1, 3), (1, 1, 3)] [.int .i64 0, .int .i64 0] := by kernel_rfl
theorem t99 : Y.f 99 = .st 2 [(0, 1, 3), (1, 1, 3)] [.int .i64 0, .int .i64 0] := by kernel_rfl
theorem t100 : Y.f 100 = .st 3 [(0, 1, 97), (1, 2, 99)] [.pointer .none, .int .i64 0, .int .i64 0] := by kernel_rfl
theorem t101 : Y.f 101 = .st 3 [(0, 1, 97), (1, 2, 99)] [.pointer .none, .int .i64 0, .int .i64 0] := by kernel_rfl
theorem t102 : Y.f 102 = .one (.nilFunc) := by kernel_rfl
theorem t103 : Y.f 103 = .st 10 [(0, 2, 35), (2, 2, 99), (4, 2, 99), (6, 1, 3), (7, 3, 32)] [.int .i64 0, .int .i64 0, .int .i64 0, .int .i64 0, .int .i64 0, .int .i64 0, .int .i64 0, .int .i64 0, .int .i64 0, .int .i64 0] := by kernel_rfl
theorem t104 : Y.f 104 = .st 10 [(0, 2, 35), (2, 2, 99), (4, 2, 99), (6, 1, 3), (7, 3, 32)] [.int .i64 0, .int .i64 0, .int .i64 0, .int .i64 0, .int .i64 0, .int .i64 0, .int .i64 0, .int .i64 0, .int .i64 0, .int .i64 0] := by kernel_rfl
theorem t105 : Y.f 105 = .one (.nilFunc) := by kernel_rfl
theorem t107 : Y.f 107 = .one (.nilFunc) := by kernel_rfl
theorem t109 : Y.f 109 = .one (.nilFunc) := by kernel_rfl
theorem t110 : Y.f 110 = .one (.nilFunc) := by kernel_rfl
theorem t112 : Y.f 112 = .one (.nilFunc) := by kernel_rfl
theorem t113 : Y.f 113 = .one (.nilFunc) := by kernel_rfl
theorem t114 : Y.f 114 = .one (.nilFunc) := by kernel_rfl
theorem t115 : Y.f 115 = .one (.nilFunc) := by kernel_rfl
theorem t117 : Y.f 117 = .one (.nilFunc) := by kernel_rfl
theorem t118 : Y.f 118 = .one (.nilFunc) := by kernel_rfl
theorem t119 : Y.f 119 = .one (.nilFunc) := by kernel_rfl
theorem t120 : Y.f 120 = .one (.pointer .none) := by kernel_rfl
theorem t121 : Y.f 121 = .st 3 [(0, 1, 120), (1, 2, 99)] [.pointer .none, .int .i64 0, .int .i64 0] := by kernel_rfl
theorem t122 : Y.f 122 = .st 3 [(0, 1, 120), (1, 2, 99)] [.pointer .none, .int .i64 0, .int .i64 0] := by kernel_rfl
theorem t123 : Y.f 123 = .st 10 [(0, 4, 72), (4, 2, 99), (6, 2, 99), (8, 1, 3), (9, 1, 76)] [.int .i64 0, .int .i64 0, .bool false, .int .i64 0, .int .i64 0, .int .i64 0, .int .i64 0, .int .i64 0, .int .i64 0, .int .i64 0] := by kernel_rfl
theorem t124 : Y.f 124 = .st 10 [(0, 4, 72), (4, 2, 99), (6, 2, 99), (8, 1, 3), (9, 1, 76)] [.int .i64 0, .int .i64 0, .bool false, .int .i64 0, .int .i64 0, .int .i64 0, .int .i64 0, .int .i64 0, .int .i64 0, .int .i64 0] := by kernel_rfl
theorem t125 : Y.f 125 = .one (.nilFunc) := by kernel_rfl
theorem t126 : Y.f 126 = .one (.nilFunc) := by kernel_rfl
theorem t128 : Y.f 128 = .one (.nilFunc) := by kernel_rfl
theorem t129 : Y.f 129 = .one (.nilFunc) := by kernel_rfl
theorem t130 : Y.f 130 = .one (.slice .none 0 0) := by kernel_rfl
theorem t131 : Y.f 131 = .one (.nilFunc) := by kernel_rfl
theorem t132 : Y.f 132 = .one (.nilFunc) := by kernel_rfl
theorem t133 : Y.f 133 = .one (.nilFunc) := by kernel_rfl
theorem t134 : Y.f 134 = .one (.nilFunc) := by kernel_rfl
theorem t135 : Y.f 135 = .one (.slice .none 0 0) := by kernel_rfl
theorem t136 : Y.f 136 = .st 5 [(0, 1, 135), (1, 1, 29), (2, 1, 3), (3, 1, 3), (4, 1, 3)] [.slice .none 0 0, .slice .none 0 0, .int .i64 0, .int .i64 0, .int .i64 0] := by kernel_rfl
theorem t137 : Y.f 137 = .st 5 [(0, 1, 135), (1, 1, 29), (2, 1, 3), (3, 1, 3), (4, 1, 3)] [.slice .none 0 0, .slice .none 0 0, .int .i64 0, .int .i64 0, .int .i64 0] := by kernel_rfl
theorem t139 : Y.f 139 = .one (.nilFunc) := by kernel_rfl
theorem t140 : Y.f 140 = .one (.nilFunc) := by kernel_rfl
theorem t141 : Y.f 141 = .one (.nilFunc) := by kernel_rfl
theorem t142 : Y.f 142 = .one (.nilFunc) := by kernel_rfl
theorem t143 : Y.f 143 = .one (.nilFunc) := by kernel_rfl
theorem t144 : Y.f 144 = .one (.nilFunc) := by kernel_rfl
theorem t145 : Y.f 145 = .one (.nilFunc) := by kernel_rfl
theorem t146 : Y.f 146 = .one (.nilFunc) := by kernel_rfl
theorem t148 : Y.f 148 = .one (.nilFunc) := by kernel_rfl
theorem t149 : Y.f 149 = .one (.nilFunc) := by kernel_rfl
theorem t150 : Y.f 150 = .one (.nilFunc) := by kernel_rfl
theorem t151 : Y.f 151 = .one (.pointer .none) := by kernel_rfl
theorem t152 : Y.f 152 = .one (.nilFunc) := by kernel_rfl
theorem t153 : Y.f 153 = .st 12 [(0, 10, 104), (10, 1, 3), (11, 1, 4)] [.int .i64 0, .int .i64 0, .int .i64 0, .int .i64 0, .int .i64 0, .int .i64 0, .int .i64 0, .int .i64 0, .int .i64 0, .int .i64 0, .int .i64 0, .bool false] := by kernel_rfl
theorem t154 : Y.f 154 = .st 12 [(0, 10, 104), (10, 1, 3), (11, 1, 4)] [.int .i64 0, .int .i64 0, .int .i64 0, .int .i64 0, .int .i64 0, .int .i64 0, .int .i64 0, .int .i64 0, .int .i64 0, .int .i64 0, .int .i64 0, .bool false] := by kernel_rfl
theorem t155 : Y.f 155 = .one (.nilFunc) := by kernel_rfl
theorem t156 : Y.f 156 = .one (.slice .none 0 0) := by kernel_rfl
theorem t157 : Y.f 157 = .st 5 [(0, 1, 156), (1, 1, 29), (2, 1, 3), (3, 1, 3), (4, 1, 3)] [.slice .none 0 0, .slice .none 0 0, .int .i64 0, .int .i64 0, .int .i64 0] := by kernel_rfl
theorem t158 : Y.f 158 = .st 5 [(0, 1, 156), (1, 1, 29), (2, 1, 3), (3, 1, 3), (4, 1, 3)] [.slice .none 0 0, .slice .none 0 0, .int .i64 0, .int .i64 0, .int .i64 0] := by kernel_rfl
theorem t159 : Y.f 159 = .one (.pointer .none) := by kernel_rfl
theorem t160 : Y.f 160 = .st 12 [(0, 10, 124), (10, 1, 3), (11, 1, 4)] [.int .i64 0, .int .i64 0, .bool false, .int .i64 0, .int .i64 0, .int .i64 0, .int .i64 0, .int .i64 0, .int .i64 0, .int .i64 0, .int .i64 0, .bool false] := by kernel_rfl
theorem t161 : Y.f 161 = .st 12 [(0, 10, 124), (10, 1, 3), (11, 1, 4)] [.int .i64 0, .int .i64 0, .bool false, .int .i64 0, .int .i64 0, .int .i64 0, .int .i64 0, .int .i64 0, .int .i64 0, .int .i64 0, .int .i64 0, .bool false] := by kernel_rfl
theorem t162 : Y.f 162 = .one (.nilFunc) := by kernel_rfl
theorem t163 : Y.f 163 = .one (.nilFunc) := by kernel_rfl
theorem t164 : Y.f 164 = .one (.nilFunc) := by kernel_rfl
theorem t165 : Y.f 165 = .st 4 [(0, 1, 17), (1, 1, 17), (2, 1, 17), (3, 1, 9)] [.pointer .none, .pointer .none, .pointer .none, .string ⟨#[]⟩] := by kernel_rfl
theorem t166 : Y.f 166 = .st 4 [(0, 1, 17), (1, 1, 17), (2, 1, 17), (3, 1, 9)] [.pointer .none, .pointer .none, .pointer .none, .string ⟨#[]⟩] := by kernel_rfl
theorem t170 : Y.f 170 = .one (.int .u32 0) := by kernel_rfl
theorem t171 : Y.f 171 = .one (.int .u8 0) := by kernel_rfl
theorem t172 : Y.f 172 = .one (.int .u8 0) := by kernel_rfl
theorem t173 : Y.f 173 = .one (.nilFunc) := by kernel_rfl
theorem t174 : Y.f 174 = .one (.pointer .none) := by kernel_rfl
theorem t175 : Y.f 175 = .one (.int .i32 0) := by kernel_rfl
theorem t176 : Y.f 176 = .one (.int .i32 0) := by kernel_rfl
theorem t177 : Y.f 177 = .st 11 [(0, 1, 12), (1, 1, 12), (2, 1, 170), (3, 1, 171), (4, 1, 5), (5, 1, 5), (6, 1, 172), (7, 1, 173), (8, 1, 174), (9, 1, 175), (10, 1, 176)] [.int .u64 0, .int .u64 0, .int .u32 0, .int .u8 0, .int .u8 0, .int .u8 0, .int .u8 0, .nilFunc, .pointer .none, .int .i32 0, .int .i32 0] := by kernel_rfl
theorem t178 : Y.f 178 = .st 11 [(0, 1, 12), (1, 1, 12), (2, 1, 170), (3, 1, 171), (4, 1, 5), (5, 1, 5), (6, 1, 172), (7, 1, 173), (8, 1, 174), (9, 1, 175), (10, 1, 176)] [.int .u64 0, .int .u64 0, .int .u32 0, .int .u8 0, .int .u8 0, .int .u8 0, .int .u8 0, .nilFunc, .pointer .none, .int .i32 0, .int .i32 0] := by kernel_rfl
theorem t179 : Y.f 179 = .one (.nilFunc) := by kernel_rfl
theorem t180 : Y.f 180 = .one (.nilFunc) := by kernel_rfl
theorem t181 : Y.f 181 = .one (.nilFunc) := by kernel_rfl
theorem t182 : Y.f 182 = .one (.nilFunc) := by kernel_rfl
theorem t183 : Y.f 183 = .one (.nilFunc) := by kernel_rfl
theorem t184 : Y.f 184 = .one (.nilFunc) := by kernel_rfl
theorem t185 : Y.f 185 = .one (.nilFunc) := by kernel_rfl
theorem t186 : Y.f 186 = .one (.nilFunc) := by kernel_rfl
theorem t187 : Y.f 187 = .one (.pointer .none) := by kernel_rfl
theorem t188 : Y.f 188 = .one (.nilFunc) := by kernel_rfl
theorem el22 : El Try.prog 22 41 3 24 := el_of (by kernel_rfl)
theorem el26 : El Try.prog 26 54 2 16 := el_of (by kernel_rfl)
theorem el29 : El Try.prog 29 3 1 8 := el_of (by kernel_rfl)
theorem cmp31 : cmpB Try.prog 31 [true, true, true] = true := by kernel_rfl
theorem cmp32 : cmpB Try.prog 32 [true, true, true] = true := by kernel_rfl
theorem cmp34 : cmpB Try.prog 34 [true, true] = true := by kernel_rfl
theorem cmp35 : cmpB Try.prog 35 [true, true] = true := by kernel_rfl
theorem cmp40 : cmpB Try.prog 40 [true, true, true] = true := by kernel_rfl
theorem cmp41 : cmpB Try.prog 41 [true, true, true] = true := by kernel_rfl
theorem cmp54 : cmpB Try.prog 54 [true, true] = true := by kernel_rfl
theorem el61 : El Try.prog 61 35 2 16 := el_of (by kernel_rfl)
theorem cmp67 : cmpB Try.prog 67 [true, true] = true := by kernel_rfl
theorem cmp68 : cmpB Try.prog 68 [true, true] = true := by kernel_rfl
theorem tA69 : ArrT Try.prog 69 2 68 2 [.int .i64 0, .int .i64 0, .int .i64 0, .int .i64 0] := arr_of (by kernel_rfl)
theorem tA70 : ArrT Try.prog 70 2 3 1 [.int .i64 0, .int .i64 0] := arr_of (by kernel_rfl)
theorem cmp71 : cmpB Try.prog 71 [true, true, false, true] = true := by kernel_rfl
theorem cmp72 : cmpB Try.prog 72 [true, true, false, true] = true := by kernel_rfl
theorem el85 : El Try.prog 85 88 3 24 := el_of (by kernel_rfl)
theorem el86 : El Try.prog 86 68 2 16 := el_of (by kernel_rfl)
theorem cmp87 : cmpB Try.prog 87 [false, true, true] = true := by kernel_rfl
theorem cmp88 : cmpB Try.prog 88 [false, true, true] = true := by kernel_rfl
theorem cmp98 : cmpB Try.prog 98 [true, true] = true := by kernel_rfl
theorem cmp99 : cmpB Try.prog 99 [true, true] = true := by kernel_rfl
theorem cmp103 : cmpB Try.prog 103 [true, true, true, true, true, true, true, true, true, true] = true := by kernel_rfl
theorem cmp104 : cmpB Try.prog 104 [true, true, true, true, true, true, true, true, true, true] = true := by kernel_rfl
theorem cmp123 : cmpB Try.prog 123 [true, true, false, true, true, true, true, true, true, true] = true := by kernel_rfl
theorem cmp124 : cmpB Try.prog 124 [true, true, false, true, true, true, true, true, true, true] = true := by kernel_rfl
theorem el130 : El Try.prog 130 72 4 32 := el_of (by kernel_rfl)
theorem el135 : El Try.prog 135 154 12 96 := el_of (by kernel_rfl)
theorem cmp153 : cmpB Try.prog 153 [true, true, true, true, true, true, true, true, true, true, true, false] = true := by kernel_rfl
theorem cmp154 : cmpB Try.prog 154 [true, true, true, true, true, true, true, true, true, true, true, false] = true := by kernel_rfl
theorem el156 : El Try.prog 156 161 12 96 := el_of (by kernel_rfl)
theorem cmp160 : cmpB Try.prog 160 [true, true, false, true, true, true, true, true, true, true, true, false] = true := by kernel_rfl
theorem cmp161 : cmpB Try.prog 161 [true, true, false, true, true, true, true, true, true, true, true, false] = true := by kernel_rfl
end Go.Proofs.Ytjokolmijhhinaa

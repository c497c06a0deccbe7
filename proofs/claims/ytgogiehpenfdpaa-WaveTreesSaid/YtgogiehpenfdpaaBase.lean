/- The seat's tables: what its types are, which functions have bodies; checked against the program by the kernel. -/
import Derived.Test.YtgogiehpenfdpaaSxu
import Derived.Test.YtgogiehpenfdpaaProg
import Derived.KernelRfl
namespace Go.Proofs.Ytgogiehpenfdpaa
open Go Go.Proofs.Ytgogiehpenfdpaa.Sx
set_option linter.unusedVariables false
def tysF : TypeId → TyI
  | 1 => .one (.nilFunc)
  | 2 => .one (.int .i64 0)
  | 3 => .one (.int .i64 0)
  | 4 => .one (.bool false)
  | 5 => .one (.int .u8 0)
  | 6 => .one (.int .u8 0)
  | 7 => .st 4 [(0, 1, 2), (1, 1, 3), (2, 1, 4), (3, 1, 6)] [.int .i64 0, .int .i64 0, .bool false, .int .u8 0]
  | 8 => .st 4 [(0, 1, 2), (1, 1, 3), (2, 1, 4), (3, 1, 6)] [.int .i64 0, .int .i64 0, .bool false, .int .u8 0]
  | 9 => .one (.string ⟨#[]⟩)
  | 10 => .one (.string ⟨#[]⟩)
  | 11 => .one (.string ⟨#[]⟩)
  | 12 => .one (.int .u64 0)
  | 13 => .st 2 [(0, 1, 9), (1, 1, 12)] [.string ⟨#[]⟩, .int .u64 0]
  | 14 => .st 2 [(0, 1, 9), (1, 1, 12)] [.string ⟨#[]⟩, .int .u64 0]
  | 15 => .one (.pointer .none)
  | 16 => .one (.pointer .none)
  | 17 => .one (.pointer .none)
  | 18 => .st 1 [(0, 1, 17)] [.pointer .none]
  | 19 => .st 1 [(0, 1, 17)] [.pointer .none]
  | 20 => .one (.nilIface)
  | 21 => .one (.int .i32 0)
  | 22 => .one (.nilFunc)
  | 23 => .one (.pointer .none)
  | 24 => .one (.nilFunc)
  | 25 => .one (.nilFunc)
  | 26 => .one (.slice .none 0 0)
  | 27 => .one (.slice .none 0 0)
  | 28 => .st 6 [(0, 1, 26), (1, 1, 26), (2, 1, 27), (3, 1, 26), (4, 1, 3), (5, 1, 3)] [.slice .none 0 0, .slice .none 0 0, .slice .none 0 0, .slice .none 0 0, .int .i64 0, .int .i64 0]
  | 29 => .st 6 [(0, 1, 26), (1, 1, 26), (2, 1, 27), (3, 1, 26), (4, 1, 3), (5, 1, 3)] [.slice .none 0 0, .slice .none 0 0, .slice .none 0 0, .slice .none 0 0, .int .i64 0, .int .i64 0]
  | 30 => .one (.pointer .none)
  | 31 => .one (.nilFunc)
  | 32 => .one (.nilFunc)
  | 33 => .one (.slice .none 0 0)
  | 34 => .one (.pointer .none)
  | 35 => .one (.nilFunc)
  | 36 => .st 2 [(0, 1, 3), (1, 1, 3)] [.int .i64 0, .int .i64 0]
  | 37 => .st 2 [(0, 1, 3), (1, 1, 3)] [.int .i64 0, .int .i64 0]
  | 38 => .one (.slice .none 0 0)
  | 39 => .st 2 [(0, 1, 3), (1, 1, 3)] [.int .i64 0, .int .i64 0]
  | 40 => .st 2 [(0, 1, 3), (1, 1, 3)] [.int .i64 0, .int .i64 0]
  | 42 => .one (.nilFunc)
  | 43 => .one (.nilFunc)
  | 45 => .one (.nilFunc)
  | 46 => .one (.nilFunc)
  | 47 => .one (.slice .none 0 0)
  | 48 => .one (.pointer .none)
  | 49 => .one (.nilFunc)
  | 50 => .one (.nilFunc)
  | 52 => .one (.nilFunc)
  | 53 => .one (.nilFunc)
  | 54 => .one (.nilFunc)
  | 55 => .one (.slice .none 0 0)
  | 56 => .one (.nilFunc)
  | 57 => .st 5 [(0, 1, 3), (1, 1, 3), (2, 1, 4), (3, 2, 40)] [.int .i64 0, .int .i64 0, .bool false, .int .i64 0, .int .i64 0]
  | 58 => .st 5 [(0, 1, 3), (1, 1, 3), (2, 1, 4), (3, 2, 40)] [.int .i64 0, .int .i64 0, .bool false, .int .i64 0, .int .i64 0]
  | 59 => .one (.nilFunc)
  | 60 => .one (.slice .none 0 0)
  | 61 => .one (.nilFunc)
  | 62 => .st 3 [(0, 1, 3), (1, 1, 3), (2, 1, 3)] [.int .i64 0, .int .i64 0, .int .i64 0]
  | 63 => .st 3 [(0, 1, 3), (1, 1, 3), (2, 1, 3)] [.int .i64 0, .int .i64 0, .int .i64 0]
  | 64 => .st 3 [(0, 1, 4), (1, 2, 37)] [.bool false, .int .i64 0, .int .i64 0]
  | 65 => .st 3 [(0, 1, 4), (1, 2, 37)] [.bool false, .int .i64 0, .int .i64 0]
  | 66 => .st 16 [(0, 3, 63), (3, 3, 63), (6, 1, 3), (7, 1, 3), (8, 2, 37), (10, 3, 65), (13, 3, 65)] [.int .i64 0, .int .i64 0, .int .i64 0, .int .i64 0, .int .i64 0, .int .i64 0, .int .i64 0, .int .i64 0, .int .i64 0, .int .i64 0, .bool false, .int .i64 0, .int .i64 0, .bool false, .int .i64 0, .int .i64 0]
  | 67 => .st 16 [(0, 3, 63), (3, 3, 63), (6, 1, 3), (7, 1, 3), (8, 2, 37), (10, 3, 65), (13, 3, 65)] [.int .i64 0, .int .i64 0, .int .i64 0, .int .i64 0, .int .i64 0, .int .i64 0, .int .i64 0, .int .i64 0, .int .i64 0, .int .i64 0, .bool false, .int .i64 0, .int .i64 0, .bool false, .int .i64 0, .int .i64 0]
  | 68 => .one (.nilFunc)
  | 69 => .one (.nilFunc)
  | 70 => .one (.nilFunc)
  | 71 => .one (.nilFunc)
  | 72 => .st 4 [(0, 1, 3), (1, 1, 4), (2, 2, 37)] [.int .i64 0, .bool false, .int .i64 0, .int .i64 0]
  | 73 => .st 4 [(0, 1, 3), (1, 1, 4), (2, 2, 37)] [.int .i64 0, .bool false, .int .i64 0, .int .i64 0]
  | 74 => .st 8 [(0, 4, 73), (4, 1, 4), (5, 3, 65)] [.int .i64 0, .bool false, .int .i64 0, .int .i64 0, .bool false, .bool false, .int .i64 0, .int .i64 0]
  | 75 => .st 8 [(0, 4, 73), (4, 1, 4), (5, 3, 65)] [.int .i64 0, .bool false, .int .i64 0, .int .i64 0, .bool false, .bool false, .int .i64 0, .int .i64 0]
  | 76 => .one (.nilFunc)
  | 77 => .one (.nilFunc)
  | 78 => .one (.nilFunc)
  | 79 => .one (.pointer .none)
  | 80 => .one (.nilFunc)
  | 81 => .one (.nilFunc)
  | 82 => .st 8 [(0, 4, 73), (4, 1, 4), (5, 3, 65)] [.int .i64 0, .bool false, .int .i64 0, .int .i64 0, .bool false, .bool false, .int .i64 0, .int .i64 0]
  | 84 => .one (.nilFunc)
  | 85 => .one (.nilFunc)
  | 86 => .one (.nilFunc)
  | 87 => .one (.nilFunc)
  | 88 => .one (.slice .none 0 0)
  | 89 => .st 5 [(0, 1, 88), (1, 1, 26), (2, 1, 3), (3, 1, 3), (4, 1, 3)] [.slice .none 0 0, .slice .none 0 0, .int .i64 0, .int .i64 0, .int .i64 0]
  | 90 => .st 5 [(0, 1, 88), (1, 1, 26), (2, 1, 3), (3, 1, 3), (4, 1, 3)] [.slice .none 0 0, .slice .none 0 0, .int .i64 0, .int .i64 0, .int .i64 0]
  | 91 => .one (.slice .none 0 0)
  | 92 => .st 5 [(0, 1, 91), (1, 1, 26), (2, 1, 3), (3, 1, 3), (4, 1, 3)] [.slice .none 0 0, .slice .none 0 0, .int .i64 0, .int .i64 0, .int .i64 0]
  | 93 => .st 5 [(0, 1, 91), (1, 1, 26), (2, 1, 3), (3, 1, 3), (4, 1, 3)] [.slice .none 0 0, .slice .none 0 0, .int .i64 0, .int .i64 0, .int .i64 0]
  | 94 => .one (.pointer .none)
  | 95 => .st 4 [(0, 2, 37), (2, 1, 3), (3, 1, 4)] [.int .i64 0, .int .i64 0, .int .i64 0, .bool false]
  | 96 => .st 4 [(0, 2, 37), (2, 1, 3), (3, 1, 4)] [.int .i64 0, .int .i64 0, .int .i64 0, .bool false]
  | 97 => .one (.nilFunc)
  | 98 => .one (.slice .none 0 0)
  | 99 => .st 5 [(0, 1, 98), (1, 1, 26), (2, 1, 3), (3, 1, 3), (4, 1, 3)] [.slice .none 0 0, .slice .none 0 0, .int .i64 0, .int .i64 0, .int .i64 0]
  | 100 => .st 5 [(0, 1, 98), (1, 1, 26), (2, 1, 3), (3, 1, 3), (4, 1, 3)] [.slice .none 0 0, .slice .none 0 0, .int .i64 0, .int .i64 0, .int .i64 0]
  | 101 => .one (.pointer .none)
  | 102 => .st 3 [(0, 1, 3), (1, 1, 3), (2, 1, 4)] [.int .i64 0, .int .i64 0, .bool false]
  | 103 => .st 3 [(0, 1, 3), (1, 1, 3), (2, 1, 4)] [.int .i64 0, .int .i64 0, .bool false]
  | 104 => .one (.nilFunc)
  | 105 => .one (.nilFunc)
  | 106 => .one (.nilFunc)
  | 107 => .st 3 [] [.int .i64 0, .int .i64 0, .int .i64 0]
  | 108 => .one (.nilFunc)
  | 109 => .one (.nilFunc)
  | 111 => .one (.nilFunc)
  | 112 => .one (.nilFunc)
  | 113 => .one (.nilFunc)
  | 114 => .one (.nilFunc)
  | 115 => .one (.nilFunc)
  | 116 => .one (.nilFunc)
  | 117 => .one (.nilFunc)
  | 118 => .one (.pointer .none)
  | 119 => .st 3 [(0, 1, 118), (1, 2, 40)] [.pointer .none, .int .i64 0, .int .i64 0]
  | 120 => .st 3 [(0, 1, 118), (1, 2, 40)] [.pointer .none, .int .i64 0, .int .i64 0]
  | 121 => .st 29 [(0, 8, 82), (8, 2, 40), (10, 2, 40), (12, 1, 3), (13, 16, 67)] [.int .i64 0, .bool false, .int .i64 0, .int .i64 0, .bool false, .bool false, .int .i64 0, .int .i64 0, .int .i64 0, .int .i64 0, .int .i64 0, .int .i64 0, .int .i64 0, .int .i64 0, .int .i64 0, .int .i64 0, .int .i64 0, .int .i64 0, .int .i64 0, .int .i64 0, .int .i64 0, .int .i64 0, .int .i64 0, .bool false, .int .i64 0, .int .i64 0, .bool false, .int .i64 0, .int .i64 0]
  | 122 => .st 29 [(0, 8, 82), (8, 2, 40), (10, 2, 40), (12, 1, 3), (13, 16, 67)] [.int .i64 0, .bool false, .int .i64 0, .int .i64 0, .bool false, .bool false, .int .i64 0, .int .i64 0, .int .i64 0, .int .i64 0, .int .i64 0, .int .i64 0, .int .i64 0, .int .i64 0, .int .i64 0, .int .i64 0, .int .i64 0, .int .i64 0, .int .i64 0, .int .i64 0, .int .i64 0, .int .i64 0, .int .i64 0, .bool false, .int .i64 0, .int .i64 0, .bool false, .int .i64 0, .int .i64 0]
  | 123 => .one (.nilFunc)
  | 124 => .one (.nilFunc)
  | 125 => .one (.nilFunc)
  | 126 => .one (.nilFunc)
  | 127 => .one (.nilFunc)
  | 128 => .one (.nilFunc)
  | 129 => .one (.nilFunc)
  | 130 => .one (.nilFunc)
  | 131 => .one (.nilFunc)
  | 132 => .one (.nilFunc)
  | 133 => .one (.nilFunc)
  | 134 => .one (.nilFunc)
  | 136 => .one (.nilFunc)
  | 137 => .one (.slice .none 0 0)
  | 138 => .st 5 [(0, 1, 137), (1, 1, 26), (2, 1, 3), (3, 1, 3), (4, 1, 3)] [.slice .none 0 0, .slice .none 0 0, .int .i64 0, .int .i64 0, .int .i64 0]
  | 139 => .st 5 [(0, 1, 137), (1, 1, 26), (2, 1, 3), (3, 1, 3), (4, 1, 3)] [.slice .none 0 0, .slice .none 0 0, .int .i64 0, .int .i64 0, .int .i64 0]
  | 140 => .one (.pointer .none)
  | 141 => .st 31 [(0, 29, 122), (29, 1, 3), (30, 1, 4)] [.int .i64 0, .bool false, .int .i64 0, .int .i64 0, .bool false, .bool false, .int .i64 0, .int .i64 0, .int .i64 0, .int .i64 0, .int .i64 0, .int .i64 0, .int .i64 0, .int .i64 0, .int .i64 0, .int .i64 0, .int .i64 0, .int .i64 0, .int .i64 0, .int .i64 0, .int .i64 0, .int .i64 0, .int .i64 0, .bool false, .int .i64 0, .int .i64 0, .bool false, .int .i64 0, .int .i64 0, .int .i64 0, .bool false]
  | 142 => .st 31 [(0, 29, 122), (29, 1, 3), (30, 1, 4)] [.int .i64 0, .bool false, .int .i64 0, .int .i64 0, .bool false, .bool false, .int .i64 0, .int .i64 0, .int .i64 0, .int .i64 0, .int .i64 0, .int .i64 0, .int .i64 0, .int .i64 0, .int .i64 0, .int .i64 0, .int .i64 0, .int .i64 0, .int .i64 0, .int .i64 0, .int .i64 0, .int .i64 0, .int .i64 0, .bool false, .int .i64 0, .int .i64 0, .bool false, .int .i64 0, .int .i64 0, .int .i64 0, .bool false]
  | 143 => .one (.nilFunc)
  | 144 => .one (.nilFunc)
  | 145 => .one (.nilFunc)
  | 146 => .st 4 [(0, 1, 17), (1, 1, 17), (2, 1, 17), (3, 1, 9)] [.pointer .none, .pointer .none, .pointer .none, .string ⟨#[]⟩]
  | 147 => .st 4 [(0, 1, 17), (1, 1, 17), (2, 1, 17), (3, 1, 9)] [.pointer .none, .pointer .none, .pointer .none, .string ⟨#[]⟩]
  | 151 => .one (.int .u32 0)
  | 152 => .one (.int .u8 0)
  | 153 => .one (.int .u8 0)
  | 154 => .one (.nilFunc)
  | 155 => .one (.pointer .none)
  | 156 => .one (.int .i32 0)
  | 157 => .one (.int .i32 0)
  | 158 => .st 11 [(0, 1, 12), (1, 1, 12), (2, 1, 151), (3, 1, 152), (4, 1, 5), (5, 1, 5), (6, 1, 153), (7, 1, 154), (8, 1, 155), (9, 1, 156), (10, 1, 157)] [.int .u64 0, .int .u64 0, .int .u32 0, .int .u8 0, .int .u8 0, .int .u8 0, .int .u8 0, .nilFunc, .pointer .none, .int .i32 0, .int .i32 0]
  | 159 => .st 11 [(0, 1, 12), (1, 1, 12), (2, 1, 151), (3, 1, 152), (4, 1, 5), (5, 1, 5), (6, 1, 153), (7, 1, 154), (8, 1, 155), (9, 1, 156), (10, 1, 157)] [.int .u64 0, .int .u64 0, .int .u32 0, .int .u8 0, .int .u8 0, .int .u8 0, .int .u8 0, .nilFunc, .pointer .none, .int .i32 0, .int .i32 0]
  | 160 => .one (.nilFunc)
  | 161 => .one (.nilFunc)
  | 162 => .one (.nilFunc)
  | 163 => .one (.nilFunc)
  | 164 => .one (.nilFunc)
  | 165 => .one (.nilFunc)
  | 166 => .st 3 [(0, 1, 4), (1, 1, 3), (2, 1, 4)] [.bool false, .int .i64 0, .bool false]
  | 167 => .st 3 [(0, 1, 4), (1, 1, 3), (2, 1, 4)] [.bool false, .int .i64 0, .bool false]
  | 168 => .one (.pointer .none)
  | 169 => .one (.pointer .none)
  | _ => .none
theorem tysB : (List.range 170).all (fun T => tyB Try.prog T (tysF T)) = true := by kernel_rfl
/-- The table of types. -/
def Y : Tys Try.prog := ⟨fun T => match Nat.blt T 170 with | true => tysF T | false => .none, fun T => by
  cases h : Nat.blt T 170 with
  | true =>
    rw [Nat.blt_eq] at h
    exact tyOk_of (List.all_eq_true.1 tysB T (List.mem_range.2 h))
  | false => trivial⟩
def cfL : List Nat := [3, 4, 5, 6, 7, 8, 9, 10, 11, 12, 13, 14, 15, 16, 17, 18, 19, 20, 21, 22, 23, 24, 25, 26, 27, 28, 29, 30, 31, 32, 33, 34, 35, 36, 37, 38, 39, 40, 41, 42, 43, 44, 45, 46, 47, 48, 49, 50, 51, 52, 53, 54, 55, 56, 57, 58, 59, 60, 61, 62, 63, 64, 65, 66, 67, 68, 69, 70, 71, 72, 73, 74, 75, 76, 77, 78, 79, 80, 81, 82, 83, 84, 85, 86, 87, 88]
theorem cfB : cfL.all (fun f => fnB Try.prog f) = true := by kernel_rfl
theorem cf (f : Nat) (h : cfL.contains f = true) : fnB Try.prog f = true := List.all_eq_true.1 cfB f (by simpa using h)
theorem mixed : Try.prog.follows .mixedOrders = true := by kernel_rfl
theorem t1 : Y.f 1 = .one (.nilFunc) := by kernel_rfl
theorem t2 : Y.f 2 = .one (.int .i64 0) := by kernel_rfl
theorem t3 : Y.f 3 = .one (.int .i64 0) := by kernel_rfl
theorem t4 : Y.f 4 = .one (.bool false) := by kernel_rfl
theorem t5 : Y.f 5 = .one (.int .u8 0) := by kernel_rfl
theorem t6 : Y.f 6 = .one (.int .u8 0) := by kernel_rfl
theorem t7 : Y.f 7 = .st 4 [(0, 1, 2), (1, 1, 3), (2, 1, 4), (3, 1, 6)] [.int .i64 0, .int .i64 0, .bool false, .int .u8 0] := by kernel_rfl
theorem t8 : Y.f 8 = .st 4 [(0, 1, 2), (1, 1, 3), (2, 1, 4), (3, 1, 6)] [.int .i64 0, .int .i64 0, .bool false, .int .u8 0] := by kernel_rfl
theorem t9 : Y.f 9 = .one (.string ⟨#[]⟩) := by kernel_rfl
theorem t10 : Y.f 10 = .one (.string ⟨#[]⟩) := by kernel_rfl
theorem t11 : Y.f 11 = .one (.string ⟨#[]⟩) := by kernel_rfl
theorem t12 : Y.f 12 = .one (.int .u64 0) := by kernel_rfl
theorem t13 : Y.f 13 = .st 2 [(0, 1, 9), (1, 1, 12)] [.string ⟨#[]⟩, .int .u64 0] := by kernel_rfl
theorem t14 : Y.f 14 = .st 2 [(0, 1, 9), (1, 1, 12)] [.string ⟨#[]⟩, .int .u64 0] := by kernel_rfl
theorem t15 : Y.f 15 = .one (.pointer .none) := by kernel_rfl
theorem t16 : Y.f 16 = .one (.pointer .none) := by kernel_rfl
theorem t17 : Y.f 17 = .one (.pointer .none) := by kernel_rfl
theorem t18 : Y.f 18 = .st 1 [(0, 1, 17)] [.pointer .none] := by kernel_rfl
theorem t19 : Y.f 19 = .st 1 [(0, 1, 17)] [.pointer .none] := by kernel_rfl
theorem t20 : Y.f 20 = .one (.nilIface) := by kernel_rfl
theorem t21 : Y.f 21 = .one (.int .i32 0) := by kernel_rfl
theorem t22 : Y.f 22 = .one (.nilFunc) := by kernel_rfl
theorem t23 : Y.f 23 = .one (.pointer .none) := by kernel_rfl
theorem t24 : Y.f 24 = .one (.nilFunc) := by kernel_rfl
theorem t25 : Y.f 25 = .one (.nilFunc) := by kernel_rfl
theorem t26 : Y.f 26 = .one (.slice .none 0 0) := by kernel_rfl
theorem t27 : Y.f 27 = .one (.slice .none 0 0) := by kernel_rfl
theorem t28 : Y.f 28 = .st 6 [(0, 1, 26), (1, 1, 26), (2, 1, 27), (3, 1, 26), (4, 1, 3), (5, 1, 3)] [.slice .none 0 0, .slice .none 0 0, .slice .none 0 0, .slice .none 0 0, .int .i64 0, .int .i64 0] := by kernel_rfl
theorem t29 : Y.f 29 = .st 6 [(0, 1, 26), (1, 1, 26), (2, 1, 27), (3, 1, 26), (4, 1, 3), (5, 1, 3)] [.slice .none 0 0, .slice .none 0 0, .slice .none 0 0, .slice .none 0 0, .int .i64 0, .int .i64 0] := by kernel_rfl
theorem t30 : Y.f 30 = .one (.pointer .none) := by kernel_rfl
theorem t31 : Y.f 31 = .one (.nilFunc) := by kernel_rfl
theorem t32 : Y.f 32 = .one (.nilFunc) := by kernel_rfl
theorem t33 : Y.f 33 = .one (.slice .none 0 0) := by kernel_rfl
theorem t34 : Y.f 34 = .one (.pointer .none) := by kernel_rfl
theorem t35 : Y.f 35 = .one (.nilFunc) := by kernel_rfl
theorem t36 : Y.f 36 = .st 2 [(0, 1, 3), (1, 1, 3)] [.int .i64 0, .int .i64 0] := by kernel_rfl
theorem t37 : Y.f 37 = .st 2 [(0, 1, 3), (1, 1, 3)] [.int .i64 0, .int .i64 0] := by kernel_rfl
theorem t38 : Y.f 38 = .one (.slice .none 0 0) := by kernel_rfl
theorem t39 : Y.f 39 = .st 2 [(0, 1, 3), (1, 1, 3)] [.int .i64 0, .int .i64 0] := by kernel_rfl
theorem t40 : Y.f 40 = .st 2 [(0, 1, 3), (1, 1, 3)] [.int .i64 0, .int .i64 0] := by kernel_rfl
theorem t42 : Y.f 42 = .one (.nilFunc) := by kernel_rfl
theorem t43 : Y.f 43 = .one (.nilFunc) := by kernel_rfl
theorem t45 : Y.f 45 = .one (.nilFunc) := by kernel_rfl
theorem t46 : Y.f 46 = .one (.nilFunc) := by kernel_rfl
theorem t47 : Y.f 47 = .one (.slice .none 0 0) := by kernel_rfl
theorem t48 : Y.f 48 = .one (.pointer .none) := by kernel_rfl
theorem t49 : Y.f 49 = .one (.nilFunc) := by kernel_rfl
theorem t50 : Y.f 50 = .one (.nilFunc) := by kernel_rfl
theorem t52 : Y.f 52 = .one (.nilFunc) := by kernel_rfl
theorem t53 : Y.f 53 = .one (.nilFunc) := by kernel_rfl
theorem t54 : Y.f 54 = .one (.nilFunc) := by kernel_rfl
theorem t55 : Y.f 55 = .one (.slice .none 0 0) := by kernel_rfl
theorem t56 : Y.f 56 = .one (.nilFunc) := by kernel_rfl
theorem t57 : Y.f 57 = .st 5 [(0, 1, 3), (1, 1, 3), (2, 1, 4), (3, 2, 40)] [.int .i64 0, .int .i64 0, .bool false, .int .i64 0, .int .i64 0] := by kernel_rfl
theorem t58 : Y.f 58 = .st 5 [(0, 1, 3), (1, 1, 3), (2, 1, 4), (3, 2, 40)] [.int .i64 0, .int .i64 0, .bool false, .int .i64 0, .int .i64 0] := by kernel_rfl
theorem t59 : Y.f 59 = .one (.nilFunc) := by kernel_rfl
theorem t60 : Y.f 60 = .one (.slice .none 0 0) := by kernel_rfl
theorem t61 : Y.f 61 = .one (.nilFunc) := by kernel_rfl
theorem t62 : Y.f 62 = .st 3 [(0, 1, 3), (1, 1, 3), (2, 1, 3)] [.int .i64 0, .int .i64 0, .int .i64 0] := by kernel_rfl
theorem t63 : Y.f 63 = .st 3 [(0, 1, 3), (1, 1, 3), (2, 1, 3)] [.int .i64 0, .int .i64 0, .int .i64 0] := by kernel_rfl
theorem t64 : Y.f 64 = .st 3 [(0, 1, 4), (1, 2, 37)] [.bool false, .int .i64 0, .int .i64 0] := by kernel_rfl
theorem t65 : Y.f 65 = .st 3 [(0, 1, 4), (1, 2, 37)] [.bool false, .int .i64 0, .int .i64 0] := by kernel_rfl
theorem t66 : Y.f 66 = .st 16 [(0, 3, 63), (3, 3, 63), (6, 1, 3), (7, 1, 3), (8, 2, 37), (10, 3, 65), (13, 3, 65)] [.int .i64 0, .int .i64 0, .int .i64 0, .int .i64 0, .int .i64 0, .int .i64 0, .int .i64 0, .int .i64 0, .int .i64 0, .int .i64 0, .bool false, .int .i64 0, .int .i64 0, .bool false, .int .i64 0, .int .i64 0] := by kernel_rfl
theorem t67 : Y.f 67 = .st 16 [(0, 3, 63), (3, 3, 63), (6, 1, 3), (7, 1, 3), (8, 2, 37), (10, 3, 65), (13, 3, 65)] [.int .i64 0, .int .i64 0, .int .i64 0, .int .i64 0, .int .i64 0, .int .i64 0, .int .i64 0, .int .i64 0, .int .i64 0, .int .i64 0, .bool false, .int .i64 0, .int .i64 0, .bool false, .int .i64 0, .int .i64 0] := by kernel_rfl
theorem t68 : Y.f 68 = .one (.nilFunc) := by kernel_rfl
theorem t69 : Y.f 69 = .one (.nilFunc) := by kernel_rfl
theorem t70 : Y.f 70 = .one (.nilFunc) := by kernel_rfl
theorem t71 : Y.f 71 = .one (.nilFunc) := by kernel_rfl
theorem t72 : Y.f 72 = .st 4 [(0, 1, 3), (1, 1, 4), (2, 2, 37)] [.int .i64 0, .bool false, .int .i64 0, .int .i64 0] := by kernel_rfl
theorem t73 : Y.f 73 = .st 4 [(0, 1, 3), (1, 1, 4), (2, 2, 37)] [.int .i64 0, .bool false, .int .i64 0, .int .i64 0] := by kernel_rfl
theorem t74 : Y.f 74 = .st 8 [(0, 4, 73), (4, 1, 4), (5, 3, 65)] [.int .i64 0, .bool false, .int .i64 0, .int .i64 0, .bool false, .bool false, .int .i64 0, .int .i64 0] := by kernel_rfl
theorem t75 : Y.f 75 = .st 8 [(0, 4, 73), (4, 1, 4), (5, 3, 65)] [.int .i64 0, .bool false, .int .i64 0, .int .i64 0, .bool false, .bool false, .int .i64 0, .int .i64 0] := by kernel_rfl
theorem t76 : Y.f 76 = .one (.nilFunc) := by kernel_rfl
theorem t77 : Y.f 77 = .one (.nilFunc) := by kernel_rfl
theorem t78 : Y.f 78 = .one (.nilFunc) := by kernel_rfl
theorem t79 : Y.f 79 = .one (.pointer .none) := by kernel_rfl
theorem t80 : Y.f 80 = .one (.nilFunc) := by kernel_rfl
theorem t81 : Y.f 81 = .one (.nilFunc) := by kernel_rfl
theorem t82 : Y.f 82 = .st 8 [(0, 4, 73), (4, 1, 4), (5, 3, 65)] [.int .i64 0, .bool false, .int .i64 0, .int .i64 0, .bool false, .bool false, .int .i64 0, .int .i64 0] := by kernel_rfl
theorem t84 : Y.f 84 = .one (.nilFunc) := by kernel_rfl
theorem t85 : Y.f 85 = .one (.nilFunc) := by kernel_rfl
theorem t86 : Y.f 86 = .one (.nilFunc) := by kernel_rfl
theorem t87 : Y.f 87 = .one (.nilFunc) := by kernel_rfl
theorem t88 : Y.f 88 = .one (.slice .none 0 0) := by kernel_rfl
theorem t89 : Y.f 89 = .st 5 [(0, 1, 88), (1, 1, 26), (2, 1, 3), (3, 1, 3), (4, 1, 3)] [.slice .none 0 0, .slice .none 0 0, .int .i64 0, .int .i64 0, .int .i64 0] := by kernel_rfl
theorem t90 : Y.f 90 = .st 5 [(0, 1, 88), (1, 1, 26), (2, 1, 3), (3, 1, 3), (4, 1, 3)] [.slice .none 0 0, .slice .none 0 0, .int .i64 0, .int .i64 0, .int .i64 0] := by kernel_rfl
theorem t91 : Y.f 91 = .one (.slice .none 0 0) := by kernel_rfl
theorem t92 : Y.f 92 = .st 5 [(0, 1, 91), (1, 1, 26), (2, 1, 3), (3, 1, 3), (4, 1, 3)] [.slice .none 0 0, .slice .none 0 0, .int .i64 0, .int .i64 0, .int .i64 0] := by kernel_rfl
theorem t93 : Y.f 93 = .st 5 [(0, 1, 91), (1, 1, 26), (2, 1, 3), (3, 1, 3), (4, 1, 3)] [.slice .none 0 0, .slice .none 0 0, .int .i64 0, .int .i64 0, .int .i64 0] := by kernel_rfl
theorem t94 : Y.f 94 = .one (.pointer .none) := by kernel_rfl
theorem t95 : Y.f 95 = .st 4 [(0, 2, 37), (2, 1, 3), (3, 1, 4)] [.int .i64 0, .int .i64 0, .int .i64 0, .bool false] := by kernel_rfl
theorem t96 : Y.f 96 = .st 4 [(0, 2, 37), (2, 1, 3), (3, 1, 4)] [.int .i64 0, .int .i64 0, .int .i64 0, .bool false] := by kernel_rfl
theorem t97 : Y.f 97 = .one (.nilFunc) := by kernel_rfl
theorem t98 : Y.f 98 = .one (.slice .none 0 0) := by kernel_rfl
theorem t99 : Y.f 99 = .st 5 [(0, 1, 98), (1, 1, 26), (2, 1, 3), (3, 1, 3), (4, 1, 3)] [.slice .none 0 0, .slice .none 0 0, .int .i64 0, .int .i64 0, .int .i64 0] := by kernel_rfl
theorem t100 : Y.f 100 = .st 5 [(0, 1, 98), (1, 1, 26), (2, 1, 3), (3, 1, 3), (4, 1, 3)] [.slice .none 0 0, .slice .none 0 0, .int .i64 0, .int .i64 0, .int .i64 0] := by kernel_rfl
theorem t101 : Y.f 101 = .one (.pointer .none) := by kernel_rfl
theorem t102 : Y.f 102 = .st 3 [(0, 1, 3), (1, 1, 3), (2, 1, 4)] [.int .i64 0, .int .i64 0, .bool false] := by kernel_rfl
theorem t103 : Y.f 103 = .st 3 [(0, 1, 3), (1, 1, 3), (2, 1, 4)] [.int .i64 0, .int .i64 0, .bool false] := by kernel_rfl
theorem t104 : Y.f 104 = .one (.nilFunc) := by kernel_rfl
theorem t105 : Y.f 105 = .one (.nilFunc) := by kernel_rfl
theorem t106 : Y.f 106 = .one (.nilFunc) := by kernel_rfl
theorem t107 : Y.f 107 = .st 3 [] [.int .i64 0, .int .i64 0, .int .i64 0] := by kernel_rfl
theorem t108 : Y.f 108 = .one (.nilFunc) := by kernel_rfl
theorem t109 : Y.f 109 = .one (.nilFunc) := by kernel_rfl
theorem t111 : Y.f 111 = .one (.nilFunc) := by kernel_rfl
theorem t112 : Y.f 112 = .one (.nilFunc) := by kernel_rfl
theorem t113 : Y.f 113 = .one (.nilFunc) := by kernel_rfl
theorem t114 : Y.f 114 = .one (.nilFunc) := by kernel_rfl
theorem t115 : Y.f 115 = .one (.nilFunc) := by kernel_rfl
theorem t116 : Y.f 116 = .one (.nilFunc) := by kernel_rfl
theorem t117 : Y.f 117 = .one (.nilFunc) := by kernel_rfl
theorem t118 : Y.f 118 = .one (.pointer .none) := by kernel_rfl
theorem t119 : Y.f 119 = .st 3 [(0, 1, 118), (1, 2, 40)] [.pointer .none, .int .i64 0, .int .i64 0] := by kernel_rfl
theorem t120 : Y.f 120 = .st 3 [(0, 1, 118), (1, 2, 40)] [.pointer .none, .int .i64 0, .int .i64 0] := by kernel_rfl
theorem t121 : Y.f 121 = .st 29 [(0, 8, 82), (8, 2, 40), (10, 2, 40), (12, 1, 3), (13, 16, 67)] [.int .i64 0, .bool false, .int .i64 0, .int .i64 0, .bool false, .bool false, .int .i64 0, .int .i64 0, .int .i64 0, .int .i64 0, .int .i64 0, .int .i64 0, .int .i64 0, .int .i64 0, .int .i64 0, .int .i64 0, .int .i64 0, .int .i64 0, .int .i64 0, .int .i64 0, .int .i64 0, .int .i64 0, .int .i64 0, .bool false, .int .i64 0, .int .i64 0, .bool false, .int .i64 0, .int .i64 0] := by kernel_rfl
theorem t122 : Y.f 122 = .st 29 [(0, 8, 82), (8, 2, 40), (10, 2, 40), (12, 1, 3), (13, 16, 67)] [.int .i64 0, .bool false, .int .i64 0, .int .i64 0, .bool false, .bool false, .int .i64 0, .int .i64 0, .int .i64 0, .int .i64 0, .int .i64 0, .int .i64 0, .int .i64 0, .int .i64 0, .int .i64 0, .int .i64 0, .int .i64 0, .int .i64 0, .int .i64 0, .int .i64 0, .int .i64 0, .int .i64 0, .int .i64 0, .bool false, .int .i64 0, .int .i64 0, .bool false, .int .i64 0, .int .i64 0] := by kernel_rfl
theorem t123 : Y.f 123 = .one (.nilFunc) := by kernel_rfl
theorem t124 : Y.f 124 = .one (.nilFunc) := by kernel_rfl
theorem t125 : Y.f 125 = .one (.nilFunc) := by kernel_rfl
theorem t126 : Y.f 126 = .one (.nilFunc) := by kernel_rfl
theorem t127 : Y.f 127 = .one (.nilFunc) := by kernel_rfl
theorem t128 : Y.f 128 = .one (.nilFunc) := by kernel_rfl
theorem t129 : Y.f 129 = .one (.nilFunc) := by kernel_rfl
theorem t130 : Y.f 130 = .one (.nilFunc) := by kernel_rfl
theorem t131 : Y.f 131 = .one (.nilFunc) := by kernel_rfl
theorem t132 : Y.f 132 = .one (.nilFunc) := by kernel_rfl
theorem t133 : Y.f 133 = .one (.nilFunc) := by kernel_rfl
theorem t134 : Y.f 134 = .one (.nilFunc) := by kernel_rfl
theorem t136 : Y.f 136 = .one (.nilFunc) := by kernel_rfl
theorem t137 : Y.f 137 = .one (.slice .none 0 0) := by kernel_rfl
theorem t138 : Y.f 138 = .st 5 [(0, 1, 137), (1, 1, 26), (2, 1, 3), (3, 1, 3), (4, 1, 3)] [.slice .none 0 0, .slice .none 0 0, .int .i64 0, .int .i64 0, .int .i64 0] := by kernel_rfl
theorem t139 : Y.f 139 = .st 5 [(0, 1, 137), (1, 1, 26), (2, 1, 3), (3, 1, 3), (4, 1, 3)] [.slice .none 0 0, .slice .none 0 0, .int .i64 0, .int .i64 0, .int .i64 0] := by kernel_rfl
theorem t140 : Y.f 140 = .one (.pointer .none) := by kernel_rfl
theorem t141 : Y.f 141 = .st 31 [(0, 29, 122), (29, 1, 3), (30, 1, 4)] [.int .i64 0, .bool false, .int .i64 0, .int .i64 0, .bool false, .bool false, .int .i64 0, .int .i64 0, .int .i64 0, .int .i64 0, .int .i64 0, .int .i64 0, .int .i64 0, .int .i64 0, .int .i64 0, .int .i64 0, .int .i64 0, .int .i64 0, .int .i64 0, .int .i64 0, .int .i64 0, .int .i64 0, .int .i64 0, .bool false, .int .i64 0, .int .i64 0, .bool false, .int .i64 0, .int .i64 0, .int .i64 0, .bool false] := by kernel_rfl
theorem t142 : Y.f 142 = .st 31 [(0, 29, 122), (29, 1, 3), (30, 1, 4)] [.int .i64 0, .bool false, .int .i64 0, .int .i64 0, .bool false, .bool false, .int .i64 0, .int .i64 0, .int .i64 0, .int .i64 0, .int .i64 0, .int .i64 0, .int .i64 0, .int .i64 0, .int .i64 0, .int .i64 0, .int .i64 0, .int .i64 0, .int .i64 0, .int .i64 0, .int .i64 0, .int .i64 0, .int .i64 0, .bool false, .int .i64 0, .int .i64 0, .bool false, .int .i64 0, .int .i64 0, .int .i64 0, .bool false] := by kernel_rfl
theorem t143 : Y.f 143 = .one (.nilFunc) := by kernel_rfl
theorem t144 : Y.f 144 = .one (.nilFunc) := by kernel_rfl
theorem t145 : Y.f 145 = .one (.nilFunc) := by kernel_rfl
theorem t146 : Y.f 146 = .st 4 [(0, 1, 17), (1, 1, 17), (2, 1, 17), (3, 1, 9)] [.pointer .none, .pointer .none, .pointer .none, .string ⟨#[]⟩] := by kernel_rfl
theorem t147 : Y.f 147 = .st 4 [(0, 1, 17), (1, 1, 17), (2, 1, 17), (3, 1, 9)] [.pointer .none, .pointer .none, .pointer .none, .string ⟨#[]⟩] := by kernel_rfl
theorem t151 : Y.f 151 = .one (.int .u32 0) := by kernel_rfl
theorem t152 : Y.f 152 = .one (.int .u8 0) := by kernel_rfl
theorem t153 : Y.f 153 = .one (.int .u8 0) := by kernel_rfl
theorem t154 : Y.f 154 = .one (.nilFunc) := by kernel_rfl
theorem t155 : Y.f 155 = .one (.pointer .none) := by kernel_rfl
theorem t156 : Y.f 156 = .one (.int .i32 0) := by kernel_rfl
theorem t157 : Y.f 157 = .one (.int .i32 0) := by kernel_rfl
theorem t158 : Y.f 158 = .st 11 [(0, 1, 12), (1, 1, 12), (2, 1, 151), (3, 1, 152), (4, 1, 5), (5, 1, 5), (6, 1, 153), (7, 1, 154), (8, 1, 155), (9, 1, 156), (10, 1, 157)] [.int .u64 0, .int .u64 0, .int .u32 0, .int .u8 0, .int .u8 0, .int .u8 0, .int .u8 0, .nilFunc, .pointer .none, .int .i32 0, .int .i32 0] := by kernel_rfl
theorem t159 : Y.f 159 = .st 11 [(0, 1, 12), (1, 1, 12), (2, 1, 151), (3, 1, 152), (4, 1, 5), (5, 1, 5), (6, 1, 153), (7, 1, 154), (8, 1, 155), (9, 1, 156), (10, 1, 157)] [.int .u64 0, .int .u64 0, .int .u32 0, .int .u8 0, .int .u8 0, .int .u8 0, .int .u8 0, .nilFunc, .pointer .none, .int .i32 0, .int .i32 0] := by kernel_rfl
theorem t160 : Y.f 160 = .one (.nilFunc) := by kernel_rfl
theorem t161 : Y.f 161 = .one (.nilFunc) := by kernel_rfl
theorem t162 : Y.f 162 = .one (.nilFunc) := by kernel_rfl
theorem t163 : Y.f 163 = .one (.nilFunc) := by kernel_rfl
theorem t164 : Y.f 164 = .one (.nilFunc) := by kernel_rfl
theorem t165 : Y.f 165 = .one (.nilFunc) := by kernel_rfl
theorem t166 : Y.f 166 = .st 3 [(0, 1, 4), (1, 1, 3), (2, 1, 4)] [.bool false, .int .i64 0, .bool false] := by kernel_rfl
theorem t167 : Y.f 167 = .st 3 [(0, 1, 4), (1, 1, 3), (2, 1, 4)] [.bool false, .int .i64 0, .bool false] := by kernel_rfl
theorem t168 : Y.f 168 = .one (.pointer .none) := by kernel_rfl
theorem t169 : Y.f 169 = .one (.pointer .none) := by kernel_rfl
theorem el26 : El Try.prog 26 3 1 8 := el_of (by kernel_rfl)
theorem el27 : El Try.prog 27 4 1 1 := el_of (by kernel_rfl)
theorem el33 : El Try.prog 33 37 2 16 := el_of (by kernel_rfl)
theorem cmp36 : cmpB Try.prog 36 [true, true] = true := by kernel_rfl
theorem cmp37 : cmpB Try.prog 37 [true, true] = true := by kernel_rfl
theorem el38 : El Try.prog 38 40 2 16 := el_of (by kernel_rfl)
theorem cmp39 : cmpB Try.prog 39 [true, true] = true := by kernel_rfl
theorem cmp40 : cmpB Try.prog 40 [true, true] = true := by kernel_rfl
theorem el47 : El Try.prog 47 5 1 1 := el_of (by kernel_rfl)
theorem el55 : El Try.prog 55 58 5 40 := el_of (by kernel_rfl)
theorem cmp57 : cmpB Try.prog 57 [true, true, false, true, true] = true := by kernel_rfl
theorem cmp58 : cmpB Try.prog 58 [true, true, false, true, true] = true := by kernel_rfl
theorem el60 : El Try.prog 60 75 8 64 := el_of (by kernel_rfl)
theorem cmp62 : cmpB Try.prog 62 [true, true, true] = true := by kernel_rfl
theorem cmp63 : cmpB Try.prog 63 [true, true, true] = true := by kernel_rfl
theorem cmp64 : cmpB Try.prog 64 [false, true, true] = true := by kernel_rfl
theorem cmp65 : cmpB Try.prog 65 [false, true, true] = true := by kernel_rfl
theorem cmp66 : cmpB Try.prog 66 [true, true, true, true, true, true, true, true, true, true, false, true, true, false, true, true] = true := by kernel_rfl
theorem cmp67 : cmpB Try.prog 67 [true, true, true, true, true, true, true, true, true, true, false, true, true, false, true, true] = true := by kernel_rfl
theorem cmp72 : cmpB Try.prog 72 [true, false, true, true] = true := by kernel_rfl
theorem cmp73 : cmpB Try.prog 73 [true, false, true, true] = true := by kernel_rfl
theorem cmp74 : cmpB Try.prog 74 [true, false, true, true, false, false, true, true] = true := by kernel_rfl
theorem cmp75 : cmpB Try.prog 75 [true, false, true, true, false, false, true, true] = true := by kernel_rfl
theorem cmp82 : cmpB Try.prog 82 [true, false, true, true, false, false, true, true] = true := by kernel_rfl
theorem el88 : El Try.prog 88 167 3 24 := el_of (by kernel_rfl)
theorem el91 : El Try.prog 91 96 4 32 := el_of (by kernel_rfl)
theorem cmp95 : cmpB Try.prog 95 [true, true, true, false] = true := by kernel_rfl
theorem cmp96 : cmpB Try.prog 96 [true, true, true, false] = true := by kernel_rfl
theorem el98 : El Try.prog 98 103 3 24 := el_of (by kernel_rfl)
theorem cmp102 : cmpB Try.prog 102 [true, true, false] = true := by kernel_rfl
theorem cmp103 : cmpB Try.prog 103 [true, true, false] = true := by kernel_rfl
theorem tA107 : ArrT Try.prog 107 3 3 1 [.int .i64 0, .int .i64 0, .int .i64 0] := arr_of (by kernel_rfl)
theorem cmp121 : cmpB Try.prog 121 [true, false, true, true, false, false, true, true, true, true, true, true, true, true, true, true, true, true, true, true, true, true, true, false, true, true, false, true, true] = true := by kernel_rfl
theorem cmp122 : cmpB Try.prog 122 [true, false, true, true, false, false, true, true, true, true, true, true, true, true, true, true, true, true, true, true, true, true, true, false, true, true, false, true, true] = true := by kernel_rfl
theorem el137 : El Try.prog 137 142 31 248 := el_of (by kernel_rfl)
theorem cmp141 : cmpB Try.prog 141 [true, false, true, true, false, false, true, true, true, true, true, true, true, true, true, true, true, true, true, true, true, true, true, false, true, true, false, true, true, true, false] = true := by kernel_rfl
theorem cmp142 : cmpB Try.prog 142 [true, false, true, true, false, false, true, true, true, true, true, true, true, true, true, true, true, true, true, true, true, true, true, false, true, true, false, true, true, true, false] = true := by kernel_rfl
theorem cmp166 : cmpB Try.prog 166 [false, true, false] = true := by kernel_rfl
theorem cmp167 : cmpB Try.prog 167 [false, true, false] = true := by kernel_rfl
end Go.Proofs.Ytgogiehpenfdpaa

/- Ythocajnpofdbmaa: a text of our own, by an AI agent: TabG -/
import Derived.Test.YthocajnpofdbmaaCore4
import Derived.Test.YthocajnpofdbmaaProg
import Derived.KernelRfl
namespace Go.Proofs.Ythocajnpofdbmaa.T
open Go Go.Alog
@[simp] theorem ty2 : tyOf Try.prog 2 = some ⟨false, [.int .i64], [.int .i64 0]⟩ := by kernel_rfl
@[simp] theorem ty3 : tyOf Try.prog 3 = some ⟨false, [.int .i64], [.int .i64 0]⟩ := by kernel_rfl
@[simp] theorem ty4 : tyOf Try.prog 4 = some ⟨false, [.bool], [.bool false]⟩ := by kernel_rfl
@[simp] theorem ty5 : tyOf Try.prog 5 = some ⟨false, [.int .u8], [.int .u8 0]⟩ := by kernel_rfl
@[simp] theorem ty6 : tyOf Try.prog 6 = some ⟨false, [.int .u8], [.int .u8 0]⟩ := by kernel_rfl
@[simp] theorem ty7 : tyOf Try.prog 7 = some ⟨true, [.int .i64, .int .i64, .bool, .int .u8], [.int .i64 0, .int .i64 0, .bool false, .int .u8 0]⟩ := by kernel_rfl
@[simp] theorem fld7_0 : fldOf Try.prog 7 0 = some (0, false, 1) := by kernel_rfl
@[simp] theorem fld7_1 : fldOf Try.prog 7 1 = some (1, false, 1) := by kernel_rfl
@[simp] theorem fld7_2 : fldOf Try.prog 7 2 = some (2, false, 1) := by kernel_rfl
@[simp] theorem fld7_3 : fldOf Try.prog 7 3 = some (3, false, 1) := by kernel_rfl
@[simp] theorem ty8 : tyOf Try.prog 8 = some ⟨true, [.int .i64, .int .i64, .bool, .int .u8], [.int .i64 0, .int .i64 0, .bool false, .int .u8 0]⟩ := by kernel_rfl
@[simp] theorem fld8_0 : fldOf Try.prog 8 0 = some (0, false, 1) := by kernel_rfl
@[simp] theorem fld8_1 : fldOf Try.prog 8 1 = some (1, false, 1) := by kernel_rfl
@[simp] theorem fld8_2 : fldOf Try.prog 8 2 = some (2, false, 1) := by kernel_rfl
@[simp] theorem fld8_3 : fldOf Try.prog 8 3 = some (3, false, 1) := by kernel_rfl
@[simp] theorem ty9 : tyOf Try.prog 9 = some ⟨false, [.str], [.string ByteArray.empty]⟩ := by kernel_rfl
@[simp] theorem ty10 : tyOf Try.prog 10 = some ⟨false, [.str], [.string ByteArray.empty]⟩ := by kernel_rfl
@[simp] theorem ty11 : tyOf Try.prog 11 = some ⟨false, [.str], [.string ByteArray.empty]⟩ := by kernel_rfl
@[simp] theorem ty12 : tyOf Try.prog 12 = some ⟨false, [.int .u64], [.int .u64 0]⟩ := by kernel_rfl
@[simp] theorem ty13 : tyOf Try.prog 13 = some ⟨true, [.str, .int .u64], [.string ByteArray.empty, .int .u64 0]⟩ := by kernel_rfl
@[simp] theorem fld13_0 : fldOf Try.prog 13 0 = some (0, false, 1) := by kernel_rfl
@[simp] theorem fld13_1 : fldOf Try.prog 13 1 = some (1, false, 1) := by kernel_rfl
@[simp] theorem ty14 : tyOf Try.prog 14 = some ⟨true, [.str, .int .u64], [.string ByteArray.empty, .int .u64 0]⟩ := by kernel_rfl
@[simp] theorem fld14_0 : fldOf Try.prog 14 0 = some (0, false, 1) := by kernel_rfl
@[simp] theorem fld14_1 : fldOf Try.prog 14 1 = some (1, false, 1) := by kernel_rfl
@[simp] theorem ty15 : tyOf Try.prog 15 = some ⟨false, [.ptr], [.pointer none]⟩ := by kernel_rfl
@[simp] theorem ty16 : tyOf Try.prog 16 = some ⟨false, [.ptr], [.pointer none]⟩ := by kernel_rfl
@[simp] theorem ty17 : tyOf Try.prog 17 = some ⟨false, [.ptr], [.pointer none]⟩ := by kernel_rfl
@[simp] theorem ty18 : tyOf Try.prog 18 = some ⟨true, [.ptr], [.pointer none]⟩ := by kernel_rfl
@[simp] theorem fld18_0 : fldOf Try.prog 18 0 = some (0, false, 1) := by kernel_rfl
@[simp] theorem ty19 : tyOf Try.prog 19 = some ⟨true, [.ptr], [.pointer none]⟩ := by kernel_rfl
@[simp] theorem fld19_0 : fldOf Try.prog 19 0 = some (0, false, 1) := by kernel_rfl
@[simp] theorem ty21 : tyOf Try.prog 21 = some ⟨false, [.int .i32], [.int .i32 0]⟩ := by kernel_rfl
@[simp] theorem ty22 : tyOf Try.prog 22 = some ⟨true, [.int .i64, .int .i64, .int .i64, .int .i64, .int .i64], [.int .i64 0, .int .i64 0, .int .i64 0, .int .i64 0, .int .i64 0]⟩ := by kernel_rfl
@[simp] theorem fld22_0 : fldOf Try.prog 22 0 = some (0, false, 1) := by kernel_rfl
@[simp] theorem fld22_1 : fldOf Try.prog 22 1 = some (1, false, 1) := by kernel_rfl
@[simp] theorem fld22_2 : fldOf Try.prog 22 2 = some (2, false, 1) := by kernel_rfl
@[simp] theorem fld22_3 : fldOf Try.prog 22 3 = some (3, false, 1) := by kernel_rfl
@[simp] theorem fld22_4 : fldOf Try.prog 22 4 = some (4, false, 1) := by kernel_rfl
@[simp] theorem ty23 : tyOf Try.prog 23 = some ⟨true, [.int .i64, .int .i64, .int .i64, .int .i64, .int .i64], [.int .i64 0, .int .i64 0, .int .i64 0, .int .i64 0, .int .i64 0]⟩ := by kernel_rfl
@[simp] theorem fld23_0 : fldOf Try.prog 23 0 = some (0, false, 1) := by kernel_rfl
@[simp] theorem fld23_1 : fldOf Try.prog 23 1 = some (1, false, 1) := by kernel_rfl
@[simp] theorem fld23_2 : fldOf Try.prog 23 2 = some (2, false, 1) := by kernel_rfl
@[simp] theorem fld23_3 : fldOf Try.prog 23 3 = some (3, false, 1) := by kernel_rfl
@[simp] theorem fld23_4 : fldOf Try.prog 23 4 = some (4, false, 1) := by kernel_rfl
@[simp] theorem ty24 : tyOf Try.prog 24 = some ⟨false, [.slice], [.slice none 0 0]⟩ := by kernel_rfl
@[simp] theorem el24 : elOf Try.prog 24 = some (3, 1, 8, [.int .i64 0]) := by kernel_rfl
@[simp] theorem ty31 : tyOf Try.prog 31 = some ⟨false, [.slice], [.slice none 0 0]⟩ := by kernel_rfl
@[simp] theorem el31 : elOf Try.prog 31 = some (23, 5, 40, [.int .i64 0, .int .i64 0, .int .i64 0, .int .i64 0, .int .i64 0]) := by kernel_rfl
@[simp] theorem ty54 : tyOf Try.prog 54 = some ⟨true, [.bool, .bool, .bool, .bool], [.bool false, .bool false, .bool false, .bool false]⟩ := by kernel_rfl
@[simp] theorem fld54_0 : fldOf Try.prog 54 0 = some (0, false, 1) := by kernel_rfl
@[simp] theorem fld54_1 : fldOf Try.prog 54 1 = some (1, false, 1) := by kernel_rfl
@[simp] theorem fld54_2 : fldOf Try.prog 54 2 = some (2, false, 1) := by kernel_rfl
@[simp] theorem fld54_3 : fldOf Try.prog 54 3 = some (3, false, 1) := by kernel_rfl
@[simp] theorem ty55 : tyOf Try.prog 55 = some ⟨true, [.bool, .bool, .bool, .bool], [.bool false, .bool false, .bool false, .bool false]⟩ := by kernel_rfl
@[simp] theorem fld55_0 : fldOf Try.prog 55 0 = some (0, false, 1) := by kernel_rfl
@[simp] theorem fld55_1 : fldOf Try.prog 55 1 = some (1, false, 1) := by kernel_rfl
@[simp] theorem fld55_2 : fldOf Try.prog 55 2 = some (2, false, 1) := by kernel_rfl
@[simp] theorem fld55_3 : fldOf Try.prog 55 3 = some (3, false, 1) := by kernel_rfl
@[simp] theorem ty64 : tyOf Try.prog 64 = some ⟨false, [.int .u64], [.int .u64 0]⟩ := by kernel_rfl
@[simp] theorem ty66 : tyOf Try.prog 66 = some ⟨false, [.int .i64], [.int .i64 0]⟩ := by kernel_rfl
@[simp] theorem ty74 : tyOf Try.prog 74 = some ⟨false, [.int .u32], [.int .u32 0]⟩ := by kernel_rfl
@[simp] theorem ty76 : tyOf Try.prog 76 = some ⟨false, [.int .u64], [.int .u64 0]⟩ := by kernel_rfl
@[simp] theorem ty77 : tyOf Try.prog 77 = some ⟨false, [.int .u64], [.int .u64 0]⟩ := by kernel_rfl
@[simp] theorem ty81 : tyOf Try.prog 81 = some ⟨false, [.ptr], [.pointer none]⟩ := by kernel_rfl
@[simp] theorem ty83 : tyOf Try.prog 83 = some ⟨false, [.ptr], [.pointer none]⟩ := by kernel_rfl
@[simp] theorem ty86 : tyOf Try.prog 86 = some ⟨true, [.ptr, .ptr, .ptr, .str], [.pointer none, .pointer none, .pointer none, .string ByteArray.empty]⟩ := by kernel_rfl
@[simp] theorem fld86_0 : fldOf Try.prog 86 0 = some (0, false, 1) := by kernel_rfl
@[simp] theorem fld86_1 : fldOf Try.prog 86 1 = some (1, false, 1) := by kernel_rfl
@[simp] theorem fld86_2 : fldOf Try.prog 86 2 = some (2, false, 1) := by kernel_rfl
@[simp] theorem fld86_3 : fldOf Try.prog 86 3 = some (3, false, 1) := by kernel_rfl
@[simp] theorem ty87 : tyOf Try.prog 87 = some ⟨true, [.ptr, .ptr, .ptr, .str], [.pointer none, .pointer none, .pointer none, .string ByteArray.empty]⟩ := by kernel_rfl
@[simp] theorem fld87_0 : fldOf Try.prog 87 0 = some (0, false, 1) := by kernel_rfl
@[simp] theorem fld87_1 : fldOf Try.prog 87 1 = some (1, false, 1) := by kernel_rfl
@[simp] theorem fld87_2 : fldOf Try.prog 87 2 = some (2, false, 1) := by kernel_rfl
@[simp] theorem fld87_3 : fldOf Try.prog 87 3 = some (3, false, 1) := by kernel_rfl
@[simp] theorem ty92 : tyOf Try.prog 92 = some ⟨false, [.int .u8], [.int .u8 0]⟩ := by kernel_rfl
@[simp] theorem ty93 : tyOf Try.prog 93 = some ⟨false, [.int .u8], [.int .u8 0]⟩ := by kernel_rfl
@[simp] theorem ty95 : tyOf Try.prog 95 = some ⟨false, [.ptr], [.pointer none]⟩ := by kernel_rfl
@[simp] theorem ty96 : tyOf Try.prog 96 = some ⟨false, [.int .i32], [.int .i32 0]⟩ := by kernel_rfl
@[simp] theorem ty97 : tyOf Try.prog 97 = some ⟨false, [.int .i32], [.int .i32 0]⟩ := by kernel_rfl
@[simp] theorem ty98 : tyOf Try.prog 98 = some ⟨true, [.int .u64, .int .u64, .int .u32, .int .u8, .int .u8, .int .u8, .int .u8, .any, .ptr, .int .i32, .int .i32], [.int .u64 0, .int .u64 0, .int .u32 0, .int .u8 0, .int .u8 0, .int .u8 0, .int .u8 0, .nilFunc, .pointer none, .int .i32 0, .int .i32 0]⟩ := by kernel_rfl
@[simp] theorem fld98_0 : fldOf Try.prog 98 0 = some (0, false, 1) := by kernel_rfl
@[simp] theorem fld98_1 : fldOf Try.prog 98 1 = some (1, false, 1) := by kernel_rfl
@[simp] theorem fld98_2 : fldOf Try.prog 98 2 = some (2, false, 1) := by kernel_rfl
@[simp] theorem fld98_3 : fldOf Try.prog 98 3 = some (3, false, 1) := by kernel_rfl
@[simp] theorem fld98_4 : fldOf Try.prog 98 4 = some (4, false, 1) := by kernel_rfl
@[simp] theorem fld98_5 : fldOf Try.prog 98 5 = some (5, false, 1) := by kernel_rfl
@[simp] theorem fld98_6 : fldOf Try.prog 98 6 = some (6, false, 1) := by kernel_rfl
@[simp] theorem fld98_7 : fldOf Try.prog 98 7 = some (7, false, 1) := by kernel_rfl
@[simp] theorem fld98_8 : fldOf Try.prog 98 8 = some (8, false, 1) := by kernel_rfl
@[simp] theorem fld98_9 : fldOf Try.prog 98 9 = some (9, false, 1) := by kernel_rfl
@[simp] theorem fld98_10 : fldOf Try.prog 98 10 = some (10, false, 1) := by kernel_rfl
@[simp] theorem ty99 : tyOf Try.prog 99 = some ⟨true, [.int .u64, .int .u64, .int .u32, .int .u8, .int .u8, .int .u8, .int .u8, .any, .ptr, .int .i32, .int .i32], [.int .u64 0, .int .u64 0, .int .u32 0, .int .u8 0, .int .u8 0, .int .u8 0, .int .u8 0, .nilFunc, .pointer none, .int .i32 0, .int .i32 0]⟩ := by kernel_rfl
@[simp] theorem fld99_0 : fldOf Try.prog 99 0 = some (0, false, 1) := by kernel_rfl
@[simp] theorem fld99_1 : fldOf Try.prog 99 1 = some (1, false, 1) := by kernel_rfl
@[simp] theorem fld99_2 : fldOf Try.prog 99 2 = some (2, false, 1) := by kernel_rfl
@[simp] theorem fld99_3 : fldOf Try.prog 99 3 = some (3, false, 1) := by kernel_rfl
@[simp] theorem fld99_4 : fldOf Try.prog 99 4 = some (4, false, 1) := by kernel_rfl
@[simp] theorem fld99_5 : fldOf Try.prog 99 5 = some (5, false, 1) := by kernel_rfl
@[simp] theorem fld99_6 : fldOf Try.prog 99 6 = some (6, false, 1) := by kernel_rfl
@[simp] theorem fld99_7 : fldOf Try.prog 99 7 = some (7, false, 1) := by kernel_rfl
@[simp] theorem fld99_8 : fldOf Try.prog 99 8 = some (8, false, 1) := by kernel_rfl
@[simp] theorem fld99_9 : fldOf Try.prog 99 9 = some (9, false, 1) := by kernel_rfl
@[simp] theorem fld99_10 : fldOf Try.prog 99 10 = some (10, false, 1) := by kernel_rfl
@[simp] theorem sig3 : sigOf Try.prog 3 = some [⟨false, [.bool], [.bool false]⟩] := by kernel_rfl
@[simp] theorem sig4 : sigOf Try.prog 4 = some [⟨false, [.bool], [.bool false]⟩] := by kernel_rfl
@[simp] theorem sig5 : sigOf Try.prog 5 = some [⟨false, [.bool], [.bool false]⟩] := by kernel_rfl
@[simp] theorem sig6 : sigOf Try.prog 6 = some [⟨false, [.bool], [.bool false]⟩] := by kernel_rfl
@[simp] theorem sig7 : sigOf Try.prog 7 = some [⟨false, [.bool], [.bool false]⟩] := by kernel_rfl
@[simp] theorem sig8 : sigOf Try.prog 8 = some [⟨false, [.bool], [.bool false]⟩] := by kernel_rfl
@[simp] theorem sig9 : sigOf Try.prog 9 = some [⟨false, [.bool], [.bool false]⟩] := by kernel_rfl
@[simp] theorem sig10 : sigOf Try.prog 10 = some [⟨false, [.bool], [.bool false]⟩] := by kernel_rfl
@[simp] theorem sig11 : sigOf Try.prog 11 = some [⟨false, [.bool], [.bool false]⟩] := by kernel_rfl
@[simp] theorem sig12 : sigOf Try.prog 12 = some [⟨false, [.bool], [.bool false]⟩] := by kernel_rfl
@[simp] theorem sig13 : sigOf Try.prog 13 = some [⟨false, [.bool], [.bool false]⟩] := by kernel_rfl
@[simp] theorem sig14 : sigOf Try.prog 14 = some [⟨false, [.bool], [.bool false]⟩] := by kernel_rfl
@[simp] theorem sig15 : sigOf Try.prog 15 = some [⟨false, [.bool], [.bool false]⟩] := by kernel_rfl
@[simp] theorem sig16 : sigOf Try.prog 16 = some [⟨false, [.bool], [.bool false]⟩] := by kernel_rfl
@[simp] theorem sig17 : sigOf Try.prog 17 = some [⟨false, [.bool], [.bool false]⟩] := by kernel_rfl
@[simp] theorem sig18 : sigOf Try.prog 18 = some [⟨false, [.bool], [.bool false]⟩] := by kernel_rfl
@[simp] theorem sig19 : sigOf Try.prog 19 = some [⟨false, [.bool], [.bool false]⟩] := by kernel_rfl
@[simp] theorem sig20 : sigOf Try.prog 20 = some [⟨false, [.bool], [.bool false]⟩] := by kernel_rfl
@[simp] theorem sig21 : sigOf Try.prog 21 = some [⟨false, [.slice], [.slice none 0 0]⟩] := by kernel_rfl
@[simp] theorem sig22 : sigOf Try.prog 22 = some [⟨false, [.bool], [.bool false]⟩] := by kernel_rfl
@[simp] theorem sig23 : sigOf Try.prog 23 = some [⟨false, [.bool], [.bool false]⟩] := by kernel_rfl
@[simp] theorem sig24 : sigOf Try.prog 24 = some [⟨false, [.int .i64], [.int .i64 0]⟩] := by kernel_rfl
@[simp] theorem sig25 : sigOf Try.prog 25 = some [⟨false, [.int .i64], [.int .i64 0]⟩] := by kernel_rfl
@[simp] theorem sig26 : sigOf Try.prog 26 = some [⟨false, [.bool], [.bool false]⟩] := by kernel_rfl
@[simp] theorem sig27 : sigOf Try.prog 27 = some [⟨false, [.bool], [.bool false]⟩] := by kernel_rfl
@[simp] theorem sig28 : sigOf Try.prog 28 = some [⟨false, [.bool], [.bool false]⟩] := by kernel_rfl
@[simp] theorem sig29 : sigOf Try.prog 29 = some [⟨false, [.bool], [.bool false]⟩] := by kernel_rfl
@[simp] theorem sig30 : sigOf Try.prog 30 = some [⟨false, [.bool], [.bool false]⟩] := by kernel_rfl
@[simp] theorem sig31 : sigOf Try.prog 31 = some [⟨false, [.bool], [.bool false]⟩] := by kernel_rfl
@[simp] theorem sig32 : sigOf Try.prog 32 = some [⟨false, [.bool], [.bool false]⟩] := by kernel_rfl
@[simp] theorem sig33 : sigOf Try.prog 33 = some [⟨false, [.bool], [.bool false]⟩] := by kernel_rfl
@[simp] theorem sig34 : sigOf Try.prog 34 = some [⟨false, [.bool], [.bool false]⟩] := by kernel_rfl
@[simp] theorem sig35 : sigOf Try.prog 35 = some [⟨false, [.int .i64], [.int .i64 0]⟩] := by kernel_rfl
@[simp] theorem sig36 : sigOf Try.prog 36 = some [⟨false, [.int .i64], [.int .i64 0]⟩] := by kernel_rfl
@[simp] theorem sig37 : sigOf Try.prog 37 = some [⟨false, [.int .i64], [.int .i64 0]⟩, ⟨false, [.int .i64], [.int .i64 0]⟩] := by kernel_rfl
@[simp] theorem sig38 : sigOf Try.prog 38 = some [⟨false, [.bool], [.bool false]⟩] := by kernel_rfl
@[simp] theorem sig39 : sigOf Try.prog 39 = some [⟨false, [.int .i64], [.int .i64 0]⟩] := by kernel_rfl
@[simp] theorem sig40 : sigOf Try.prog 40 = some [⟨false, [.int .i64], [.int .i64 0]⟩] := by kernel_rfl
@[simp] theorem sig41 : sigOf Try.prog 41 = some [⟨false, [.bool], [.bool false]⟩] := by kernel_rfl
@[simp] theorem sig42 : sigOf Try.prog 42 = some [⟨false, [.bool], [.bool false]⟩] := by kernel_rfl
@[simp] theorem sig43 : sigOf Try.prog 43 = some [⟨false, [.slice], [.slice none 0 0]⟩] := by kernel_rfl
@[simp] theorem sig44 : sigOf Try.prog 44 = some [⟨false, [.slice], [.slice none 0 0]⟩] := by kernel_rfl
@[simp] theorem sig45 : sigOf Try.prog 45 = some [⟨false, [.bool], [.bool false]⟩] := by kernel_rfl
@[simp] theorem sig46 : sigOf Try.prog 46 = some [⟨false, [.bool], [.bool false]⟩] := by kernel_rfl
@[simp] theorem sig47 : sigOf Try.prog 47 = some [⟨false, [.bool], [.bool false]⟩] := by kernel_rfl
@[simp] theorem sig48 : sigOf Try.prog 48 = some [⟨false, [.slice], [.slice none 0 0]⟩, ⟨false, [.int .i64], [.int .i64 0]⟩] := by kernel_rfl
@[simp] theorem sig49 : sigOf Try.prog 49 = some [⟨false, [.slice], [.slice none 0 0]⟩] := by kernel_rfl
@[simp] theorem sig50 : sigOf Try.prog 50 = some [⟨false, [.bool], [.bool false]⟩] := by kernel_rfl
@[simp] theorem sig51 : sigOf Try.prog 51 = some [] := by kernel_rfl
@[simp] theorem sig52 : sigOf Try.prog 52 = some [⟨false, [.slice], [.slice none 0 0]⟩] := by kernel_rfl
@[simp] theorem sig53 : sigOf Try.prog 53 = some [⟨false, [.bool], [.bool false]⟩] := by kernel_rfl
@[simp] theorem sig54 : sigOf Try.prog 54 = some [⟨false, [.int .i64], [.int .i64 0]⟩] := by kernel_rfl
@[simp] theorem sig55 : sigOf Try.prog 55 = some [⟨false, [.bool], [.bool false]⟩] := by kernel_rfl
@[simp] theorem sig56 : sigOf Try.prog 56 = some [⟨false, [.int .i64], [.int .i64 0]⟩] := by kernel_rfl
@[simp] theorem sig57 : sigOf Try.prog 57 = some [⟨true, [.bool, .bool, .bool, .bool], [.bool false, .bool false, .bool false, .bool false]⟩, ⟨false, [.bool], [.bool false]⟩] := by kernel_rfl
@[simp] theorem sig58 : sigOf Try.prog 58 = some [⟨false, [.bool], [.bool false]⟩] := by kernel_rfl
@[simp] theorem sig59 : sigOf Try.prog 59 = some [⟨false, [.bool], [.bool false]⟩] := by kernel_rfl
@[simp] theorem sig60 : sigOf Try.prog 60 = some [⟨false, [.slice], [.slice none 0 0]⟩, ⟨false, [.int .i64], [.int .i64 0]⟩] := by kernel_rfl
@[simp] theorem sig61 : sigOf Try.prog 61 = some [⟨false, [.int .i64], [.int .i64 0]⟩] := by kernel_rfl
@[simp] theorem sig62 : sigOf Try.prog 62 = some [] := by kernel_rfl
@[simp] theorem sig63 : sigOf Try.prog 63 = some [⟨false, [.int .i64], [.int .i64 0]⟩] := by kernel_rfl
@[simp] theorem sig64 : sigOf Try.prog 64 = some [⟨false, [.int .i64], [.int .i64 0]⟩] := by kernel_rfl
@[simp] theorem sig65 : sigOf Try.prog 65 = some [⟨false, [.bool], [.bool false]⟩] := by kernel_rfl
@[simp] theorem sig66 : sigOf Try.prog 66 = some [] := by kernel_rfl
@[simp] theorem sig67 : sigOf Try.prog 67 = some [] := by kernel_rfl
@[simp] theorem sig68 : sigOf Try.prog 68 = some [] := by kernel_rfl
@[simp] theorem sig69 : sigOf Try.prog 69 = some [⟨false, [.int .i64], [.int .i64 0]⟩, ⟨false, [.int .i64], [.int .i64 0]⟩] := by kernel_rfl
@[simp] theorem sig70 : sigOf Try.prog 70 = some [] := by kernel_rfl
@[simp] theorem sig71 : sigOf Try.prog 71 = some [⟨false, [.bool], [.bool false]⟩] := by kernel_rfl
@[simp] theorem sig72 : sigOf Try.prog 72 = some [⟨false, [.bool], [.bool false]⟩] := by kernel_rfl
@[simp] theorem sig73 : sigOf Try.prog 73 = some [⟨false, [.int .i64], [.int .i64 0]⟩] := by kernel_rfl
@[simp] theorem sig74 : sigOf Try.prog 74 = some [⟨false, [.int .i64], [.int .i64 0]⟩, ⟨false, [.bool], [.bool false]⟩] := by kernel_rfl
@[simp] theorem sig75 : sigOf Try.prog 75 = some [⟨false, [.int .i64], [.int .i64 0]⟩] := by kernel_rfl
@[simp] theorem sig76 : sigOf Try.prog 76 = some [⟨false, [.int .i64], [.int .i64 0]⟩] := by kernel_rfl
@[simp] theorem sig77 : sigOf Try.prog 77 = some [] := by kernel_rfl
@[simp] theorem sig78 : sigOf Try.prog 78 = some [⟨false, [.int .u64], [.int .u64 0]⟩] := by kernel_rfl
@[simp] theorem sig79 : sigOf Try.prog 79 = some [⟨false, [.int .u64], [.int .u64 0]⟩] := by kernel_rfl
@[simp] theorem sig80 : sigOf Try.prog 80 = some [⟨false, [.int .i64], [.int .i64 0]⟩] := by kernel_rfl
@[simp] theorem sig81 : sigOf Try.prog 81 = some [⟨false, [.int .i64], [.int .i64 0]⟩] := by kernel_rfl
@[simp] theorem sig82 : sigOf Try.prog 82 = some [⟨false, [.bool], [.bool false]⟩] := by kernel_rfl
@[simp] theorem sig83 : sigOf Try.prog 83 = some [⟨false, [.int .i64], [.int .i64 0]⟩, ⟨false, [.int .i64], [.int .i64 0]⟩] := by kernel_rfl
end Go.Proofs.Ythocajnpofdbmaa.T

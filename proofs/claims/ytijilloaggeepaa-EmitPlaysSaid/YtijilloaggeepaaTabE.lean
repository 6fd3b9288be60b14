/- Ytijilloaggeepaa: a text of our own, by an AI agent: TabE -/
import Derived.Test.YtijilloaggeepaaCore4
import Derived.Test.YtijilloaggeepaaProg
import Derived.KernelRfl
namespace Go.Proofs.Ytijilloaggeepaa.T
open Go Go.Alog
@[simp] theorem ty2 : tyOf Try.prog 2 = some ⟨false, [.int .i64], [.int .i64 0]⟩ := by kernel_rfl
@[simp] theorem ty3 : tyOf Try.prog 3 = some ⟨false, [.int .i64], [.int .i64 0]⟩ := by kernel_rfl
@[simp] theorem ty4 : tyOf Try.prog 4 = some ⟨false, [.bool], [.bool false]⟩ := by kernel_rfl
@[simp] theorem ty5 : tyOf Try.prog 5 = some ⟨false, [.int .u8], [.int .u8 0]⟩ := by kernel_rfl
@[simp] theorem ty6 : tyOf Try.prog 6 = some ⟨false, [.int .u8], [.int .u8 0]⟩ := by kernel_rfl
@[simp] theorem ty7 : tyOf Try.prog 7 = some ⟨true, [.int .i64, .int .i64, .bool, .int .u8], [.int .i64 0, .int .i64 0, .bool false, .int .u8 0]⟩ := by kernel_rfl
@[simp] theorem fld7_0 : fldOf Try.prog 7 0 = some (0, false, 1) := by kernel_rfl
@[simp] theorem fld7_1 : fldOf Try.prog 7 1 = some (1, false, 1) := by kernel_rfl
@[simp] theorem fld7_2 : fldOf Try.prog 7 2 = some (2, false, 1) := by kernel_rfl
@[simp] theorem fld7_3 : fldOf Try.prog 7 3 = some (3, false, 1) := by kernel_rfl
@[simp] theorem ty8 : tyOf Try.prog 8 = some ⟨true, [.int .i64, .int .i64, .bool, .int .u8], [.int .i64 0, .int .i64 0, .bool false, .int .u8 0]⟩ := by kernel_rfl
@[simp] theorem fld8_0 : fldOf Try.prog 8 0 = some (0, false, 1) := by kernel_rfl
@[simp] theorem fld8_1 : fldOf Try.prog 8 1 = some (1, false, 1) := by kernel_rfl
@[simp] theorem fld8_2 : fldOf Try.prog 8 2 = some (2, false, 1) := by kernel_rfl
@[simp] theorem fld8_3 : fldOf Try.prog 8 3 = some (3, false, 1) := by kernel_rfl
@[simp] theorem ty9 : tyOf Try.prog 9 = some ⟨false, [.str], [.string ByteArray.empty]⟩ := by kernel_rfl
@[simp] theorem ty10 : tyOf Try.prog 10 = some ⟨false, [.str], [.string ByteArray.empty]⟩ := by kernel_rfl
@[simp] theorem ty11 : tyOf Try.prog 11 = some ⟨false, [.str], [.string ByteArray.empty]⟩ := by kernel_rfl
@[simp] theorem ty12 : tyOf Try.prog 12 = some ⟨false, [.int .u64], [.int .u64 0]⟩ := by kernel_rfl
@[simp] theorem ty13 : tyOf Try.prog 13 = some ⟨true, [.str, .int .u64], [.string ByteArray.empty, .int .u64 0]⟩ := by kernel_rfl
@[simp] theorem fld13_0 : fldOf Try.prog 13 0 = some (0, false, 1) := by kernel_rfl
@[simp] theorem fld13_1 : fldOf Try.prog 13 1 = some (1, false, 1) := by kernel_rfl
@[simp] theorem ty14 : tyOf Try.prog 14 = some ⟨true, [.str, .int .u64], [.string ByteArray.empty, .int .u64 0]⟩ := by kernel_rfl
@[simp] theorem fld14_0 : fldOf Try.prog 14 0 = some (0, false, 1) := by kernel_rfl
@[simp] theorem fld14_1 : fldOf Try.prog 14 1 = some (1, false, 1) := by kernel_rfl
@[simp] theorem ty15 : tyOf Try.prog 15 = some ⟨false, [.ptr], [.pointer none]⟩ := by kernel_rfl
@[simp] theorem ty16 : tyOf Try.prog 16 = some ⟨false, [.ptr], [.pointer none]⟩ := by kernel_rfl
@[simp] theorem ty17 : tyOf Try.prog 17 = some ⟨false, [.ptr], [.pointer none]⟩ := by kernel_rfl
@[simp] theorem ty18 : tyOf Try.prog 18 = some ⟨true, [.ptr], [.pointer none]⟩ := by kernel_rfl
@[simp] theorem fld18_0 : fldOf Try.prog 18 0 = some (0, false, 1) := by kernel_rfl
@[simp] theorem ty19 : tyOf Try.prog 19 = some ⟨true, [.ptr], [.pointer none]⟩ := by kernel_rfl
@[simp] theorem fld19_0 : fldOf Try.prog 19 0 = some (0, false, 1) := by kernel_rfl
@[simp] theorem ty21 : tyOf Try.prog 21 = some ⟨false, [.int .i32], [.int .i32 0]⟩ := by kernel_rfl
@[simp] theorem ty22 : tyOf Try.prog 22 = some ⟨true, [.int .i64, .int .i64, .int .i64, .int .i64, .int .i64], [.int .i64 0, .int .i64 0, .int .i64 0, .int .i64 0, .int .i64 0]⟩ := by kernel_rfl
@[simp] theorem fld22_0 : fldOf Try.prog 22 0 = some (0, false, 1) := by kernel_rfl
@[simp] theorem fld22_1 : fldOf Try.prog 22 1 = some (1, false, 1) := by kernel_rfl
@[simp] theorem fld22_2 : fldOf Try.prog 22 2 = some (2, false, 1) := by kernel_rfl
@[simp] theorem fld22_3 : fldOf Try.prog 22 3 = some (3, false, 1) := by kernel_rfl
@[simp] theorem fld22_4 : fldOf Try.prog 22 4 = some (4, false, 1) := by kernel_rfl
@[simp] theorem ty23 : tyOf Try.prog 23 = some ⟨true, [.int .i64, .int .i64, .int .i64, .int .i64, .int .i64], [.int .i64 0, .int .i64 0, .int .i64 0, .int .i64 0, .int .i64 0]⟩ := by kernel_rfl
@[simp] theorem fld23_0 : fldOf Try.prog 23 0 = some (0, false, 1) := by kernel_rfl
@[simp] theorem fld23_1 : fldOf Try.prog 23 1 = some (1, false, 1) := by kernel_rfl
@[simp] theorem fld23_2 : fldOf Try.prog 23 2 = some (2, false, 1) := by kernel_rfl
@[simp] theorem fld23_3 : fldOf Try.prog 23 3 = some (3, false, 1) := by kernel_rfl
@[simp] theorem fld23_4 : fldOf Try.prog 23 4 = some (4, false, 1) := by kernel_rfl
@[simp] theorem ty24 : tyOf Try.prog 24 = some ⟨false, [.slice], [.slice none 0 0]⟩ := by kernel_rfl
@[simp] theorem el24 : elOf Try.prog 24 = some (23, 5, 40, [.int .i64 0, .int .i64 0, .int .i64 0, .int .i64 0, .int .i64 0]) := by kernel_rfl
@[simp] theorem ty25 : tyOf Try.prog 25 = some ⟨false, [.slice], [.slice none 0 0]⟩ := by kernel_rfl
@[simp] theorem el25 : elOf Try.prog 25 = some (34, 3, 24, [.int .i64 0, .int .i64 0, .int .i64 0]) := by kernel_rfl
@[simp] theorem ty26 : tyOf Try.prog 26 = some ⟨true, [.slice, .slice, .int .i64], [.slice none 0 0, .slice none 0 0, .int .i64 0]⟩ := by kernel_rfl
@[simp] theorem fld26_0 : fldOf Try.prog 26 0 = some (0, false, 1) := by kernel_rfl
@[simp] theorem fld26_1 : fldOf Try.prog 26 1 = some (1, false, 1) := by kernel_rfl
@[simp] theorem fld26_2 : fldOf Try.prog 26 2 = some (2, false, 1) := by kernel_rfl
@[simp] theorem ty27 : tyOf Try.prog 27 = some ⟨true, [.slice, .slice, .int .i64], [.slice none 0 0, .slice none 0 0, .int .i64 0]⟩ := by kernel_rfl
@[simp] theorem fld27_0 : fldOf Try.prog 27 0 = some (0, false, 1) := by kernel_rfl
@[simp] theorem fld27_1 : fldOf Try.prog 27 1 = some (1, false, 1) := by kernel_rfl
@[simp] theorem fld27_2 : fldOf Try.prog 27 2 = some (2, false, 1) := by kernel_rfl
@[simp] theorem ty33 : tyOf Try.prog 33 = some ⟨true, [.int .i64, .int .i64, .int .i64], [.int .i64 0, .int .i64 0, .int .i64 0]⟩ := by kernel_rfl
@[simp] theorem fld33_0 : fldOf Try.prog 33 0 = some (0, false, 1) := by kernel_rfl
@[simp] theorem fld33_1 : fldOf Try.prog 33 1 = some (1, false, 1) := by kernel_rfl
@[simp] theorem fld33_2 : fldOf Try.prog 33 2 = some (2, false, 1) := by kernel_rfl
@[simp] theorem ty34 : tyOf Try.prog 34 = some ⟨true, [.int .i64, .int .i64, .int .i64], [.int .i64 0, .int .i64 0, .int .i64 0]⟩ := by kernel_rfl
@[simp] theorem fld34_0 : fldOf Try.prog 34 0 = some (0, false, 1) := by kernel_rfl
@[simp] theorem fld34_1 : fldOf Try.prog 34 1 = some (1, false, 1) := by kernel_rfl
@[simp] theorem fld34_2 : fldOf Try.prog 34 2 = some (2, false, 1) := by kernel_rfl
@[simp] theorem ty37 : tyOf Try.prog 37 = some ⟨false, [.slice], [.slice none 0 0]⟩ := by kernel_rfl
@[simp] theorem el37 : elOf Try.prog 37 = some (4, 1, 1, [.bool false]) := by kernel_rfl
@[simp] theorem ty45 : tyOf Try.prog 45 = some ⟨false, [.slice], [.slice none 0 0]⟩ := by kernel_rfl
@[simp] theorem el45 : elOf Try.prog 45 = some (50, 8, 64, [.int .i64 0, .int .i64 0, .int .i64 0, .int .i64 0, .int .i64 0, .int .i64 0, .int .i64 0, .int .i64 0]) := by kernel_rfl
@[simp] theorem ty46 : tyOf Try.prog 46 = some ⟨false, [.slice], [.slice none 0 0]⟩ := by kernel_rfl
@[simp] theorem el46 : elOf Try.prog 46 = some (55, 3, 24, [.int .i64 0, .int .i64 0, .int .i64 0]) := by kernel_rfl
@[simp] theorem ty47 : tyOf Try.prog 47 = some ⟨true, [.slice, .slice, .int .i64], [.slice none 0 0, .slice none 0 0, .int .i64 0]⟩ := by kernel_rfl
@[simp] theorem fld47_0 : fldOf Try.prog 47 0 = some (0, false, 1) := by kernel_rfl
@[simp] theorem fld47_1 : fldOf Try.prog 47 1 = some (1, false, 1) := by kernel_rfl
@[simp] theorem fld47_2 : fldOf Try.prog 47 2 = some (2, false, 1) := by kernel_rfl
@[simp] theorem ty48 : tyOf Try.prog 48 = some ⟨true, [.slice, .slice, .int .i64], [.slice none 0 0, .slice none 0 0, .int .i64 0]⟩ := by kernel_rfl
@[simp] theorem fld48_0 : fldOf Try.prog 48 0 = some (0, false, 1) := by kernel_rfl
@[simp] theorem fld48_1 : fldOf Try.prog 48 1 = some (1, false, 1) := by kernel_rfl
@[simp] theorem fld48_2 : fldOf Try.prog 48 2 = some (2, false, 1) := by kernel_rfl
@[simp] theorem ty49 : tyOf Try.prog 49 = some ⟨true, [.int .i64, .int .i64, .int .i64, .int .i64, .int .i64, .int .i64, .int .i64, .int .i64], [.int .i64 0, .int .i64 0, .int .i64 0, .int .i64 0, .int .i64 0, .int .i64 0, .int .i64 0, .int .i64 0]⟩ := by kernel_rfl
@[simp] theorem fld49_0 : fldOf Try.prog 49 0 = some (0, false, 1) := by kernel_rfl
@[simp] theorem fld49_1 : fldOf Try.prog 49 1 = some (1, false, 1) := by kernel_rfl
@[simp] theorem fld49_2 : fldOf Try.prog 49 2 = some (2, false, 1) := by kernel_rfl
@[simp] theorem fld49_3 : fldOf Try.prog 49 3 = some (3, true, 5) := by kernel_rfl
@[simp] theorem ty50 : tyOf Try.prog 50 = some ⟨true, [.int .i64, .int .i64, .int .i64, .int .i64, .int .i64, .int .i64, .int .i64, .int .i64], [.int .i64 0, .int .i64 0, .int .i64 0, .int .i64 0, .int .i64 0, .int .i64 0, .int .i64 0, .int .i64 0]⟩ := by kernel_rfl
@[simp] theorem fld50_0 : fldOf Try.prog 50 0 = some (0, false, 1) := by kernel_rfl
@[simp] theorem fld50_1 : fldOf Try.prog 50 1 = some (1, false, 1) := by kernel_rfl
@[simp] theorem fld50_2 : fldOf Try.prog 50 2 = some (2, false, 1) := by kernel_rfl
@[simp] theorem fld50_3 : fldOf Try.prog 50 3 = some (3, true, 5) := by kernel_rfl
@[simp] theorem ty54 : tyOf Try.prog 54 = some ⟨false, [.ptr], [.pointer none]⟩ := by kernel_rfl
@[simp] theorem ty55 : tyOf Try.prog 55 = some ⟨true, [.int .i64, .int .i64, .int .i64], [.int .i64 0, .int .i64 0, .int .i64 0]⟩ := by kernel_rfl
@[simp] theorem fld55_0 : fldOf Try.prog 55 0 = some (0, false, 1) := by kernel_rfl
@[simp] theorem fld55_1 : fldOf Try.prog 55 1 = some (1, false, 1) := by kernel_rfl
@[simp] theorem fld55_2 : fldOf Try.prog 55 2 = some (2, false, 1) := by kernel_rfl
@[simp] theorem ty58 : tyOf Try.prog 58 = some ⟨false, [.slice], [.slice none 0 0]⟩ := by kernel_rfl
@[simp] theorem el58 : elOf Try.prog 58 = some (3, 1, 8, [.int .i64 0]) := by kernel_rfl
@[simp] theorem ty59 : tyOf Try.prog 59 = some ⟨true, [.int .i64, .int .i64, .slice, .slice], [.int .i64 0, .int .i64 0, .slice none 0 0, .slice none 0 0]⟩ := by kernel_rfl
@[simp] theorem fld59_0 : fldOf Try.prog 59 0 = some (0, false, 1) := by kernel_rfl
@[simp] theorem fld59_1 : fldOf Try.prog 59 1 = some (1, false, 1) := by kernel_rfl
@[simp] theorem fld59_2 : fldOf Try.prog 59 2 = some (2, false, 1) := by kernel_rfl
@[simp] theorem fld59_3 : fldOf Try.prog 59 3 = some (3, false, 1) := by kernel_rfl
@[simp] theorem ty60 : tyOf Try.prog 60 = some ⟨true, [.int .i64, .int .i64, .slice, .slice], [.int .i64 0, .int .i64 0, .slice none 0 0, .slice none 0 0]⟩ := by kernel_rfl
@[simp] theorem fld60_0 : fldOf Try.prog 60 0 = some (0, false, 1) := by kernel_rfl
@[simp] theorem fld60_1 : fldOf Try.prog 60 1 = some (1, false, 1) := by kernel_rfl
@[simp] theorem fld60_2 : fldOf Try.prog 60 2 = some (2, false, 1) := by kernel_rfl
@[simp] theorem fld60_3 : fldOf Try.prog 60 3 = some (3, false, 1) := by kernel_rfl
@[simp] theorem ty68 : tyOf Try.prog 68 = some ⟨false, [.int .u64], [.int .u64 0]⟩ := by kernel_rfl
@[simp] theorem ty75 : tyOf Try.prog 75 = some ⟨false, [.ptr], [.pointer none]⟩ := by kernel_rfl
@[simp] theorem ty77 : tyOf Try.prog 77 = some ⟨false, [.ptr], [.pointer none]⟩ := by kernel_rfl
@[simp] theorem ty79 : tyOf Try.prog 79 = some ⟨true, [.int .i64, .int .i64, .int .i64, .int .i64, .int .i64, .int .i64, .int .i64, .int .i64, .int .i64, .int .i64, .int .i64, .int .i64, .int .i64, .int .i64, .int .i64, .int .i64, .int .i64, .int .i64, .int .i64, .int .i64, .int .i64, .int .i64, .int .i64, .int .i64, .int .i64, .int .i64, .int .i64, .int .i64, .int .i64, .int .i64, .int .i64, .int .i64], [.int .i64 0, .int .i64 0, .int .i64 0, .int .i64 0, .int .i64 0, .int .i64 0, .int .i64 0, .int .i64 0, .int .i64 0, .int .i64 0, .int .i64 0, .int .i64 0, .int .i64 0, .int .i64 0, .int .i64 0, .int .i64 0, .int .i64 0, .int .i64 0, .int .i64 0, .int .i64 0, .int .i64 0, .int .i64 0, .int .i64 0, .int .i64 0, .int .i64 0, .int .i64 0, .int .i64 0, .int .i64 0, .int .i64 0, .int .i64 0, .int .i64 0, .int .i64 0]⟩ := by kernel_rfl
@[simp] theorem ar79 : arOf Try.prog 79 = some (32, 1) := by kernel_rfl
@[simp] theorem ty80 : tyOf Try.prog 80 = some ⟨true, [.slice, .ptr, .int .i64, .int .i64, .int .i64, .int .i64, .int .i64, .int .i64, .int .i64, .int .i64, .int .i64, .int .i64, .int .i64, .int .i64, .int .i64, .int .i64, .int .i64, .int .i64, .int .i64, .int .i64, .int .i64, .int .i64, .int .i64, .int .i64, .int .i64, .int .i64, .int .i64, .int .i64, .int .i64, .int .i64, .int .i64, .int .i64, .int .i64, .int .i64, .int .i64, .slice, .slice], [.slice none 0 0, .pointer none, .int .i64 0, .int .i64 0, .int .i64 0, .int .i64 0, .int .i64 0, .int .i64 0, .int .i64 0, .int .i64 0, .int .i64 0, .int .i64 0, .int .i64 0, .int .i64 0, .int .i64 0, .int .i64 0, .int .i64 0, .int .i64 0, .int .i64 0, .int .i64 0, .int .i64 0, .int .i64 0, .int .i64 0, .int .i64 0, .int .i64 0, .int .i64 0, .int .i64 0, .int .i64 0, .int .i64 0, .int .i64 0, .int .i64 0, .int .i64 0, .int .i64 0, .int .i64 0, .int .i64 0, .slice none 0 0, .slice none 0 0]⟩ := by kernel_rfl
@[simp] theorem fld80_0 : fldOf Try.prog 80 0 = some (0, false, 1) := by kernel_rfl
@[simp] theorem fld80_1 : fldOf Try.prog 80 1 = some (1, false, 1) := by kernel_rfl
@[simp] theorem fld80_2 : fldOf Try.prog 80 2 = some (2, true, 32) := by kernel_rfl
@[simp] theorem fld80_3 : fldOf Try.prog 80 3 = some (34, false, 1) := by kernel_rfl
@[simp] theorem fld80_4 : fldOf Try.prog 80 4 = some (35, false, 1) := by kernel_rfl
@[simp] theorem fld80_5 : fldOf Try.prog 80 5 = some (36, false, 1) := by kernel_rfl
@[simp] theorem ty81 : tyOf Try.prog 81 = some ⟨true, [.slice, .ptr, .int .i64, .int .i64, .int .i64, .int .i64, .int .i64, .int .i64, .int .i64, .int .i64, .int .i64, .int .i64, .int .i64, .int .i64, .int .i64, .int .i64, .int .i64, .int .i64, .int .i64, .int .i64, .int .i64, .int .i64, .int .i64, .int .i64, .int .i64, .int .i64, .int .i64, .int .i64, .int .i64, .int .i64, .int .i64, .int .i64, .int .i64, .int .i64, .int .i64, .slice, .slice], [.slice none 0 0, .pointer none, .int .i64 0, .int .i64 0, .int .i64 0, .int .i64 0, .int .i64 0, .int .i64 0, .int .i64 0, .int .i64 0, .int .i64 0, .int .i64 0, .int .i64 0, .int .i64 0, .int .i64 0, .int .i64 0, .int .i64 0, .int .i64 0, .int .i64 0, .int .i64 0, .int .i64 0, .int .i64 0, .int .i64 0, .int .i64 0, .int .i64 0, .int .i64 0, .int .i64 0, .int .i64 0, .int .i64 0, .int .i64 0, .int .i64 0, .int .i64 0, .int .i64 0, .int .i64 0, .int .i64 0, .slice none 0 0, .slice none 0 0]⟩ := by kernel_rfl
@[simp] theorem fld81_0 : fldOf Try.prog 81 0 = some (0, false, 1) := by kernel_rfl
@[simp] theorem fld81_1 : fldOf Try.prog 81 1 = some (1, false, 1) := by kernel_rfl
@[simp] theorem fld81_2 : fldOf Try.prog 81 2 = some (2, true, 32) := by kernel_rfl
@[simp] theorem fld81_3 : fldOf Try.prog 81 3 = some (34, false, 1) := by kernel_rfl
@[simp] theorem fld81_4 : fldOf Try.prog 81 4 = some (35, false, 1) := by kernel_rfl
@[simp] theorem fld81_5 : fldOf Try.prog 81 5 = some (36, false, 1) := by kernel_rfl
@[simp] theorem ty83 : tyOf Try.prog 83 = some ⟨true, [.slice], [.slice none 0 0]⟩ := by kernel_rfl
@[simp] theorem fld83_0 : fldOf Try.prog 83 0 = some (0, false, 1) := by kernel_rfl
@[simp] theorem ty84 : tyOf Try.prog 84 = some ⟨true, [.slice], [.slice none 0 0]⟩ := by kernel_rfl
@[simp] theorem fld84_0 : fldOf Try.prog 84 0 = some (0, false, 1) := by kernel_rfl
@[simp] theorem ty87 : tyOf Try.prog 87 = some ⟨true, [.bool, .bool, .bool, .bool], [.bool false, .bool false, .bool false, .bool false]⟩ := by kernel_rfl
@[simp] theorem fld87_0 : fldOf Try.prog 87 0 = some (0, false, 1) := by kernel_rfl
@[simp] theorem fld87_1 : fldOf Try.prog 87 1 = some (1, false, 1) := by kernel_rfl
@[simp] theorem fld87_2 : fldOf Try.prog 87 2 = some (2, false, 1) := by kernel_rfl
@[simp] theorem fld87_3 : fldOf Try.prog 87 3 = some (3, false, 1) := by kernel_rfl
@[simp] theorem ty88 : tyOf Try.prog 88 = some ⟨true, [.bool, .bool, .bool, .bool], [.bool false, .bool false, .bool false, .bool false]⟩ := by kernel_rfl
@[simp] theorem fld88_0 : fldOf Try.prog 88 0 = some (0, false, 1) := by kernel_rfl
@[simp] theorem fld88_1 : fldOf Try.prog 88 1 = some (1, false, 1) := by kernel_rfl
@[simp] theorem fld88_2 : fldOf Try.prog 88 2 = some (2, false, 1) := by kernel_rfl
@[simp] theorem fld88_3 : fldOf Try.prog 88 3 = some (3, false, 1) := by kernel_rfl
@[simp] theorem ty97 : tyOf Try.prog 97 = some ⟨true, [.ptr, .ptr, .ptr, .str], [.pointer none, .pointer none, .pointer none, .string ByteArray.empty]⟩ := by kernel_rfl
@[simp] theorem fld97_0 : fldOf Try.prog 97 0 = some (0, false, 1) := by kernel_rfl
@[simp] theorem fld97_1 : fldOf Try.prog 97 1 = some (1, false, 1) := by kernel_rfl
@[simp] theorem fld97_2 : fldOf Try.prog 97 2 = some (2, false, 1) := by kernel_rfl
@[simp] theorem fld97_3 : fldOf Try.prog 97 3 = some (3, false, 1) := by kernel_rfl
@[simp] theorem ty98 : tyOf Try.prog 98 = some ⟨true, [.ptr, .ptr, .ptr, .str], [.pointer none, .pointer none, .pointer none, .string ByteArray.empty]⟩ := by kernel_rfl
@[simp] theorem fld98_0 : fldOf Try.prog 98 0 = some (0, false, 1) := by kernel_rfl
@[simp] theorem fld98_1 : fldOf Try.prog 98 1 = some (1, false, 1) := by kernel_rfl
@[simp] theorem fld98_2 : fldOf Try.prog 98 2 = some (2, false, 1) := by kernel_rfl
@[simp] theorem fld98_3 : fldOf Try.prog 98 3 = some (3, false, 1) := by kernel_rfl
@[simp] theorem ty102 : tyOf Try.prog 102 = some ⟨false, [.int .u32], [.int .u32 0]⟩ := by kernel_rfl
@[simp] theorem ty103 : tyOf Try.prog 103 = some ⟨false, [.int .u8], [.int .u8 0]⟩ := by kernel_rfl
@[simp] theorem ty104 : tyOf Try.prog 104 = some ⟨false, [.int .u8], [.int .u8 0]⟩ := by kernel_rfl
@[simp] theorem ty106 : tyOf Try.prog 106 = some ⟨false, [.ptr], [.pointer none]⟩ := by kernel_rfl
@[simp] theorem ty107 : tyOf Try.prog 107 = some ⟨false, [.int .i32], [.int .i32 0]⟩ := by kernel_rfl
@[simp] theorem ty108 : tyOf Try.prog 108 = some ⟨false, [.int .i32], [.int .i32 0]⟩ := by kernel_rfl
@[simp] theorem ty109 : tyOf Try.prog 109 = some ⟨true, [.int .u64, .int .u64, .int .u32, .int .u8, .int .u8, .int .u8, .int .u8, .any, .ptr, .int .i32, .int .i32], [.int .u64 0, .int .u64 0, .int .u32 0, .int .u8 0, .int .u8 0, .int .u8 0, .int .u8 0, .nilFunc, .pointer none, .int .i32 0, .int .i32 0]⟩ := by kernel_rfl
@[simp] theorem fld109_0 : fldOf Try.prog 109 0 = some (0, false, 1) := by kernel_rfl
@[simp] theorem fld109_1 : fldOf Try.prog 109 1 = some (1, false, 1) := by kernel_rfl
@[simp] theorem fld109_2 : fldOf Try.prog 109 2 = some (2, false, 1) := by kernel_rfl
@[simp] theorem fld109_3 : fldOf Try.prog 109 3 = some (3, false, 1) := by kernel_rfl
@[simp] theorem fld109_4 : fldOf Try.prog 109 4 = some (4, false, 1) := by kernel_rfl
@[simp] theorem fld109_5 : fldOf Try.prog 109 5 = some (5, false, 1) := by kernel_rfl
@[simp] theorem fld109_6 : fldOf Try.prog 109 6 = some (6, false, 1) := by kernel_rfl
@[simp] theorem fld109_7 : fldOf Try.prog 109 7 = some (7, false, 1) := by kernel_rfl
@[simp] theorem fld109_8 : fldOf Try.prog 109 8 = some (8, false, 1) := by kernel_rfl
@[simp] theorem fld109_9 : fldOf Try.prog 109 9 = some (9, false, 1) := by kernel_rfl
@[simp] theorem fld109_10 : fldOf Try.prog 109 10 = some (10, false, 1) := by kernel_rfl
@[simp] theorem ty110 : tyOf Try.prog 110 = some ⟨true, [.int .u64, .int .u64, .int .u32, .int .u8, .int .u8, .int .u8, .int .u8, .any, .ptr, .int .i32, .int .i32], [.int .u64 0, .int .u64 0, .int .u32 0, .int .u8 0, .int .u8 0, .int .u8 0, .int .u8 0, .nilFunc, .pointer none, .int .i32 0, .int .i32 0]⟩ := by kernel_rfl
@[simp] theorem fld110_0 : fldOf Try.prog 110 0 = some (0, false, 1) := by kernel_rfl
@[simp] theorem fld110_1 : fldOf Try.prog 110 1 = some (1, false, 1) := by kernel_rfl
@[simp] theorem fld110_2 : fldOf Try.prog 110 2 = some (2, false, 1) := by kernel_rfl
@[simp] theorem fld110_3 : fldOf Try.prog 110 3 = some (3, false, 1) := by kernel_rfl
@[simp] theorem fld110_4 : fldOf Try.prog 110 4 = some (4, false, 1) := by kernel_rfl
@[simp] theorem fld110_5 : fldOf Try.prog 110 5 = some (5, false, 1) := by kernel_rfl
@[simp] theorem fld110_6 : fldOf Try.prog 110 6 = some (6, false, 1) := by kernel_rfl
@[simp] theorem fld110_7 : fldOf Try.prog 110 7 = some (7, false, 1) := by kernel_rfl
@[simp] theorem fld110_8 : fldOf Try.prog 110 8 = some (8, false, 1) := by kernel_rfl
@[simp] theorem fld110_9 : fldOf Try.prog 110 9 = some (9, false, 1) := by kernel_rfl
@[simp] theorem fld110_10 : fldOf Try.prog 110 10 = some (10, false, 1) := by kernel_rfl
@[simp] theorem sig3 : sigOf Try.prog 3 = some [⟨false, [.bool], [.bool false]⟩] := by kernel_rfl
@[simp] theorem sig4 : sigOf Try.prog 4 = some [⟨false, [.bool], [.bool false]⟩] := by kernel_rfl
@[simp] theorem sig5 : sigOf Try.prog 5 = some [⟨false, [.bool], [.bool false]⟩] := by kernel_rfl
@[simp] theorem sig6 : sigOf Try.prog 6 = some [⟨false, [.bool], [.bool false]⟩] := by kernel_rfl
@[simp] theorem sig7 : sigOf Try.prog 7 = some [⟨false, [.bool], [.bool false]⟩] := by kernel_rfl
@[simp] theorem sig8 : sigOf Try.prog 8 = some [⟨false, [.bool], [.bool false]⟩] := by kernel_rfl
@[simp] theorem sig9 : sigOf Try.prog 9 = some [⟨false, [.bool], [.bool false]⟩] := by kernel_rfl
@[simp] theorem sig10 : sigOf Try.prog 10 = some [⟨false, [.int .i64], [.int .i64 0]⟩] := by kernel_rfl
@[simp] theorem sig11 : sigOf Try.prog 11 = some [⟨false, [.slice], [.slice none 0 0]⟩] := by kernel_rfl
@[simp] theorem sig12 : sigOf Try.prog 12 = some [⟨false, [.int .i64], [.int .i64 0]⟩] := by kernel_rfl
@[simp] theorem sig13 : sigOf Try.prog 13 = some [⟨false, [.int .i64], [.int .i64 0]⟩] := by kernel_rfl
@[simp] theorem sig14 : sigOf Try.prog 14 = some [⟨false, [.bool], [.bool false]⟩] := by kernel_rfl
@[simp] theorem sig15 : sigOf Try.prog 15 = some [⟨false, [.slice], [.slice none 0 0]⟩] := by kernel_rfl
@[simp] theorem sig16 : sigOf Try.prog 16 = some [⟨false, [.bool], [.bool false]⟩] := by kernel_rfl
@[simp] theorem sig17 : sigOf Try.prog 17 = some [⟨false, [.bool], [.bool false]⟩] := by kernel_rfl
@[simp] theorem sig18 : sigOf Try.prog 18 = some [⟨false, [.int .i64], [.int .i64 0]⟩, ⟨false, [.bool], [.bool false]⟩] := by kernel_rfl
@[simp] theorem sig19 : sigOf Try.prog 19 = some [⟨false, [.int .i64], [.int .i64 0]⟩] := by kernel_rfl
@[simp] theorem sig20 : sigOf Try.prog 20 = some [] := by kernel_rfl
@[simp] theorem sig21 : sigOf Try.prog 21 = some [⟨false, [.bool], [.bool false]⟩] := by kernel_rfl
@[simp] theorem sig22 : sigOf Try.prog 22 = some [⟨true, [.slice, .slice, .int .i64], [.slice none 0 0, .slice none 0 0, .int .i64 0]⟩, ⟨false, [.int .i64], [.int .i64 0]⟩, ⟨false, [.bool], [.bool false]⟩] := by kernel_rfl
@[simp] theorem sig23 : sigOf Try.prog 23 = some [⟨false, [.int .i64], [.int .i64 0]⟩, ⟨false, [.bool], [.bool false]⟩] := by kernel_rfl
@[simp] theorem sig24 : sigOf Try.prog 24 = some [⟨false, [.int .i64], [.int .i64 0]⟩] := by kernel_rfl
@[simp] theorem sig25 : sigOf Try.prog 25 = some [⟨true, [.int .i64, .int .i64, .slice, .slice], [.int .i64 0, .int .i64 0, .slice none 0 0, .slice none 0 0]⟩] := by kernel_rfl
@[simp] theorem sig26 : sigOf Try.prog 26 = some [⟨false, [.int .i64], [.int .i64 0]⟩] := by kernel_rfl
@[simp] theorem sig27 : sigOf Try.prog 27 = some [⟨false, [.bool], [.bool false]⟩] := by kernel_rfl
@[simp] theorem sig28 : sigOf Try.prog 28 = some [⟨false, [.slice], [.slice none 0 0]⟩] := by kernel_rfl
@[simp] theorem sig29 : sigOf Try.prog 29 = some [⟨false, [.bool], [.bool false]⟩] := by kernel_rfl
@[simp] theorem sig30 : sigOf Try.prog 30 = some [⟨false, [.slice], [.slice none 0 0]⟩] := by kernel_rfl
@[simp] theorem sig31 : sigOf Try.prog 31 = some [⟨false, [.bool], [.bool false]⟩] := by kernel_rfl
@[simp] theorem sig32 : sigOf Try.prog 32 = some [⟨false, [.int .i64], [.int .i64 0]⟩] := by kernel_rfl
@[simp] theorem sig33 : sigOf Try.prog 33 = some [⟨false, [.int .i64], [.int .i64 0]⟩] := by kernel_rfl
@[simp] theorem sig34 : sigOf Try.prog 34 = some [⟨false, [.int .i64], [.int .i64 0]⟩] := by kernel_rfl
@[simp] theorem sig35 : sigOf Try.prog 35 = some [⟨true, [.slice, .slice, .int .i64], [.slice none 0 0, .slice none 0 0, .int .i64 0]⟩] := by kernel_rfl
@[simp] theorem sig36 : sigOf Try.prog 36 = some [⟨true, [.slice, .slice, .int .i64], [.slice none 0 0, .slice none 0 0, .int .i64 0]⟩] := by kernel_rfl
@[simp] theorem sig37 : sigOf Try.prog 37 = some [⟨true, [.int .i64, .int .i64, .int .i64, .int .i64, .int .i64], [.int .i64 0, .int .i64 0, .int .i64 0, .int .i64 0, .int .i64 0]⟩, ⟨false, [.bool], [.bool false]⟩] := by kernel_rfl
@[simp] theorem sig38 : sigOf Try.prog 38 = some [⟨true, [.slice, .slice, .int .i64], [.slice none 0 0, .slice none 0 0, .int .i64 0]⟩] := by kernel_rfl
@[simp] theorem sig39 : sigOf Try.prog 39 = some [⟨true, [.slice, .slice, .int .i64], [.slice none 0 0, .slice none 0 0, .int .i64 0]⟩] := by kernel_rfl
@[simp] theorem sig40 : sigOf Try.prog 40 = some [⟨false, [.ptr], [.pointer none]⟩] := by kernel_rfl
@[simp] theorem sig41 : sigOf Try.prog 41 = some [⟨false, [.slice], [.slice none 0 0]⟩] := by kernel_rfl
@[simp] theorem sig42 : sigOf Try.prog 42 = some [⟨false, [.int .i64], [.int .i64 0]⟩] := by kernel_rfl
@[simp] theorem sig43 : sigOf Try.prog 43 = some [⟨false, [.slice], [.slice none 0 0]⟩] := by kernel_rfl
@[simp] theorem sig44 : sigOf Try.prog 44 = some [⟨false, [.int .i64], [.int .i64 0]⟩] := by kernel_rfl
@[simp] theorem sig45 : sigOf Try.prog 45 = some [⟨false, [.bool], [.bool false]⟩] := by kernel_rfl
@[simp] theorem sig46 : sigOf Try.prog 46 = some [⟨false, [.int .i64], [.int .i64 0]⟩] := by kernel_rfl
@[simp] theorem sig47 : sigOf Try.prog 47 = some [⟨false, [.int .i64], [.int .i64 0]⟩, ⟨false, [.int .i64], [.int .i64 0]⟩, ⟨false, [.bool], [.bool false]⟩] := by kernel_rfl
@[simp] theorem sig48 : sigOf Try.prog 48 = some [] := by kernel_rfl
@[simp] theorem sig49 : sigOf Try.prog 49 = some [⟨false, [.int .i64], [.int .i64 0]⟩] := by kernel_rfl
@[simp] theorem sig50 : sigOf Try.prog 50 = some [⟨false, [.slice], [.slice none 0 0]⟩] := by kernel_rfl
@[simp] theorem sig51 : sigOf Try.prog 51 = some [⟨true, [.bool, .bool, .bool, .bool], [.bool false, .bool false, .bool false, .bool false]⟩, ⟨false, [.bool], [.bool false]⟩] := by kernel_rfl
@[simp] theorem sig52 : sigOf Try.prog 52 = some [⟨false, [.bool], [.bool false]⟩] := by kernel_rfl
@[simp] theorem sig53 : sigOf Try.prog 53 = some [⟨false, [.bool], [.bool false]⟩] := by kernel_rfl
@[simp] theorem sig54 : sigOf Try.prog 54 = some [⟨false, [.int .i64], [.int .i64 0]⟩, ⟨false, [.bool], [.bool false]⟩] := by kernel_rfl
@[simp] theorem sig55 : sigOf Try.prog 55 = some [⟨false, [.int .i64], [.int .i64 0]⟩] := by kernel_rfl
@[simp] theorem sig56 : sigOf Try.prog 56 = some [⟨false, [.bool], [.bool false]⟩] := by kernel_rfl
@[simp] theorem sig57 : sigOf Try.prog 57 = some [⟨false, [.int .i64], [.int .i64 0]⟩] := by kernel_rfl
@[simp] theorem sig58 : sigOf Try.prog 58 = some [⟨false, [.int .i64], [.int .i64 0]⟩, ⟨false, [.bool], [.bool false]⟩] := by kernel_rfl
@[simp] theorem sig59 : sigOf Try.prog 59 = some [⟨false, [.int .i64], [.int .i64 0]⟩, ⟨false, [.int .i64], [.int .i64 0]⟩, ⟨false, [.bool], [.bool false]⟩] := by kernel_rfl
@[simp] theorem sig60 : sigOf Try.prog 60 = some [⟨false, [.bool], [.bool false]⟩] := by kernel_rfl
@[simp] theorem sig61 : sigOf Try.prog 61 = some [⟨false, [.int .i64], [.int .i64 0]⟩] := by kernel_rfl
end Go.Proofs.Ytijilloaggeepaa.T

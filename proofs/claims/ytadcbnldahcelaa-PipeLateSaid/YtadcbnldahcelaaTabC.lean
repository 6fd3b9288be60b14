/- Ytadcbnldahcelaa: a text of our own, by an AI agent: TabC -/
import Derived.Test.YtadcbnldahcelaaCore4
import Derived.Test.YtadcbnldahcelaaProg
import Derived.KernelRfl
namespace Go.Proofs.Ytadcbnldahcelaa.T
open Go Go.Alog
@[simp] theorem ty2 : tyOf Try.prog 2 = some ⟨false, [.int .i64], [.int .i64 0]⟩ := by kernel_rfl
@[simp] theorem ty3 : tyOf Try.prog 3 = some ⟨false, [.int .i64], [.int .i64 0]⟩ := by kernel_rfl
@[simp] theorem ty4 : tyOf Try.prog 4 = some ⟨false, [.bool], [.bool false]⟩ := by kernel_rfl
@[simp] theorem ty5 : tyOf Try.prog 5 = some ⟨false, [.int .u8], [.int .u8 0]⟩ := by kernel_rfl
@[simp] theorem ty6 : tyOf Try.prog 6 = some ⟨false, [.int .u8], [.int .u8 0]⟩ := by kernel_rfl
@[simp] theorem ty7 : tyOf Try.prog 7 = some ⟨true, [.int .i64, .int .i64, .bool, .int .u8], [.int .i64 0, .int .i64 0, .bool false, .int .u8 0]⟩ := by kernel_rfl
@[simp] theorem fld7_0 : fldOf Try.prog 7 0 = some (0, false, 1) := by kernel_rfl
@[simp] theorem fld7_1 : fldOf Try.prog 7 1 = some (1, false, 1) := by kernel_rfl
@[simp] theorem fld7_2 : fldOf Try.prog 7 2 = some (2, false, 1) := by kernel_rfl
@[simp] theorem fld7_3 : fldOf Try.prog 7 3 = some (3, false, 1) := by kernel_rfl
@[simp] theorem ty8 : tyOf Try.prog 8 = some ⟨true, [.int .i64, .int .i64, .bool, .int .u8], [.int .i64 0, .int .i64 0, .bool false, .int .u8 0]⟩ := by kernel_rfl
@[simp] theorem fld8_0 : fldOf Try.prog 8 0 = some (0, false, 1) := by kernel_rfl
@[simp] theorem fld8_1 : fldOf Try.prog 8 1 = some (1, false, 1) := by kernel_rfl
@[simp] theorem fld8_2 : fldOf Try.prog 8 2 = some (2, false, 1) := by kernel_rfl
@[simp] theorem fld8_3 : fldOf Try.prog 8 3 = some (3, false, 1) := by kernel_rfl
@[simp] theorem ty9 : tyOf Try.prog 9 = some ⟨false, [.str], [.string ByteArray.empty]⟩ := by kernel_rfl
@[simp] theorem ty10 : tyOf Try.prog 10 = some ⟨false, [.str], [.string ByteArray.empty]⟩ := by kernel_rfl
@[simp] theorem ty11 : tyOf Try.prog 11 = some ⟨false, [.str], [.string ByteArray.empty]⟩ := by kernel_rfl
@[simp] theorem ty12 : tyOf Try.prog 12 = some ⟨false, [.int .u64], [.int .u64 0]⟩ := by kernel_rfl
@[simp] theorem ty13 : tyOf Try.prog 13 = some ⟨true, [.str, .int .u64], [.string ByteArray.empty, .int .u64 0]⟩ := by kernel_rfl
@[simp] theorem fld13_0 : fldOf Try.prog 13 0 = some (0, false, 1) := by kernel_rfl
@[simp] theorem fld13_1 : fldOf Try.prog 13 1 = some (1, false, 1) := by kernel_rfl
@[simp] theorem ty14 : tyOf Try.prog 14 = some ⟨true, [.str, .int .u64], [.string ByteArray.empty, .int .u64 0]⟩ := by kernel_rfl
@[simp] theorem fld14_0 : fldOf Try.prog 14 0 = some (0, false, 1) := by kernel_rfl
@[simp] theorem fld14_1 : fldOf Try.prog 14 1 = some (1, false, 1) := by kernel_rfl
@[simp] theorem ty15 : tyOf Try.prog 15 = some ⟨false, [.ptr], [.pointer none]⟩ := by kernel_rfl
@[simp] theorem ty16 : tyOf Try.prog 16 = some ⟨false, [.ptr], [.pointer none]⟩ := by kernel_rfl
@[simp] theorem ty17 : tyOf Try.prog 17 = some ⟨false, [.ptr], [.pointer none]⟩ := by kernel_rfl
@[simp] theorem ty18 : tyOf Try.prog 18 = some ⟨true, [.ptr], [.pointer none]⟩ := by kernel_rfl
@[simp] theorem fld18_0 : fldOf Try.prog 18 0 = some (0, false, 1) := by kernel_rfl
@[simp] theorem ty19 : tyOf Try.prog 19 = some ⟨true, [.ptr], [.pointer none]⟩ := by kernel_rfl
@[simp] theorem fld19_0 : fldOf Try.prog 19 0 = some (0, false, 1) := by kernel_rfl
@[simp] theorem ty21 : tyOf Try.prog 21 = some ⟨false, [.int .i32], [.int .i32 0]⟩ := by kernel_rfl
@[simp] theorem ty22 : tyOf Try.prog 22 = some ⟨false, [.slice], [.slice none 0 0]⟩ := by kernel_rfl
@[simp] theorem el22 : elOf Try.prog 22 = some (34, 5, 40, [.int .i64 0, .int .i64 0, .int .i64 0, .int .i64 0, .int .i64 0]) := by kernel_rfl
@[simp] theorem ty23 : tyOf Try.prog 23 = some ⟨false, [.slice], [.slice none 0 0]⟩ := by kernel_rfl
@[simp] theorem el23 : elOf Try.prog 23 = some (3, 1, 8, [.int .i64 0]) := by kernel_rfl
@[simp] theorem ty27 : tyOf Try.prog 27 = some ⟨true, [.int .i64, .int .i64, .slice, .slice], [.int .i64 0, .int .i64 0, .slice none 0 0, .slice none 0 0]⟩ := by kernel_rfl
@[simp] theorem fld27_0 : fldOf Try.prog 27 0 = some (0, false, 1) := by kernel_rfl
@[simp] theorem fld27_1 : fldOf Try.prog 27 1 = some (1, false, 1) := by kernel_rfl
@[simp] theorem fld27_2 : fldOf Try.prog 27 2 = some (2, false, 1) := by kernel_rfl
@[simp] theorem fld27_3 : fldOf Try.prog 27 3 = some (3, false, 1) := by kernel_rfl
@[simp] theorem ty28 : tyOf Try.prog 28 = some ⟨true, [.int .i64, .int .i64, .slice, .slice], [.int .i64 0, .int .i64 0, .slice none 0 0, .slice none 0 0]⟩ := by kernel_rfl
@[simp] theorem fld28_0 : fldOf Try.prog 28 0 = some (0, false, 1) := by kernel_rfl
@[simp] theorem fld28_1 : fldOf Try.prog 28 1 = some (1, false, 1) := by kernel_rfl
@[simp] theorem fld28_2 : fldOf Try.prog 28 2 = some (2, false, 1) := by kernel_rfl
@[simp] theorem fld28_3 : fldOf Try.prog 28 3 = some (3, false, 1) := by kernel_rfl
@[simp] theorem ty29 : tyOf Try.prog 29 = some ⟨true, [.int .i64, .int .i64, .slice, .slice], [.int .i64 0, .int .i64 0, .slice none 0 0, .slice none 0 0]⟩ := by kernel_rfl
@[simp] theorem fld29_0 : fldOf Try.prog 29 0 = some (0, false, 1) := by kernel_rfl
@[simp] theorem fld29_1 : fldOf Try.prog 29 1 = some (1, false, 1) := by kernel_rfl
@[simp] theorem fld29_2 : fldOf Try.prog 29 2 = some (2, false, 1) := by kernel_rfl
@[simp] theorem fld29_3 : fldOf Try.prog 29 3 = some (3, false, 1) := by kernel_rfl
@[simp] theorem ty33 : tyOf Try.prog 33 = some ⟨true, [.int .i64, .int .i64, .int .i64, .int .i64, .int .i64], [.int .i64 0, .int .i64 0, .int .i64 0, .int .i64 0, .int .i64 0]⟩ := by kernel_rfl
@[simp] theorem fld33_0 : fldOf Try.prog 33 0 = some (0, false, 1) := by kernel_rfl
@[simp] theorem fld33_1 : fldOf Try.prog 33 1 = some (1, false, 1) := by kernel_rfl
@[simp] theorem fld33_2 : fldOf Try.prog 33 2 = some (2, false, 1) := by kernel_rfl
@[simp] theorem fld33_3 : fldOf Try.prog 33 3 = some (3, false, 1) := by kernel_rfl
@[simp] theorem fld33_4 : fldOf Try.prog 33 4 = some (4, false, 1) := by kernel_rfl
@[simp] theorem ty34 : tyOf Try.prog 34 = some ⟨true, [.int .i64, .int .i64, .int .i64, .int .i64, .int .i64], [.int .i64 0, .int .i64 0, .int .i64 0, .int .i64 0, .int .i64 0]⟩ := by kernel_rfl
@[simp] theorem fld34_0 : fldOf Try.prog 34 0 = some (0, false, 1) := by kernel_rfl
@[simp] theorem fld34_1 : fldOf Try.prog 34 1 = some (1, false, 1) := by kernel_rfl
@[simp] theorem fld34_2 : fldOf Try.prog 34 2 = some (2, false, 1) := by kernel_rfl
@[simp] theorem fld34_3 : fldOf Try.prog 34 3 = some (3, false, 1) := by kernel_rfl
@[simp] theorem fld34_4 : fldOf Try.prog 34 4 = some (4, false, 1) := by kernel_rfl
@[simp] theorem ty36 : tyOf Try.prog 36 = some ⟨false, [.slice], [.slice none 0 0]⟩ := by kernel_rfl
@[simp] theorem el36 : elOf Try.prog 36 = some (21, 1, 4, [.int .i32 0]) := by kernel_rfl
@[simp] theorem ty45 : tyOf Try.prog 45 = some ⟨false, [.int .u16], [.int .u16 0]⟩ := by kernel_rfl
@[simp] theorem ty56 : tyOf Try.prog 56 = some ⟨false, [.ptr], [.pointer none]⟩ := by kernel_rfl
@[simp] theorem ty58 : tyOf Try.prog 58 = some ⟨false, [.ptr], [.pointer none]⟩ := by kernel_rfl
@[simp] theorem ty60 : tyOf Try.prog 60 = some ⟨true, [.int .i64, .int .i64, .int .i64, .int .i64, .int .i64, .int .i64, .int .i64, .int .i64, .int .i64, .int .i64, .int .i64, .int .i64, .int .i64, .int .i64, .int .i64, .int .i64, .int .i64, .int .i64, .int .i64, .int .i64, .int .i64, .int .i64, .int .i64, .int .i64, .int .i64, .int .i64, .int .i64, .int .i64, .int .i64, .int .i64, .int .i64, .int .i64], [.int .i64 0, .int .i64 0, .int .i64 0, .int .i64 0, .int .i64 0, .int .i64 0, .int .i64 0, .int .i64 0, .int .i64 0, .int .i64 0, .int .i64 0, .int .i64 0, .int .i64 0, .int .i64 0, .int .i64 0, .int .i64 0, .int .i64 0, .int .i64 0, .int .i64 0, .int .i64 0, .int .i64 0, .int .i64 0, .int .i64 0, .int .i64 0, .int .i64 0, .int .i64 0, .int .i64 0, .int .i64 0, .int .i64 0, .int .i64 0, .int .i64 0, .int .i64 0]⟩ := by kernel_rfl
@[simp] theorem ar60 : arOf Try.prog 60 = some (32, 1) := by kernel_rfl
@[simp] theorem ty61 : tyOf Try.prog 61 = some ⟨true, [.slice, .ptr, .int .i64, .int .i64, .int .i64, .int .i64, .int .i64, .int .i64, .int .i64, .int .i64, .int .i64, .int .i64, .int .i64, .int .i64, .int .i64, .int .i64, .int .i64, .int .i64, .int .i64, .int .i64, .int .i64, .int .i64, .int .i64, .int .i64, .int .i64, .int .i64, .int .i64, .int .i64, .int .i64, .int .i64, .int .i64, .int .i64, .int .i64, .int .i64, .int .i64, .slice, .slice], [.slice none 0 0, .pointer none, .int .i64 0, .int .i64 0, .int .i64 0, .int .i64 0, .int .i64 0, .int .i64 0, .int .i64 0, .int .i64 0, .int .i64 0, .int .i64 0, .int .i64 0, .int .i64 0, .int .i64 0, .int .i64 0, .int .i64 0, .int .i64 0, .int .i64 0, .int .i64 0, .int .i64 0, .int .i64 0, .int .i64 0, .int .i64 0, .int .i64 0, .int .i64 0, .int .i64 0, .int .i64 0, .int .i64 0, .int .i64 0, .int .i64 0, .int .i64 0, .int .i64 0, .int .i64 0, .int .i64 0, .slice none 0 0, .slice none 0 0]⟩ := by kernel_rfl
@[simp] theorem fld61_0 : fldOf Try.prog 61 0 = some (0, false, 1) := by kernel_rfl
@[simp] theorem fld61_1 : fldOf Try.prog 61 1 = some (1, false, 1) := by kernel_rfl
@[simp] theorem fld61_2 : fldOf Try.prog 61 2 = some (2, true, 32) := by kernel_rfl
@[simp] theorem fld61_3 : fldOf Try.prog 61 3 = some (34, false, 1) := by kernel_rfl
@[simp] theorem fld61_4 : fldOf Try.prog 61 4 = some (35, false, 1) := by kernel_rfl
@[simp] theorem fld61_5 : fldOf Try.prog 61 5 = some (36, false, 1) := by kernel_rfl
@[simp] theorem ty62 : tyOf Try.prog 62 = some ⟨true, [.slice, .ptr, .int .i64, .int .i64, .int .i64, .int .i64, .int .i64, .int .i64, .int .i64, .int .i64, .int .i64, .int .i64, .int .i64, .int .i64, .int .i64, .int .i64, .int .i64, .int .i64, .int .i64, .int .i64, .int .i64, .int .i64, .int .i64, .int .i64, .int .i64, .int .i64, .int .i64, .int .i64, .int .i64, .int .i64, .int .i64, .int .i64, .int .i64, .int .i64, .int .i64, .slice, .slice], [.slice none 0 0, .pointer none, .int .i64 0, .int .i64 0, .int .i64 0, .int .i64 0, .int .i64 0, .int .i64 0, .int .i64 0, .int .i64 0, .int .i64 0, .int .i64 0, .int .i64 0, .int .i64 0, .int .i64 0, .int .i64 0, .int .i64 0, .int .i64 0, .int .i64 0, .int .i64 0, .int .i64 0, .int .i64 0, .int .i64 0, .int .i64 0, .int .i64 0, .int .i64 0, .int .i64 0, .int .i64 0, .int .i64 0, .int .i64 0, .int .i64 0, .int .i64 0, .int .i64 0, .int .i64 0, .int .i64 0, .slice none 0 0, .slice none 0 0]⟩ := by kernel_rfl
@[simp] theorem fld62_0 : fldOf Try.prog 62 0 = some (0, false, 1) := by kernel_rfl
@[simp] theorem fld62_1 : fldOf Try.prog 62 1 = some (1, false, 1) := by kernel_rfl
@[simp] theorem fld62_2 : fldOf Try.prog 62 2 = some (2, true, 32) := by kernel_rfl
@[simp] theorem fld62_3 : fldOf Try.prog 62 3 = some (34, false, 1) := by kernel_rfl
@[simp] theorem fld62_4 : fldOf Try.prog 62 4 = some (35, false, 1) := by kernel_rfl
@[simp] theorem fld62_5 : fldOf Try.prog 62 5 = some (36, false, 1) := by kernel_rfl
@[simp] theorem ty65 : tyOf Try.prog 65 = some ⟨false, [.ptr], [.pointer none]⟩ := by kernel_rfl
@[simp] theorem ty67 : tyOf Try.prog 67 = some ⟨true, [.slice, .slice, .int .i64, .int .i64, .slice, .int .i64], [.slice none 0 0, .slice none 0 0, .int .i64 0, .int .i64 0, .slice none 0 0, .int .i64 0]⟩ := by kernel_rfl
@[simp] theorem fld67_0 : fldOf Try.prog 67 0 = some (0, false, 1) := by kernel_rfl
@[simp] theorem fld67_1 : fldOf Try.prog 67 1 = some (1, false, 1) := by kernel_rfl
@[simp] theorem fld67_2 : fldOf Try.prog 67 2 = some (2, false, 1) := by kernel_rfl
@[simp] theorem fld67_3 : fldOf Try.prog 67 3 = some (3, false, 1) := by kernel_rfl
@[simp] theorem fld67_4 : fldOf Try.prog 67 4 = some (4, false, 1) := by kernel_rfl
@[simp] theorem fld67_5 : fldOf Try.prog 67 5 = some (5, false, 1) := by kernel_rfl
@[simp] theorem ty68 : tyOf Try.prog 68 = some ⟨true, [.slice, .slice, .int .i64, .int .i64, .slice, .int .i64], [.slice none 0 0, .slice none 0 0, .int .i64 0, .int .i64 0, .slice none 0 0, .int .i64 0]⟩ := by kernel_rfl
@[simp] theorem fld68_0 : fldOf Try.prog 68 0 = some (0, false, 1) := by kernel_rfl
@[simp] theorem fld68_1 : fldOf Try.prog 68 1 = some (1, false, 1) := by kernel_rfl
@[simp] theorem fld68_2 : fldOf Try.prog 68 2 = some (2, false, 1) := by kernel_rfl
@[simp] theorem fld68_3 : fldOf Try.prog 68 3 = some (3, false, 1) := by kernel_rfl
@[simp] theorem fld68_4 : fldOf Try.prog 68 4 = some (4, false, 1) := by kernel_rfl
@[simp] theorem fld68_5 : fldOf Try.prog 68 5 = some (5, false, 1) := by kernel_rfl
@[simp] theorem ty75 : tyOf Try.prog 75 = some ⟨false, [.ptr], [.pointer none]⟩ := by kernel_rfl
@[simp] theorem ty76 : tyOf Try.prog 76 = some ⟨true, [.bool, .int .i64, .int .i64, .int .i64, .int .i64, .int .i64, .int .i64, .int .i64, .int .i64, .int .i64, .int .i64, .int .i64], [.bool false, .int .i64 0, .int .i64 0, .int .i64 0, .int .i64 0, .int .i64 0, .int .i64 0, .int .i64 0, .int .i64 0, .int .i64 0, .int .i64 0, .int .i64 0]⟩ := by kernel_rfl
@[simp] theorem fld76_0 : fldOf Try.prog 76 0 = some (0, false, 1) := by kernel_rfl
@[simp] theorem fld76_1 : fldOf Try.prog 76 1 = some (1, true, 5) := by kernel_rfl
@[simp] theorem fld76_2 : fldOf Try.prog 76 2 = some (6, false, 1) := by kernel_rfl
@[simp] theorem fld76_3 : fldOf Try.prog 76 3 = some (7, false, 1) := by kernel_rfl
@[simp] theorem fld76_4 : fldOf Try.prog 76 4 = some (8, false, 1) := by kernel_rfl
@[simp] theorem fld76_5 : fldOf Try.prog 76 5 = some (9, false, 1) := by kernel_rfl
@[simp] theorem fld76_6 : fldOf Try.prog 76 6 = some (10, false, 1) := by kernel_rfl
@[simp] theorem fld76_7 : fldOf Try.prog 76 7 = some (11, false, 1) := by kernel_rfl
@[simp] theorem ty77 : tyOf Try.prog 77 = some ⟨true, [.bool, .int .i64, .int .i64, .int .i64, .int .i64, .int .i64, .int .i64, .int .i64, .int .i64, .int .i64, .int .i64, .int .i64], [.bool false, .int .i64 0, .int .i64 0, .int .i64 0, .int .i64 0, .int .i64 0, .int .i64 0, .int .i64 0, .int .i64 0, .int .i64 0, .int .i64 0, .int .i64 0]⟩ := by kernel_rfl
@[simp] theorem fld77_0 : fldOf Try.prog 77 0 = some (0, false, 1) := by kernel_rfl
@[simp] theorem fld77_1 : fldOf Try.prog 77 1 = some (1, true, 5) := by kernel_rfl
@[simp] theorem fld77_2 : fldOf Try.prog 77 2 = some (6, false, 1) := by kernel_rfl
@[simp] theorem fld77_3 : fldOf Try.prog 77 3 = some (7, false, 1) := by kernel_rfl
@[simp] theorem fld77_4 : fldOf Try.prog 77 4 = some (8, false, 1) := by kernel_rfl
@[simp] theorem fld77_5 : fldOf Try.prog 77 5 = some (9, false, 1) := by kernel_rfl
@[simp] theorem fld77_6 : fldOf Try.prog 77 6 = some (10, false, 1) := by kernel_rfl
@[simp] theorem fld77_7 : fldOf Try.prog 77 7 = some (11, false, 1) := by kernel_rfl
@[simp] theorem ty80 : tyOf Try.prog 80 = some ⟨true, [.slice], [.slice none 0 0]⟩ := by kernel_rfl
@[simp] theorem fld80_0 : fldOf Try.prog 80 0 = some (0, false, 1) := by kernel_rfl
@[simp] theorem ty81 : tyOf Try.prog 81 = some ⟨true, [.slice], [.slice none 0 0]⟩ := by kernel_rfl
@[simp] theorem fld81_0 : fldOf Try.prog 81 0 = some (0, false, 1) := by kernel_rfl
@[simp] theorem ty86 : tyOf Try.prog 86 = some ⟨false, [.int .u64], [.int .u64 0]⟩ := by kernel_rfl
@[simp] theorem ty87 : tyOf Try.prog 87 = some ⟨true, [.bool, .bool, .bool, .bool], [.bool false, .bool false, .bool false, .bool false]⟩ := by kernel_rfl
@[simp] theorem fld87_0 : fldOf Try.prog 87 0 = some (0, false, 1) := by kernel_rfl
@[simp] theorem fld87_1 : fldOf Try.prog 87 1 = some (1, false, 1) := by kernel_rfl
@[simp] theorem fld87_2 : fldOf Try.prog 87 2 = some (2, false, 1) := by kernel_rfl
@[simp] theorem fld87_3 : fldOf Try.prog 87 3 = some (3, false, 1) := by kernel_rfl
@[simp] theorem ty88 : tyOf Try.prog 88 = some ⟨true, [.bool, .bool, .bool, .bool], [.bool false, .bool false, .bool false, .bool false]⟩ := by kernel_rfl
@[simp] theorem fld88_0 : fldOf Try.prog 88 0 = some (0, false, 1) := by kernel_rfl
@[simp] theorem fld88_1 : fldOf Try.prog 88 1 = some (1, false, 1) := by kernel_rfl
@[simp] theorem fld88_2 : fldOf Try.prog 88 2 = some (2, false, 1) := by kernel_rfl
@[simp] theorem fld88_3 : fldOf Try.prog 88 3 = some (3, false, 1) := by kernel_rfl
@[simp] theorem ty104 : tyOf Try.prog 104 = some ⟨true, [.ptr, .ptr, .ptr, .str], [.pointer none, .pointer none, .pointer none, .string ByteArray.empty]⟩ := by kernel_rfl
@[simp] theorem fld104_0 : fldOf Try.prog 104 0 = some (0, false, 1) := by kernel_rfl
@[simp] theorem fld104_1 : fldOf Try.prog 104 1 = some (1, false, 1) := by kernel_rfl
@[simp] theorem fld104_2 : fldOf Try.prog 104 2 = some (2, false, 1) := by kernel_rfl
@[simp] theorem fld104_3 : fldOf Try.prog 104 3 = some (3, false, 1) := by kernel_rfl
@[simp] theorem ty105 : tyOf Try.prog 105 = some ⟨true, [.ptr, .ptr, .ptr, .str], [.pointer none, .pointer none, .pointer none, .string ByteArray.empty]⟩ := by kernel_rfl
@[simp] theorem fld105_0 : fldOf Try.prog 105 0 = some (0, false, 1) := by kernel_rfl
@[simp] theorem fld105_1 : fldOf Try.prog 105 1 = some (1, false, 1) := by kernel_rfl
@[simp] theorem fld105_2 : fldOf Try.prog 105 2 = some (2, false, 1) := by kernel_rfl
@[simp] theorem fld105_3 : fldOf Try.prog 105 3 = some (3, false, 1) := by kernel_rfl
@[simp] theorem ty109 : tyOf Try.prog 109 = some ⟨false, [.int .u32], [.int .u32 0]⟩ := by kernel_rfl
@[simp] theorem ty110 : tyOf Try.prog 110 = some ⟨false, [.int .u8], [.int .u8 0]⟩ := by kernel_rfl
@[simp] theorem ty111 : tyOf Try.prog 111 = some ⟨false, [.int .u8], [.int .u8 0]⟩ := by kernel_rfl
@[simp] theorem ty113 : tyOf Try.prog 113 = some ⟨false, [.ptr], [.pointer none]⟩ := by kernel_rfl
@[simp] theorem ty114 : tyOf Try.prog 114 = some ⟨false, [.int .i32], [.int .i32 0]⟩ := by kernel_rfl
@[simp] theorem ty115 : tyOf Try.prog 115 = some ⟨false, [.int .i32], [.int .i32 0]⟩ := by kernel_rfl
@[simp] theorem ty116 : tyOf Try.prog 116 = some ⟨true, [.int .u64, .int .u64, .int .u32, .int .u8, .int .u8, .int .u8, .int .u8, .any, .ptr, .int .i32, .int .i32], [.int .u64 0, .int .u64 0, .int .u32 0, .int .u8 0, .int .u8 0, .int .u8 0, .int .u8 0, .nilFunc, .pointer none, .int .i32 0, .int .i32 0]⟩ := by kernel_rfl
@[simp] theorem fld116_0 : fldOf Try.prog 116 0 = some (0, false, 1) := by kernel_rfl
@[simp] theorem fld116_1 : fldOf Try.prog 116 1 = some (1, false, 1) := by kernel_rfl
@[simp] theorem fld116_2 : fldOf Try.prog 116 2 = some (2, false, 1) := by kernel_rfl
@[simp] theorem fld116_3 : fldOf Try.prog 116 3 = some (3, false, 1) := by kernel_rfl
@[simp] theorem fld116_4 : fldOf Try.prog 116 4 = some (4, false, 1) := by kernel_rfl
@[simp] theorem fld116_5 : fldOf Try.prog 116 5 = some (5, false, 1) := by kernel_rfl
@[simp] theorem fld116_6 : fldOf Try.prog 116 6 = some (6, false, 1) := by kernel_rfl
@[simp] theorem fld116_7 : fldOf Try.prog 116 7 = some (7, false, 1) := by kernel_rfl
@[simp] theorem fld116_8 : fldOf Try.prog 116 8 = some (8, false, 1) := by kernel_rfl
@[simp] theorem fld116_9 : fldOf Try.prog 116 9 = some (9, false, 1) := by kernel_rfl
@[simp] theorem fld116_10 : fldOf Try.prog 116 10 = some (10, false, 1) := by kernel_rfl
@[simp] theorem ty117 : tyOf Try.prog 117 = some ⟨true, [.int .u64, .int .u64, .int .u32, .int .u8, .int .u8, .int .u8, .int .u8, .any, .ptr, .int .i32, .int .i32], [.int .u64 0, .int .u64 0, .int .u32 0, .int .u8 0, .int .u8 0, .int .u8 0, .int .u8 0, .nilFunc, .pointer none, .int .i32 0, .int .i32 0]⟩ := by kernel_rfl
@[simp] theorem fld117_0 : fldOf Try.prog 117 0 = some (0, false, 1) := by kernel_rfl
@[simp] theorem fld117_1 : fldOf Try.prog 117 1 = some (1, false, 1) := by kernel_rfl
@[simp] theorem fld117_2 : fldOf Try.prog 117 2 = some (2, false, 1) := by kernel_rfl
@[simp] theorem fld117_3 : fldOf Try.prog 117 3 = some (3, false, 1) := by kernel_rfl
@[simp] theorem fld117_4 : fldOf Try.prog 117 4 = some (4, false, 1) := by kernel_rfl
@[simp] theorem fld117_5 : fldOf Try.prog 117 5 = some (5, false, 1) := by kernel_rfl
@[simp] theorem fld117_6 : fldOf Try.prog 117 6 = some (6, false, 1) := by kernel_rfl
@[simp] theorem fld117_7 : fldOf Try.prog 117 7 = some (7, false, 1) := by kernel_rfl
@[simp] theorem fld117_8 : fldOf Try.prog 117 8 = some (8, false, 1) := by kernel_rfl
@[simp] theorem fld117_9 : fldOf Try.prog 117 9 = some (9, false, 1) := by kernel_rfl
@[simp] theorem fld117_10 : fldOf Try.prog 117 10 = some (10, false, 1) := by kernel_rfl
@[simp] theorem sig3 : sigOf Try.prog 3 = some [⟨false, [.bool], [.bool false]⟩] := by kernel_rfl
@[simp] theorem sig4 : sigOf Try.prog 4 = some [⟨false, [.bool], [.bool false]⟩] := by kernel_rfl
@[simp] theorem sig5 : sigOf Try.prog 5 = some [⟨false, [.bool], [.bool false]⟩] := by kernel_rfl
@[simp] theorem sig6 : sigOf Try.prog 6 = some [⟨false, [.bool], [.bool false]⟩] := by kernel_rfl
@[simp] theorem sig7 : sigOf Try.prog 7 = some [⟨false, [.bool], [.bool false]⟩] := by kernel_rfl
@[simp] theorem sig8 : sigOf Try.prog 8 = some [⟨false, [.bool], [.bool false]⟩] := by kernel_rfl
@[simp] theorem sig9 : sigOf Try.prog 9 = some [⟨false, [.bool], [.bool false]⟩] := by kernel_rfl
@[simp] theorem sig10 : sigOf Try.prog 10 = some [⟨false, [.bool], [.bool false]⟩] := by kernel_rfl
@[simp] theorem sig11 : sigOf Try.prog 11 = some [⟨false, [.bool], [.bool false]⟩] := by kernel_rfl
@[simp] theorem sig12 : sigOf Try.prog 12 = some [⟨false, [.bool], [.bool false]⟩] := by kernel_rfl
@[simp] theorem sig13 : sigOf Try.prog 13 = some [⟨false, [.bool], [.bool false]⟩] := by kernel_rfl
@[simp] theorem sig14 : sigOf Try.prog 14 = some [⟨false, [.bool], [.bool false]⟩] := by kernel_rfl
@[simp] theorem sig15 : sigOf Try.prog 15 = some [⟨false, [.bool], [.bool false]⟩] := by kernel_rfl
@[simp] theorem sig16 : sigOf Try.prog 16 = some [⟨false, [.bool], [.bool false]⟩] := by kernel_rfl
@[simp] theorem sig17 : sigOf Try.prog 17 = some [⟨false, [.bool], [.bool false]⟩] := by kernel_rfl
@[simp] theorem sig18 : sigOf Try.prog 18 = some [⟨false, [.bool], [.bool false]⟩] := by kernel_rfl
@[simp] theorem sig19 : sigOf Try.prog 19 = some [⟨false, [.bool], [.bool false]⟩] := by kernel_rfl
@[simp] theorem sig20 : sigOf Try.prog 20 = some [⟨false, [.bool], [.bool false]⟩] := by kernel_rfl
@[simp] theorem sig21 : sigOf Try.prog 21 = some [⟨false, [.bool], [.bool false]⟩] := by kernel_rfl
@[simp] theorem sig22 : sigOf Try.prog 22 = some [⟨false, [.bool], [.bool false]⟩] := by kernel_rfl
@[simp] theorem sig23 : sigOf Try.prog 23 = some [⟨true, [.int .i64, .int .i64, .slice, .slice], [.int .i64 0, .int .i64 0, .slice none 0 0, .slice none 0 0]⟩] := by kernel_rfl
@[simp] theorem sig24 : sigOf Try.prog 24 = some [⟨true, [.int .i64, .int .i64, .slice, .slice], [.int .i64 0, .int .i64 0, .slice none 0 0, .slice none 0 0]⟩] := by kernel_rfl
@[simp] theorem sig25 : sigOf Try.prog 25 = some [⟨false, [.int .i64], [.int .i64 0]⟩, ⟨false, [.int .i64], [.int .i64 0]⟩, ⟨false, [.bool], [.bool false]⟩] := by kernel_rfl
@[simp] theorem sig26 : sigOf Try.prog 26 = some [⟨false, [.bool], [.bool false]⟩] := by kernel_rfl
@[simp] theorem sig27 : sigOf Try.prog 27 = some [⟨false, [.int .i64], [.int .i64 0]⟩, ⟨false, [.bool], [.bool false]⟩] := by kernel_rfl
@[simp] theorem sig28 : sigOf Try.prog 28 = some [⟨false, [.int .i64], [.int .i64 0]⟩] := by kernel_rfl
@[simp] theorem sig29 : sigOf Try.prog 29 = some [⟨false, [.bool], [.bool false]⟩] := by kernel_rfl
@[simp] theorem sig30 : sigOf Try.prog 30 = some [⟨false, [.bool], [.bool false]⟩] := by kernel_rfl
@[simp] theorem sig31 : sigOf Try.prog 31 = some [⟨true, [.int .i64, .int .i64, .slice, .slice], [.int .i64 0, .int .i64 0, .slice none 0 0, .slice none 0 0]⟩] := by kernel_rfl
@[simp] theorem sig32 : sigOf Try.prog 32 = some [⟨false, [.slice], [.slice none 0 0]⟩] := by kernel_rfl
@[simp] theorem sig33 : sigOf Try.prog 33 = some [⟨false, [.ptr], [.pointer none]⟩] := by kernel_rfl
@[simp] theorem sig34 : sigOf Try.prog 34 = some [⟨false, [.slice], [.slice none 0 0]⟩] := by kernel_rfl
@[simp] theorem sig35 : sigOf Try.prog 35 = some [⟨false, [.int .i64], [.int .i64 0]⟩] := by kernel_rfl
@[simp] theorem sig36 : sigOf Try.prog 36 = some [⟨false, [.slice], [.slice none 0 0]⟩] := by kernel_rfl
@[simp] theorem sig37 : sigOf Try.prog 37 = some [⟨false, [.ptr], [.pointer none]⟩] := by kernel_rfl
@[simp] theorem sig38 : sigOf Try.prog 38 = some [] := by kernel_rfl
@[simp] theorem sig39 : sigOf Try.prog 39 = some [⟨false, [.slice], [.slice none 0 0]⟩] := by kernel_rfl
@[simp] theorem sig40 : sigOf Try.prog 40 = some [⟨false, [.int .i64], [.int .i64 0]⟩] := by kernel_rfl
@[simp] theorem sig41 : sigOf Try.prog 41 = some [⟨false, [.int .i64], [.int .i64 0]⟩, ⟨false, [.bool], [.bool false]⟩] := by kernel_rfl
@[simp] theorem sig42 : sigOf Try.prog 42 = some [⟨false, [.bool], [.bool false]⟩] := by kernel_rfl
@[simp] theorem sig43 : sigOf Try.prog 43 = some [⟨false, [.int .i64], [.int .i64 0]⟩, ⟨false, [.int .i64], [.int .i64 0]⟩, ⟨false, [.bool], [.bool false]⟩] := by kernel_rfl
@[simp] theorem sig44 : sigOf Try.prog 44 = some [⟨false, [.int .i64], [.int .i64 0]⟩] := by kernel_rfl
@[simp] theorem sig45 : sigOf Try.prog 45 = some [⟨false, [.int .i64], [.int .i64 0]⟩] := by kernel_rfl
@[simp] theorem sig46 : sigOf Try.prog 46 = some [⟨false, [.int .i64], [.int .i64 0]⟩, ⟨false, [.int .i64], [.int .i64 0]⟩] := by kernel_rfl
@[simp] theorem sig47 : sigOf Try.prog 47 = some [⟨false, [.int .i64], [.int .i64 0]⟩] := by kernel_rfl
@[simp] theorem sig48 : sigOf Try.prog 48 = some [⟨false, [.int .i64], [.int .i64 0]⟩] := by kernel_rfl
@[simp] theorem sig49 : sigOf Try.prog 49 = some [⟨false, [.int .i64], [.int .i64 0]⟩] := by kernel_rfl
@[simp] theorem sig50 : sigOf Try.prog 50 = some [] := by kernel_rfl
@[simp] theorem sig51 : sigOf Try.prog 51 = some [⟨false, [.int .i64], [.int .i64 0]⟩] := by kernel_rfl
@[simp] theorem sig52 : sigOf Try.prog 52 = some [⟨false, [.slice], [.slice none 0 0]⟩] := by kernel_rfl
@[simp] theorem sig53 : sigOf Try.prog 53 = some [⟨false, [.int .i64], [.int .i64 0]⟩, ⟨false, [.int .i64], [.int .i64 0]⟩] := by kernel_rfl
@[simp] theorem sig54 : sigOf Try.prog 54 = some [] := by kernel_rfl
@[simp] theorem sig55 : sigOf Try.prog 55 = some [⟨false, [.int .i64], [.int .i64 0]⟩] := by kernel_rfl
@[simp] theorem sig56 : sigOf Try.prog 56 = some [⟨true, [.bool, .bool, .bool, .bool], [.bool false, .bool false, .bool false, .bool false]⟩, ⟨false, [.bool], [.bool false]⟩] := by kernel_rfl
@[simp] theorem sig57 : sigOf Try.prog 57 = some [⟨false, [.bool], [.bool false]⟩] := by kernel_rfl
@[simp] theorem sig58 : sigOf Try.prog 58 = some [⟨false, [.bool], [.bool false]⟩] := by kernel_rfl
@[simp] theorem sig59 : sigOf Try.prog 59 = some [⟨false, [.int .i64], [.int .i64 0]⟩] := by kernel_rfl
@[simp] theorem sig60 : sigOf Try.prog 60 = some [] := by kernel_rfl
@[simp] theorem sig61 : sigOf Try.prog 61 = some [⟨false, [.int .i64], [.int .i64 0]⟩] := by kernel_rfl
@[simp] theorem sig62 : sigOf Try.prog 62 = some [] := by kernel_rfl
@[simp] theorem sig63 : sigOf Try.prog 63 = some [] := by kernel_rfl
@[simp] theorem sig64 : sigOf Try.prog 64 = some [⟨false, [.int .i64], [.int .i64 0]⟩] := by kernel_rfl
@[simp] theorem sig65 : sigOf Try.prog 65 = some [⟨false, [.int .i64], [.int .i64 0]⟩, ⟨false, [.bool], [.bool false]⟩] := by kernel_rfl
@[simp] theorem sig66 : sigOf Try.prog 66 = some [⟨false, [.int .i64], [.int .i64 0]⟩] := by kernel_rfl
@[simp] theorem sig67 : sigOf Try.prog 67 = some [⟨false, [.bool], [.bool false]⟩] := by kernel_rfl
@[simp] theorem sig68 : sigOf Try.prog 68 = some [⟨false, [.int .i64], [.int .i64 0]⟩] := by kernel_rfl
@[simp] theorem sig69 : sigOf Try.prog 69 = some [⟨false, [.bool], [.bool false]⟩] := by kernel_rfl
@[simp] theorem sig70 : sigOf Try.prog 70 = some [⟨true, [.bool, .int .i64, .int .i64, .int .i64, .int .i64, .int .i64, .int .i64, .int .i64, .int .i64, .int .i64, .int .i64, .int .i64], [.bool false, .int .i64 0, .int .i64 0, .int .i64 0, .int .i64 0, .int .i64 0, .int .i64 0, .int .i64 0, .int .i64 0, .int .i64 0, .int .i64 0, .int .i64 0]⟩] := by kernel_rfl
@[simp] theorem sig71 : sigOf Try.prog 71 = some [⟨false, [.int .i64], [.int .i64 0]⟩] := by kernel_rfl
@[simp] theorem sig72 : sigOf Try.prog 72 = some [⟨false, [.int .i64], [.int .i64 0]⟩] := by kernel_rfl
@[simp] theorem sig73 : sigOf Try.prog 73 = some [⟨false, [.int .i64], [.int .i64 0]⟩] := by kernel_rfl
@[simp] theorem sig74 : sigOf Try.prog 74 = some [⟨false, [.bool], [.bool false]⟩] := by kernel_rfl
@[simp] theorem sig75 : sigOf Try.prog 75 = some [⟨false, [.bool], [.bool false]⟩] := by kernel_rfl
@[simp] theorem sig76 : sigOf Try.prog 76 = some [⟨false, [.slice], [.slice none 0 0]⟩, ⟨false, [.int .i64], [.int .i64 0]⟩] := by kernel_rfl
@[simp] theorem sig77 : sigOf Try.prog 77 = some [⟨true, [.int .i64, .int .i64, .int .i64, .int .i64, .int .i64, .int .i64, .int .i64, .int .i64, .int .i64, .int .i64, .int .i64, .int .i64, .int .i64, .int .i64, .int .i64, .int .i64, .int .i64, .int .i64, .int .i64, .int .i64, .int .i64, .int .i64, .int .i64, .int .i64, .int .i64, .int .i64, .int .i64, .int .i64, .int .i64, .int .i64, .int .i64, .int .i64], [.int .i64 0, .int .i64 0, .int .i64 0, .int .i64 0, .int .i64 0, .int .i64 0, .int .i64 0, .int .i64 0, .int .i64 0, .int .i64 0, .int .i64 0, .int .i64 0, .int .i64 0, .int .i64 0, .int .i64 0, .int .i64 0, .int .i64 0, .int .i64 0, .int .i64 0, .int .i64 0, .int .i64 0, .int .i64 0, .int .i64 0, .int .i64 0, .int .i64 0, .int .i64 0, .int .i64 0, .int .i64 0, .int .i64 0, .int .i64 0, .int .i64 0, .int .i64 0]⟩] := by kernel_rfl
@[simp] theorem sig78 : sigOf Try.prog 78 = some [⟨false, [.slice], [.slice none 0 0]⟩, ⟨false, [.int .i64], [.int .i64 0]⟩] := by kernel_rfl
end Go.Proofs.Ytadcbnldahcelaa.T

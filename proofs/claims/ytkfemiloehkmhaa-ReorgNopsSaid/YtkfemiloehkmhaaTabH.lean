/- Ytkfemiloehkmhaa: a text of our own, by an AI agent: TabH -/
import Derived.Test.YtkfemiloehkmhaaCoreA
import Derived.Test.YtkfemiloehkmhaaProg
import Derived.KernelRfl
namespace Go.Proofs.Ytkfemiloehkmhaa.T
open Go Go.Alog
@[simp] theorem ty2 : tyOf Try.prog 2 = some ⟨false, [.int .i64], [.int .i64 0]⟩ := by kernel_rfl
@[simp] theorem ty3 : tyOf Try.prog 3 = some ⟨false, [.int .i64], [.int .i64 0]⟩ := by kernel_rfl
@[simp] theorem ty4 : tyOf Try.prog 4 = some ⟨false, [.bool], [.bool false]⟩ := by kernel_rfl
@[simp] theorem ty5 : tyOf Try.prog 5 = some ⟨false, [.int .u8], [.int .u8 0]⟩ := by kernel_rfl
@[simp] theorem ty6 : tyOf Try.prog 6 = some ⟨false, [.int .u8], [.int .u8 0]⟩ := by kernel_rfl
@[simp] theorem ty7 : tyOf Try.prog 7 = some ⟨true, [.int .i64, .int .i64, .bool, .int .u8], [.int .i64 0, .int .i64 0, .bool false, .int .u8 0]⟩ := by kernel_rfl
@[simp] theorem fld7_0 : fldOf Try.prog 7 0 = some (0, false, 1) := by kernel_rfl
@[simp] theorem fld7_1 : fldOf Try.prog 7 1 = some (1, false, 1) := by kernel_rfl
@[simp] theorem fld7_2 : fldOf Try.prog 7 2 = some (2, false, 1) := by kernel_rfl
@[simp] theorem fld7_3 : fldOf Try.prog 7 3 = some (3, false, 1) := by kernel_rfl
@[simp] theorem ty8 : tyOf Try.prog 8 = some ⟨true, [.int .i64, .int .i64, .bool, .int .u8], [.int .i64 0, .int .i64 0, .bool false, .int .u8 0]⟩ := by kernel_rfl
@[simp] theorem fld8_0 : fldOf Try.prog 8 0 = some (0, false, 1) := by kernel_rfl
@[simp] theorem fld8_1 : fldOf Try.prog 8 1 = some (1, false, 1) := by kernel_rfl
@[simp] theorem fld8_2 : fldOf Try.prog 8 2 = some (2, false, 1) := by kernel_rfl
@[simp] theorem fld8_3 : fldOf Try.prog 8 3 = some (3, false, 1) := by kernel_rfl
@[simp] theorem ty9 : tyOf Try.prog 9 = some ⟨false, [.str], [.string ByteArray.empty]⟩ := by kernel_rfl
@[simp] theorem ty10 : tyOf Try.prog 10 = some ⟨false, [.str], [.string ByteArray.empty]⟩ := by kernel_rfl
@[simp] theorem ty11 : tyOf Try.prog 11 = some ⟨false, [.str], [.string ByteArray.empty]⟩ := by kernel_rfl
@[simp] theorem ty12 : tyOf Try.prog 12 = some ⟨false, [.int .u64], [.int .u64 0]⟩ := by kernel_rfl
@[simp] theorem ty13 : tyOf Try.prog 13 = some ⟨true, [.str, .int .u64], [.string ByteArray.empty, .int .u64 0]⟩ := by kernel_rfl
@[simp] theorem fld13_0 : fldOf Try.prog 13 0 = some (0, false, 1) := by kernel_rfl
@[simp] theorem fld13_1 : fldOf Try.prog 13 1 = some (1, false, 1) := by kernel_rfl
@[simp] theorem ty14 : tyOf Try.prog 14 = some ⟨true, [.str, .int .u64], [.string ByteArray.empty, .int .u64 0]⟩ := by kernel_rfl
@[simp] theorem fld14_0 : fldOf Try.prog 14 0 = some (0, false, 1) := by kernel_rfl
@[simp] theorem fld14_1 : fldOf Try.prog 14 1 = some (1, false, 1) := by kernel_rfl
@[simp] theorem ty15 : tyOf Try.prog 15 = some ⟨false, [.ptr], [.pointer none]⟩ := by kernel_rfl
@[simp] theorem ty16 : tyOf Try.prog 16 = some ⟨false, [.ptr], [.pointer none]⟩ := by kernel_rfl
@[simp] theorem ty17 : tyOf Try.prog 17 = some ⟨false, [.ptr], [.pointer none]⟩ := by kernel_rfl
@[simp] theorem ty18 : tyOf Try.prog 18 = some ⟨true, [.ptr], [.pointer none]⟩ := by kernel_rfl
@[simp] theorem fld18_0 : fldOf Try.prog 18 0 = some (0, false, 1) := by kernel_rfl
@[simp] theorem ty19 : tyOf Try.prog 19 = some ⟨true, [.ptr], [.pointer none]⟩ := by kernel_rfl
@[simp] theorem fld19_0 : fldOf Try.prog 19 0 = some (0, false, 1) := by kernel_rfl
@[simp] theorem ty21 : tyOf Try.prog 21 = some ⟨false, [.int .i32], [.int .i32 0]⟩ := by kernel_rfl
@[simp] theorem ty22 : tyOf Try.prog 22 = some ⟨false, [.slice], [.slice none 0 0]⟩ := by kernel_rfl
@[simp] theorem el22 : elOf Try.prog 22 = some (24, 5, 40, [.int .i64 0, .int .i64 0, .int .i64 0, .int .i64 0, .int .i64 0]) := by kernel_rfl
@[simp] theorem ty23 : tyOf Try.prog 23 = some ⟨true, [.int .i64, .int .i64, .int .i64, .int .i64, .int .i64], [.int .i64 0, .int .i64 0, .int .i64 0, .int .i64 0, .int .i64 0]⟩ := by kernel_rfl
@[simp] theorem fld23_0 : fldOf Try.prog 23 0 = some (0, false, 1) := by kernel_rfl
@[simp] theorem fld23_1 : fldOf Try.prog 23 1 = some (1, false, 1) := by kernel_rfl
@[simp] theorem fld23_2 : fldOf Try.prog 23 2 = some (2, false, 1) := by kernel_rfl
@[simp] theorem fld23_3 : fldOf Try.prog 23 3 = some (3, false, 1) := by kernel_rfl
@[simp] theorem fld23_4 : fldOf Try.prog 23 4 = some (4, false, 1) := by kernel_rfl
@[simp] theorem ty24 : tyOf Try.prog 24 = some ⟨true, [.int .i64, .int .i64, .int .i64, .int .i64, .int .i64], [.int .i64 0, .int .i64 0, .int .i64 0, .int .i64 0, .int .i64 0]⟩ := by kernel_rfl
@[simp] theorem fld24_0 : fldOf Try.prog 24 0 = some (0, false, 1) := by kernel_rfl
@[simp] theorem fld24_1 : fldOf Try.prog 24 1 = some (1, false, 1) := by kernel_rfl
@[simp] theorem fld24_2 : fldOf Try.prog 24 2 = some (2, false, 1) := by kernel_rfl
@[simp] theorem fld24_3 : fldOf Try.prog 24 3 = some (3, false, 1) := by kernel_rfl
@[simp] theorem fld24_4 : fldOf Try.prog 24 4 = some (4, false, 1) := by kernel_rfl
@[simp] theorem ty30 : tyOf Try.prog 30 = some ⟨false, [.slice], [.slice none 0 0]⟩ := by kernel_rfl
@[simp] theorem el30 : elOf Try.prog 30 = some (3, 1, 8, [.int .i64 0]) := by kernel_rfl
@[simp] theorem ty32 : tyOf Try.prog 32 = some ⟨false, [.slice], [.slice none 0 0]⟩ := by kernel_rfl
@[simp] theorem el32 : elOf Try.prog 32 = some (36, 2, 16, [.int .i64 0, .int .i64 0]) := by kernel_rfl
@[simp] theorem ty35 : tyOf Try.prog 35 = some ⟨true, [.int .i64, .int .i64], [.int .i64 0, .int .i64 0]⟩ := by kernel_rfl
@[simp] theorem fld35_0 : fldOf Try.prog 35 0 = some (0, false, 1) := by kernel_rfl
@[simp] theorem fld35_1 : fldOf Try.prog 35 1 = some (1, false, 1) := by kernel_rfl
@[simp] theorem ty36 : tyOf Try.prog 36 = some ⟨true, [.int .i64, .int .i64], [.int .i64 0, .int .i64 0]⟩ := by kernel_rfl
@[simp] theorem fld36_0 : fldOf Try.prog 36 0 = some (0, false, 1) := by kernel_rfl
@[simp] theorem fld36_1 : fldOf Try.prog 36 1 = some (1, false, 1) := by kernel_rfl
@[simp] theorem ty37 : tyOf Try.prog 37 = some ⟨false, [.slice], [.slice none 0 0]⟩ := by kernel_rfl
@[simp] theorem el37 : elOf Try.prog 37 = some (4, 1, 1, [.bool false]) := by kernel_rfl
@[simp] theorem ty41 : tyOf Try.prog 41 = some ⟨false, [.int .u16], [.int .u16 0]⟩ := by kernel_rfl
@[simp] theorem ty47 : tyOf Try.prog 47 = some ⟨false, [.int .i64], [.int .i64 0]⟩ := by kernel_rfl
@[simp] theorem ty56 : tyOf Try.prog 56 = some ⟨false, [.map], [.map none]⟩ := by kernel_rfl
@[simp] theorem ty57 : tyOf Try.prog 57 = some ⟨true, [.map, .slice], [.map none, .slice none 0 0]⟩ := by kernel_rfl
@[simp] theorem fld57_0 : fldOf Try.prog 57 0 = some (0, false, 1) := by kernel_rfl
@[simp] theorem fld57_1 : fldOf Try.prog 57 1 = some (1, false, 1) := by kernel_rfl
@[simp] theorem ty58 : tyOf Try.prog 58 = some ⟨true, [.map, .slice], [.map none, .slice none 0 0]⟩ := by kernel_rfl
@[simp] theorem fld58_0 : fldOf Try.prog 58 0 = some (0, false, 1) := by kernel_rfl
@[simp] theorem fld58_1 : fldOf Try.prog 58 1 = some (1, false, 1) := by kernel_rfl
@[simp] theorem ty75 : tyOf Try.prog 75 = some ⟨false, [.map], [.map none]⟩ := by kernel_rfl
@[simp] theorem ty76 : tyOf Try.prog 76 = some ⟨true, [.slice, .slice, .map, .slice], [.slice none 0 0, .slice none 0 0, .map none, .slice none 0 0]⟩ := by kernel_rfl
@[simp] theorem fld76_0 : fldOf Try.prog 76 0 = some (0, false, 1) := by kernel_rfl
@[simp] theorem fld76_1 : fldOf Try.prog 76 1 = some (1, false, 1) := by kernel_rfl
@[simp] theorem fld76_2 : fldOf Try.prog 76 2 = some (2, false, 1) := by kernel_rfl
@[simp] theorem fld76_3 : fldOf Try.prog 76 3 = some (3, false, 1) := by kernel_rfl
@[simp] theorem ty77 : tyOf Try.prog 77 = some ⟨true, [.slice, .slice, .map, .slice], [.slice none 0 0, .slice none 0 0, .map none, .slice none 0 0]⟩ := by kernel_rfl
@[simp] theorem fld77_0 : fldOf Try.prog 77 0 = some (0, false, 1) := by kernel_rfl
@[simp] theorem fld77_1 : fldOf Try.prog 77 1 = some (1, false, 1) := by kernel_rfl
@[simp] theorem fld77_2 : fldOf Try.prog 77 2 = some (2, false, 1) := by kernel_rfl
@[simp] theorem fld77_3 : fldOf Try.prog 77 3 = some (3, false, 1) := by kernel_rfl
@[simp] theorem ty80 : tyOf Try.prog 80 = some ⟨true, [.bool, .bool, .bool, .bool], [.bool false, .bool false, .bool false, .bool false]⟩ := by kernel_rfl
@[simp] theorem fld80_0 : fldOf Try.prog 80 0 = some (0, false, 1) := by kernel_rfl
@[simp] theorem fld80_1 : fldOf Try.prog 80 1 = some (1, false, 1) := by kernel_rfl
@[simp] theorem fld80_2 : fldOf Try.prog 80 2 = some (2, false, 1) := by kernel_rfl
@[simp] theorem fld80_3 : fldOf Try.prog 80 3 = some (3, false, 1) := by kernel_rfl
@[simp] theorem ty81 : tyOf Try.prog 81 = some ⟨true, [.bool, .bool, .bool, .bool], [.bool false, .bool false, .bool false, .bool false]⟩ := by kernel_rfl
@[simp] theorem fld81_0 : fldOf Try.prog 81 0 = some (0, false, 1) := by kernel_rfl
@[simp] theorem fld81_1 : fldOf Try.prog 81 1 = some (1, false, 1) := by kernel_rfl
@[simp] theorem fld81_2 : fldOf Try.prog 81 2 = some (2, false, 1) := by kernel_rfl
@[simp] theorem fld81_3 : fldOf Try.prog 81 3 = some (3, false, 1) := by kernel_rfl
@[simp] theorem ty88 : tyOf Try.prog 88 = some ⟨false, [.ptr], [.pointer none]⟩ := by kernel_rfl
@[simp] theorem ty93 : tyOf Try.prog 93 = some ⟨false, [.int .u64], [.int .u64 0]⟩ := by kernel_rfl
@[simp] theorem ty100 : tyOf Try.prog 100 = some ⟨false, [.int .i64], [.int .i64 0]⟩ := by kernel_rfl
@[simp] theorem ty107 : tyOf Try.prog 107 = some ⟨false, [.int .u32], [.int .u32 0]⟩ := by kernel_rfl
@[simp] theorem ty109 : tyOf Try.prog 109 = some ⟨false, [.int .u64], [.int .u64 0]⟩ := by kernel_rfl
@[simp] theorem ty115 : tyOf Try.prog 115 = some ⟨false, [.int .u64], [.int .u64 0]⟩ := by kernel_rfl
@[simp] theorem ty119 : tyOf Try.prog 119 = some ⟨false, [.ptr], [.pointer none]⟩ := by kernel_rfl
@[simp] theorem ty121 : tyOf Try.prog 121 = some ⟨false, [.ptr], [.pointer none]⟩ := by kernel_rfl
@[simp] theorem ty125 : tyOf Try.prog 125 = some ⟨true, [.ptr, .ptr, .ptr, .str], [.pointer none, .pointer none, .pointer none, .string ByteArray.empty]⟩ := by kernel_rfl
@[simp] theorem fld125_0 : fldOf Try.prog 125 0 = some (0, false, 1) := by kernel_rfl
@[simp] theorem fld125_1 : fldOf Try.prog 125 1 = some (1, false, 1) := by kernel_rfl
@[simp] theorem fld125_2 : fldOf Try.prog 125 2 = some (2, false, 1) := by kernel_rfl
@[simp] theorem fld125_3 : fldOf Try.prog 125 3 = some (3, false, 1) := by kernel_rfl
@[simp] theorem ty126 : tyOf Try.prog 126 = some ⟨true, [.ptr, .ptr, .ptr, .str], [.pointer none, .pointer none, .pointer none, .string ByteArray.empty]⟩ := by kernel_rfl
@[simp] theorem fld126_0 : fldOf Try.prog 126 0 = some (0, false, 1) := by kernel_rfl
@[simp] theorem fld126_1 : fldOf Try.prog 126 1 = some (1, false, 1) := by kernel_rfl
@[simp] theorem fld126_2 : fldOf Try.prog 126 2 = some (2, false, 1) := by kernel_rfl
@[simp] theorem fld126_3 : fldOf Try.prog 126 3 = some (3, false, 1) := by kernel_rfl
@[simp] theorem ty131 : tyOf Try.prog 131 = some ⟨false, [.int .u8], [.int .u8 0]⟩ := by kernel_rfl
@[simp] theorem ty132 : tyOf Try.prog 132 = some ⟨false, [.int .u8], [.int .u8 0]⟩ := by kernel_rfl
@[simp] theorem ty134 : tyOf Try.prog 134 = some ⟨false, [.ptr], [.pointer none]⟩ := by kernel_rfl
@[simp] theorem ty135 : tyOf Try.prog 135 = some ⟨false, [.int .i32], [.int .i32 0]⟩ := by kernel_rfl
@[simp] theorem ty136 : tyOf Try.prog 136 = some ⟨false, [.int .i32], [.int .i32 0]⟩ := by kernel_rfl
@[simp] theorem ty137 : tyOf Try.prog 137 = some ⟨true, [.int .u64, .int .u64, .int .u32, .int .u8, .int .u8, .int .u8, .int .u8, .any, .ptr, .int .i32, .int .i32], [.int .u64 0, .int .u64 0, .int .u32 0, .int .u8 0, .int .u8 0, .int .u8 0, .int .u8 0, .nilFunc, .pointer none, .int .i32 0, .int .i32 0]⟩ := by kernel_rfl
@[simp] theorem fld137_0 : fldOf Try.prog 137 0 = some (0, false, 1) := by kernel_rfl
@[simp] theorem fld137_1 : fldOf Try.prog 137 1 = some (1, false, 1) := by kernel_rfl
@[simp] theorem fld137_2 : fldOf Try.prog 137 2 = some (2, false, 1) := by kernel_rfl
@[simp] theorem fld137_3 : fldOf Try.prog 137 3 = some (3, false, 1) := by kernel_rfl
@[simp] theorem fld137_4 : fldOf Try.prog 137 4 = some (4, false, 1) := by kernel_rfl
@[simp] theorem fld137_5 : fldOf Try.prog 137 5 = some (5, false, 1) := by kernel_rfl
@[simp] theorem fld137_6 : fldOf Try.prog 137 6 = some (6, false, 1) := by kernel_rfl
@[simp] theorem fld137_7 : fldOf Try.prog 137 7 = some (7, false, 1) := by kernel_rfl
@[simp] theorem fld137_8 : fldOf Try.prog 137 8 = some (8, false, 1) := by kernel_rfl
@[simp] theorem fld137_9 : fldOf Try.prog 137 9 = some (9, false, 1) := by kernel_rfl
@[simp] theorem fld137_10 : fldOf Try.prog 137 10 = some (10, false, 1) := by kernel_rfl
@[simp] theorem ty138 : tyOf Try.prog 138 = some ⟨true, [.int .u64, .int .u64, .int .u32, .int .u8, .int .u8, .int .u8, .int .u8, .any, .ptr, .int .i32, .int .i32], [.int .u64 0, .int .u64 0, .int .u32 0, .int .u8 0, .int .u8 0, .int .u8 0, .int .u8 0, .nilFunc, .pointer none, .int .i32 0, .int .i32 0]⟩ := by kernel_rfl
@[simp] theorem fld138_0 : fldOf Try.prog 138 0 = some (0, false, 1) := by kernel_rfl
@[simp] theorem fld138_1 : fldOf Try.prog 138 1 = some (1, false, 1) := by kernel_rfl
@[simp] theorem fld138_2 : fldOf Try.prog 138 2 = some (2, false, 1) := by kernel_rfl
@[simp] theorem fld138_3 : fldOf Try.prog 138 3 = some (3, false, 1) := by kernel_rfl
@[simp] theorem fld138_4 : fldOf Try.prog 138 4 = some (4, false, 1) := by kernel_rfl
@[simp] theorem fld138_5 : fldOf Try.prog 138 5 = some (5, false, 1) := by kernel_rfl
@[simp] theorem fld138_6 : fldOf Try.prog 138 6 = some (6, false, 1) := by kernel_rfl
@[simp] theorem fld138_7 : fldOf Try.prog 138 7 = some (7, false, 1) := by kernel_rfl
@[simp] theorem fld138_8 : fldOf Try.prog 138 8 = some (8, false, 1) := by kernel_rfl
@[simp] theorem fld138_9 : fldOf Try.prog 138 9 = some (9, false, 1) := by kernel_rfl
@[simp] theorem fld138_10 : fldOf Try.prog 138 10 = some (10, false, 1) := by kernel_rfl
@[simp] theorem sig3 : sigOf Try.prog 3 = some [⟨false, [.bool], [.bool false]⟩] := by kernel_rfl
@[simp] theorem sig4 : sigOf Try.prog 4 = some [⟨false, [.bool], [.bool false]⟩] := by kernel_rfl
@[simp] theorem sig5 : sigOf Try.prog 5 = some [⟨false, [.bool], [.bool false]⟩] := by kernel_rfl
@[simp] theorem sig6 : sigOf Try.prog 6 = some [⟨false, [.bool], [.bool false]⟩] := by kernel_rfl
@[simp] theorem sig7 : sigOf Try.prog 7 = some [⟨false, [.bool], [.bool false]⟩] := by kernel_rfl
@[simp] theorem sig8 : sigOf Try.prog 8 = some [⟨false, [.bool], [.bool false]⟩] := by kernel_rfl
@[simp] theorem sig9 : sigOf Try.prog 9 = some [⟨false, [.bool], [.bool false]⟩] := by kernel_rfl
@[simp] theorem sig10 : sigOf Try.prog 10 = some [⟨false, [.bool], [.bool false]⟩] := by kernel_rfl
@[simp] theorem sig11 : sigOf Try.prog 11 = some [⟨false, [.bool], [.bool false]⟩] := by kernel_rfl
@[simp] theorem sig12 : sigOf Try.prog 12 = some [⟨false, [.bool], [.bool false]⟩] := by kernel_rfl
@[simp] theorem sig13 : sigOf Try.prog 13 = some [⟨false, [.bool], [.bool false]⟩] := by kernel_rfl
@[simp] theorem sig14 : sigOf Try.prog 14 = some [⟨false, [.bool], [.bool false]⟩] := by kernel_rfl
@[simp] theorem sig15 : sigOf Try.prog 15 = some [⟨false, [.bool], [.bool false]⟩] := by kernel_rfl
@[simp] theorem sig16 : sigOf Try.prog 16 = some [⟨false, [.bool], [.bool false]⟩] := by kernel_rfl
@[simp] theorem sig17 : sigOf Try.prog 17 = some [⟨false, [.bool], [.bool false]⟩] := by kernel_rfl
@[simp] theorem sig18 : sigOf Try.prog 18 = some [⟨false, [.bool], [.bool false]⟩] := by kernel_rfl
@[simp] theorem sig19 : sigOf Try.prog 19 = some [⟨false, [.bool], [.bool false]⟩] := by kernel_rfl
@[simp] theorem sig20 : sigOf Try.prog 20 = some [⟨false, [.bool], [.bool false]⟩] := by kernel_rfl
@[simp] theorem sig21 : sigOf Try.prog 21 = some [⟨false, [.int .i64], [.int .i64 0]⟩, ⟨false, [.bool], [.bool false]⟩] := by kernel_rfl
@[simp] theorem sig22 : sigOf Try.prog 22 = some [⟨false, [.int .i64], [.int .i64 0]⟩, ⟨false, [.bool], [.bool false]⟩] := by kernel_rfl
@[simp] theorem sig23 : sigOf Try.prog 23 = some [⟨false, [.bool], [.bool false]⟩] := by kernel_rfl
@[simp] theorem sig24 : sigOf Try.prog 24 = some [⟨false, [.bool], [.bool false]⟩] := by kernel_rfl
@[simp] theorem sig25 : sigOf Try.prog 25 = some [⟨false, [.bool], [.bool false]⟩] := by kernel_rfl
@[simp] theorem sig26 : sigOf Try.prog 26 = some [⟨false, [.bool], [.bool false]⟩] := by kernel_rfl
@[simp] theorem sig27 : sigOf Try.prog 27 = some [⟨false, [.slice], [.slice none 0 0]⟩] := by kernel_rfl
@[simp] theorem sig28 : sigOf Try.prog 28 = some [⟨false, [.slice], [.slice none 0 0]⟩] := by kernel_rfl
@[simp] theorem sig29 : sigOf Try.prog 29 = some [⟨false, [.bool], [.bool false]⟩] := by kernel_rfl
@[simp] theorem sig30 : sigOf Try.prog 30 = some [⟨false, [.bool], [.bool false]⟩] := by kernel_rfl
@[simp] theorem sig31 : sigOf Try.prog 31 = some [⟨false, [.bool], [.bool false]⟩] := by kernel_rfl
@[simp] theorem sig32 : sigOf Try.prog 32 = some [⟨false, [.bool], [.bool false]⟩] := by kernel_rfl
@[simp] theorem sig33 : sigOf Try.prog 33 = some [⟨false, [.bool], [.bool false]⟩] := by kernel_rfl
@[simp] theorem sig34 : sigOf Try.prog 34 = some [⟨false, [.slice], [.slice none 0 0]⟩] := by kernel_rfl
@[simp] theorem sig35 : sigOf Try.prog 35 = some [⟨false, [.slice], [.slice none 0 0]⟩] := by kernel_rfl
@[simp] theorem sig36 : sigOf Try.prog 36 = some [⟨false, [.slice], [.slice none 0 0]⟩] := by kernel_rfl
@[simp] theorem sig37 : sigOf Try.prog 37 = some [⟨false, [.slice], [.slice none 0 0]⟩] := by kernel_rfl
@[simp] theorem sig38 : sigOf Try.prog 38 = some [⟨false, [.slice], [.slice none 0 0]⟩] := by kernel_rfl
@[simp] theorem sig39 : sigOf Try.prog 39 = some [⟨false, [.bool], [.bool false]⟩] := by kernel_rfl
@[simp] theorem sig40 : sigOf Try.prog 40 = some [⟨false, [.bool], [.bool false]⟩] := by kernel_rfl
@[simp] theorem sig41 : sigOf Try.prog 41 = some [⟨false, [.int .i64], [.int .i64 0]⟩] := by kernel_rfl
@[simp] theorem sig42 : sigOf Try.prog 42 = some [⟨false, [.bool], [.bool false]⟩] := by kernel_rfl
@[simp] theorem sig43 : sigOf Try.prog 43 = some [⟨false, [.slice], [.slice none 0 0]⟩, ⟨false, [.slice], [.slice none 0 0]⟩, ⟨false, [.int .i64], [.int .i64 0]⟩] := by kernel_rfl
@[simp] theorem sig44 : sigOf Try.prog 44 = some [⟨false, [.slice], [.slice none 0 0]⟩, ⟨false, [.slice], [.slice none 0 0]⟩, ⟨false, [.int .i64], [.int .i64 0]⟩] := by kernel_rfl
@[simp] theorem sig45 : sigOf Try.prog 45 = some [⟨false, [.bool], [.bool false]⟩] := by kernel_rfl
@[simp] theorem sig46 : sigOf Try.prog 46 = some [⟨false, [.bool], [.bool false]⟩] := by kernel_rfl
@[simp] theorem sig47 : sigOf Try.prog 47 = some [⟨false, [.bool], [.bool false]⟩] := by kernel_rfl
@[simp] theorem sig48 : sigOf Try.prog 48 = some [⟨false, [.bool], [.bool false]⟩] := by kernel_rfl
@[simp] theorem sig49 : sigOf Try.prog 49 = some [⟨false, [.bool], [.bool false]⟩] := by kernel_rfl
@[simp] theorem sig50 : sigOf Try.prog 50 = some [⟨false, [.int .i64], [.int .i64 0]⟩] := by kernel_rfl
@[simp] theorem sig51 : sigOf Try.prog 51 = some [⟨false, [.bool], [.bool false]⟩] := by kernel_rfl
@[simp] theorem sig52 : sigOf Try.prog 52 = some [⟨false, [.bool], [.bool false]⟩] := by kernel_rfl
@[simp] theorem sig53 : sigOf Try.prog 53 = some [⟨false, [.slice], [.slice none 0 0]⟩] := by kernel_rfl
@[simp] theorem sig54 : sigOf Try.prog 54 = some [⟨false, [.slice], [.slice none 0 0]⟩] := by kernel_rfl
@[simp] theorem sig55 : sigOf Try.prog 55 = some [⟨false, [.any], [.nilFunc]⟩] := by kernel_rfl
@[simp] theorem sig56 : sigOf Try.prog 56 = some [⟨false, [.bool], [.bool false]⟩] := by kernel_rfl
@[simp] theorem sig57 : sigOf Try.prog 57 = some [] := by kernel_rfl
@[simp] theorem sig58 : sigOf Try.prog 58 = some [⟨false, [.int .i64], [.int .i64 0]⟩] := by kernel_rfl
@[simp] theorem sig59 : sigOf Try.prog 59 = some [⟨false, [.slice], [.slice none 0 0]⟩] := by kernel_rfl
@[simp] theorem sig60 : sigOf Try.prog 60 = some [⟨false, [.slice], [.slice none 0 0]⟩] := by kernel_rfl
@[simp] theorem sig61 : sigOf Try.prog 61 = some [⟨false, [.bool], [.bool false]⟩] := by kernel_rfl
@[simp] theorem sig62 : sigOf Try.prog 62 = some [⟨false, [.int .i64], [.int .i64 0]⟩, ⟨false, [.bool], [.bool false]⟩] := by kernel_rfl
@[simp] theorem sig63 : sigOf Try.prog 63 = some [⟨false, [.bool], [.bool false]⟩] := by kernel_rfl
@[simp] theorem sig64 : sigOf Try.prog 64 = some [⟨false, [.slice], [.slice none 0 0]⟩] := by kernel_rfl
@[simp] theorem sig65 : sigOf Try.prog 65 = some [⟨false, [.bool], [.bool false]⟩] := by kernel_rfl
@[simp] theorem sig66 : sigOf Try.prog 66 = some [⟨false, [.bool], [.bool false]⟩] := by kernel_rfl
@[simp] theorem sig67 : sigOf Try.prog 67 = some [⟨false, [.int .i64], [.int .i64 0]⟩] := by kernel_rfl
@[simp] theorem sig68 : sigOf Try.prog 68 = some [⟨false, [.bool], [.bool false]⟩] := by kernel_rfl
@[simp] theorem sig69 : sigOf Try.prog 69 = some [⟨false, [.slice], [.slice none 0 0]⟩] := by kernel_rfl
@[simp] theorem sig70 : sigOf Try.prog 70 = some [⟨false, [.bool], [.bool false]⟩] := by kernel_rfl
@[simp] theorem sig71 : sigOf Try.prog 71 = some [⟨false, [.int .i64], [.int .i64 0]⟩] := by kernel_rfl
@[simp] theorem sig72 : sigOf Try.prog 72 = some [⟨false, [.bool], [.bool false]⟩] := by kernel_rfl
@[simp] theorem sig73 : sigOf Try.prog 73 = some [⟨true, [.slice, .slice, .map, .slice], [.slice none 0 0, .slice none 0 0, .map none, .slice none 0 0]⟩] := by kernel_rfl
@[simp] theorem sig74 : sigOf Try.prog 74 = some [⟨false, [.slice], [.slice none 0 0]⟩] := by kernel_rfl
@[simp] theorem sig75 : sigOf Try.prog 75 = some [⟨false, [.int .i64], [.int .i64 0]⟩] := by kernel_rfl
@[simp] theorem sig76 : sigOf Try.prog 76 = some [⟨true, [.bool, .bool, .bool, .bool], [.bool false, .bool false, .bool false, .bool false]⟩, ⟨false, [.bool], [.bool false]⟩] := by kernel_rfl
@[simp] theorem sig77 : sigOf Try.prog 77 = some [⟨false, [.bool], [.bool false]⟩] := by kernel_rfl
@[simp] theorem sig78 : sigOf Try.prog 78 = some [⟨false, [.bool], [.bool false]⟩] := by kernel_rfl
@[simp] theorem sig79 : sigOf Try.prog 79 = some [⟨false, [.int .i64], [.int .i64 0]⟩] := by kernel_rfl
@[simp] theorem sig80 : sigOf Try.prog 80 = some [⟨false, [.int .i64], [.int .i64 0]⟩] := by kernel_rfl
@[simp] theorem sig81 : sigOf Try.prog 81 = some [⟨false, [.bool], [.bool false]⟩] := by kernel_rfl
@[simp] theorem sig82 : sigOf Try.prog 82 = some [⟨false, [.slice], [.slice none 0 0]⟩] := by kernel_rfl
@[simp] theorem sig83 : sigOf Try.prog 83 = some [⟨false, [.bool], [.bool false]⟩] := by kernel_rfl
@[simp] theorem sig84 : sigOf Try.prog 84 = some [⟨false, [.int .i64], [.int .i64 0]⟩] := by kernel_rfl
@[simp] theorem sig85 : sigOf Try.prog 85 = some [⟨false, [.slice], [.slice none 0 0]⟩] := by kernel_rfl
@[simp] theorem sig86 : sigOf Try.prog 86 = some [] := by kernel_rfl
@[simp] theorem sig87 : sigOf Try.prog 87 = some [] := by kernel_rfl
@[simp] theorem sig88 : sigOf Try.prog 88 = some [⟨false, [.int .i64], [.int .i64 0]⟩] := by kernel_rfl
@[simp] theorem sig89 : sigOf Try.prog 89 = some [⟨false, [.int .u64], [.int .u64 0]⟩, ⟨false, [.int .u64], [.int .u64 0]⟩] := by kernel_rfl
@[simp] theorem sig90 : sigOf Try.prog 90 = some [⟨false, [.int .i64], [.int .i64 0]⟩] := by kernel_rfl
@[simp] theorem sig91 : sigOf Try.prog 91 = some [⟨false, [.bool], [.bool false]⟩] := by kernel_rfl
@[simp] theorem sig92 : sigOf Try.prog 92 = some [⟨false, [.bool], [.bool false]⟩] := by kernel_rfl
@[simp] theorem sig93 : sigOf Try.prog 93 = some [] := by kernel_rfl
@[simp] theorem sig94 : sigOf Try.prog 94 = some [⟨false, [.bool], [.bool false]⟩] := by kernel_rfl
@[simp] theorem sig95 : sigOf Try.prog 95 = some [⟨false, [.slice], [.slice none 0 0]⟩, ⟨false, [.int .i64], [.int .i64 0]⟩] := by kernel_rfl
@[simp] theorem sig96 : sigOf Try.prog 96 = some [⟨false, [.int .i64], [.int .i64 0]⟩] := by kernel_rfl
@[simp] theorem sig97 : sigOf Try.prog 97 = some [⟨false, [.bool], [.bool false]⟩] := by kernel_rfl
@[simp] theorem sig98 : sigOf Try.prog 98 = some [⟨false, [.slice], [.slice none 0 0]⟩] := by kernel_rfl
@[simp] theorem sig99 : sigOf Try.prog 99 = some [] := by kernel_rfl
@[simp] theorem sig100 : sigOf Try.prog 100 = some [] := by kernel_rfl
@[simp] theorem sig101 : sigOf Try.prog 101 = some [] := by kernel_rfl
@[simp] theorem sig102 : sigOf Try.prog 102 = some [⟨false, [.int .i64], [.int .i64 0]⟩, ⟨false, [.int .i64], [.int .i64 0]⟩] := by kernel_rfl
@[simp] theorem sig103 : sigOf Try.prog 103 = some [] := by kernel_rfl
@[simp] theorem sig104 : sigOf Try.prog 104 = some [⟨false, [.bool], [.bool false]⟩] := by kernel_rfl
@[simp] theorem sig105 : sigOf Try.prog 105 = some [⟨false, [.bool], [.bool false]⟩] := by kernel_rfl
@[simp] theorem sig106 : sigOf Try.prog 106 = some [⟨false, [.int .i64], [.int .i64 0]⟩] := by kernel_rfl
@[simp] theorem sig107 : sigOf Try.prog 107 = some [⟨false, [.int .i64], [.int .i64 0]⟩, ⟨false, [.bool], [.bool false]⟩] := by kernel_rfl
@[simp] theorem sig108 : sigOf Try.prog 108 = some [⟨false, [.int .i64], [.int .i64 0]⟩] := by kernel_rfl
@[simp] theorem sig109 : sigOf Try.prog 109 = some [⟨false, [.int .i64], [.int .i64 0]⟩] := by kernel_rfl
@[simp] theorem sig110 : sigOf Try.prog 110 = some [⟨false, [.int .u32], [.int .u32 0]⟩, ⟨false, [.int .u32], [.int .u32 0]⟩] := by kernel_rfl
@[simp] theorem sig111 : sigOf Try.prog 111 = some [⟨false, [.int .u64], [.int .u64 0]⟩, ⟨false, [.int .u64], [.int .u64 0]⟩] := by kernel_rfl
@[simp] theorem sig112 : sigOf Try.prog 112 = some [⟨false, [.slice], [.slice none 0 0]⟩, ⟨false, [.int .i64], [.int .i64 0]⟩] := by kernel_rfl
@[simp] theorem sig113 : sigOf Try.prog 113 = some [] := by kernel_rfl
@[simp] theorem sig114 : sigOf Try.prog 114 = some [⟨false, [.int .u64], [.int .u64 0]⟩] := by kernel_rfl
@[simp] theorem sig115 : sigOf Try.prog 115 = some [⟨false, [.int .u64], [.int .u64 0]⟩] := by kernel_rfl
@[simp] theorem sig116 : sigOf Try.prog 116 = some [⟨false, [.int .i64], [.int .i64 0]⟩] := by kernel_rfl
@[simp] theorem sig117 : sigOf Try.prog 117 = some [⟨false, [.int .i64], [.int .i64 0]⟩] := by kernel_rfl
@[simp] theorem sig118 : sigOf Try.prog 118 = some [⟨false, [.bool], [.bool false]⟩] := by kernel_rfl
@[simp] theorem sig119 : sigOf Try.prog 119 = some [⟨false, [.int .i64], [.int .i64 0]⟩, ⟨false, [.int .i64], [.int .i64 0]⟩] := by kernel_rfl
end Go.Proofs.Ytkfemiloehkmhaa.T


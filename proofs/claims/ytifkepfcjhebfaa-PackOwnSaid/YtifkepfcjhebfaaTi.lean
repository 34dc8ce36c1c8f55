/- What the evaluator asks of the types of this seat. -/
import Derived.Test.YtifkepfcjhebfaaProg
import Derived.Test.YtifkepfcjhebfaaA3
namespace Go.Proofs.Ytifkepfcjhebfaa
open Go.Ab
theorem ti1 : ti Try.prog 1 = some ⟨1, 8, false, [.oth .nilFunc], .func⟩ := by kernel_rfl
theorem ti2 : ti Try.prog 2 = some ⟨1, 8, false, [.int .i64 (0)], .int .i64⟩ := by kernel_rfl
theorem ti3 : ti Try.prog 3 = some ⟨1, 8, false, [.int .i64 (0)], .int .i64⟩ := by kernel_rfl
theorem ti4 : ti Try.prog 4 = some ⟨1, 1, false, [.bool false], .bool⟩ := by kernel_rfl
theorem isb4 : isB Try.prog 4 = True := eq_true ⟨_, _, _, _, ti4⟩
theorem ti5 : ti Try.prog 5 = some ⟨1, 1, false, [.int .u8 (0)], .int .u8⟩ := by kernel_rfl
theorem ti6 : ti Try.prog 6 = some ⟨1, 1, false, [.int .u8 (0)], .int .u8⟩ := by kernel_rfl
theorem ti7 : ti Try.prog 7 = some ⟨4, 24, true, [.int .i64 (0), .int .i64 (0), .bool false, .int .u8 (0)], .struct [(0, 2), (1, 3), (2, 4), (3, 6)]⟩ := by kernel_rfl
theorem ti8 : ti Try.prog 8 = some ⟨4, 24, true, [.int .i64 (0), .int .i64 (0), .bool false, .int .u8 (0)], .struct [(0, 2), (1, 3), (2, 4), (3, 6)]⟩ := by kernel_rfl
theorem ti9 : ti Try.prog 9 = some ⟨1, 16, false, [.str ByteArray.empty], .str⟩ := by kernel_rfl
theorem ti10 : ti Try.prog 10 = some ⟨1, 16, false, [.str ByteArray.empty], .str⟩ := by kernel_rfl
theorem ti11 : ti Try.prog 11 = some ⟨1, 16, false, [.str ByteArray.empty], .str⟩ := by kernel_rfl
theorem ti12 : ti Try.prog 12 = some ⟨1, 8, false, [.int .u64 (0)], .int .u64⟩ := by kernel_rfl
theorem ti13 : ti Try.prog 13 = some ⟨2, 24, true, [.str ByteArray.empty, .int .u64 (0)], .struct [(0, 9), (1, 12)]⟩ := by kernel_rfl
theorem ti14 : ti Try.prog 14 = some ⟨2, 24, true, [.str ByteArray.empty, .int .u64 (0)], .struct [(0, 9), (1, 12)]⟩ := by kernel_rfl
theorem ti15 : ti Try.prog 15 = some ⟨1, 8, false, [.oth (.pointer none)], .ptr 79⟩ := by kernel_rfl
theorem ti16 : ti Try.prog 16 = some ⟨1, 8, false, [.oth (.pointer none)], .ptr 82⟩ := by kernel_rfl
theorem ti17 : ti Try.prog 17 = some ⟨1, 8, false, [.oth (.pointer none)], .ptr 91⟩ := by kernel_rfl
theorem ti18 : ti Try.prog 18 = some ⟨1, 8, true, [.oth (.pointer none)], .struct [(0, 17)]⟩ := by kernel_rfl
theorem ti19 : ti Try.prog 19 = some ⟨1, 8, true, [.oth (.pointer none)], .struct [(0, 17)]⟩ := by kernel_rfl
theorem ti21 : ti Try.prog 21 = some ⟨1, 4, false, [.int .i32 (0)], .int .i32⟩ := by kernel_rfl
theorem ti22 : ti Try.prog 22 = some ⟨1, 24, false, [.nil], .slice 5⟩ := by kernel_rfl
theorem ti23 : ti Try.prog 23 = some ⟨8, 96, true, [.int .i64 (0), .int .i64 (0), .str ByteArray.empty, .str ByteArray.empty, .int .i64 (0), .int .i64 (0), .int .i64 (0), .nil], .struct [(0, 3), (1, 3), (2, 9), (3, 9), (4, 3), (5, 3), (6, 3), (7, 22)]⟩ := by kernel_rfl
theorem ti24 : ti Try.prog 24 = some ⟨8, 96, true, [.int .i64 (0), .int .i64 (0), .str ByteArray.empty, .str ByteArray.empty, .int .i64 (0), .int .i64 (0), .int .i64 (0), .nil], .struct [(0, 3), (1, 3), (2, 9), (3, 9), (4, 3), (5, 3), (6, 3), (7, 22)]⟩ := by kernel_rfl
theorem ti25 : ti Try.prog 25 = some ⟨1, 8, false, [.oth .nilFunc], .func⟩ := by kernel_rfl
theorem ti26 : ti Try.prog 26 = some ⟨1, 8, false, [.oth .nilFunc], .func⟩ := by kernel_rfl
theorem ti27 : ti Try.prog 27 = some ⟨1, 24, false, [.nil], .slice 9⟩ := by kernel_rfl
theorem ti28 : ti Try.prog 28 = some ⟨1, 8, false, [.int .i64 (0)], .int .i64⟩ := by kernel_rfl
theorem ti29 : ti Try.prog 29 = some ⟨7, 88, true, [.int .i64 (0), .int .i64 (0), .int .i64 (0), .int .i64 (0), .int .i64 (0), .nil, .nil], .struct [(0, 28), (1, 3), (2, 3), (3, 3), (4, 3), (5, 27), (6, 22)]⟩ := by kernel_rfl
theorem ti30 : ti Try.prog 30 = some ⟨7, 88, true, [.int .i64 (0), .int .i64 (0), .int .i64 (0), .int .i64 (0), .int .i64 (0), .nil, .nil], .struct [(0, 28), (1, 3), (2, 3), (3, 3), (4, 3), (5, 27), (6, 22)]⟩ := by kernel_rfl
theorem ti31 : ti Try.prog 31 = some ⟨1, 8, false, [.oth .nilFunc], .func⟩ := by kernel_rfl
theorem ti32 : ti Try.prog 32 = some ⟨1, 8, false, [.oth .nilFunc], .func⟩ := by kernel_rfl
theorem ti33 : ti Try.prog 33 = some ⟨1, 8, false, [.oth .nilFunc], .func⟩ := by kernel_rfl
theorem ti34 : ti Try.prog 34 = some ⟨1, 8, false, [.oth .nilFunc], .func⟩ := by kernel_rfl
theorem ti35 : ti Try.prog 35 = some ⟨1, 8, false, [.oth .nilFunc], .func⟩ := by kernel_rfl
theorem ti36 : ti Try.prog 36 = some ⟨1, 24, false, [.nil], .slice 3⟩ := by kernel_rfl
theorem ti37 : ti Try.prog 37 = some ⟨1, 8, false, [.oth .nilFunc], .func⟩ := by kernel_rfl
theorem ti38 : ti Try.prog 38 = some ⟨1, 8, false, [.oth .nilFunc], .func⟩ := by kernel_rfl
theorem ti39 : ti Try.prog 39 = some ⟨1, 8, false, [.oth .nilFunc], .func⟩ := by kernel_rfl
theorem ti40 : ti Try.prog 40 = some ⟨1, 8, false, [.oth .nilFunc], .func⟩ := by kernel_rfl
theorem ti41 : ti Try.prog 41 = some ⟨1, 8, false, [.oth .nilFunc], .func⟩ := by kernel_rfl
theorem ti42 : ti Try.prog 42 = some ⟨1, 8, false, [.oth .nilFunc], .func⟩ := by kernel_rfl
theorem ti44 : ti Try.prog 44 = some ⟨1, 8, false, [.oth .nilFunc], .func⟩ := by kernel_rfl
theorem ti46 : ti Try.prog 46 = some ⟨1, 8, false, [.oth .nilFunc], .func⟩ := by kernel_rfl
theorem ti48 : ti Try.prog 48 = some ⟨1, 8, false, [.oth .nilFunc], .func⟩ := by kernel_rfl
theorem ti49 : ti Try.prog 49 = some ⟨1, 8, false, [.oth .nilFunc], .func⟩ := by kernel_rfl
theorem ti50 : ti Try.prog 50 = some ⟨1, 8, false, [.oth .nilFunc], .func⟩ := by kernel_rfl
theorem ti52 : ti Try.prog 52 = some ⟨1, 8, false, [.oth .nilFunc], .func⟩ := by kernel_rfl
theorem ti54 : ti Try.prog 54 = some ⟨1, 8, false, [.oth .nilFunc], .func⟩ := by kernel_rfl
theorem ti55 : ti Try.prog 55 = some ⟨1, 8, false, [.oth .nilFunc], .func⟩ := by kernel_rfl
theorem ti56 : ti Try.prog 56 = some ⟨1, 2, false, [.int .u16 (0)], .int .u16⟩ := by kernel_rfl
theorem ti57 : ti Try.prog 57 = some ⟨1, 8, false, [.oth .nilFunc], .func⟩ := by kernel_rfl
theorem ti58 : ti Try.prog 58 = some ⟨1, 8, false, [.oth .nilFunc], .func⟩ := by kernel_rfl
theorem ti59 : ti Try.prog 59 = some ⟨1, 8, false, [.oth .nilFunc], .func⟩ := by kernel_rfl
theorem ti60 : ti Try.prog 60 = some ⟨1, 8, false, [.int .u64 (0)], .int .u64⟩ := by kernel_rfl
theorem ti61 : ti Try.prog 61 = some ⟨1, 8, false, [.int .u64 (0)], .int .u64⟩ := by kernel_rfl
theorem ti62 : ti Try.prog 62 = some ⟨1, 8, false, [.oth .nilFunc], .func⟩ := by kernel_rfl
theorem ti63 : ti Try.prog 63 = some ⟨1, 8, false, [.oth .nilFunc], .func⟩ := by kernel_rfl
theorem ti64 : ti Try.prog 64 = some ⟨1, 8, false, [.oth (.pointer none)], .ptr 68⟩ := by kernel_rfl
theorem ti65 : ti Try.prog 65 = some ⟨1, 24, true, [.nil], .struct [(0, 22)]⟩ := by kernel_rfl
theorem ti66 : ti Try.prog 66 = some ⟨1, 24, true, [.nil], .struct [(0, 22)]⟩ := by kernel_rfl
theorem ti67 : ti Try.prog 67 = some ⟨2, 32, true, [.nil, .int .i64 (0)], .struct [(0, 66), (1, 28)]⟩ := by kernel_rfl
theorem ti68 : ti Try.prog 68 = some ⟨2, 32, true, [.nil, .int .i64 (0)], .struct [(0, 66), (1, 28)]⟩ := by kernel_rfl
theorem ti69 : ti Try.prog 69 = some ⟨1, 8, false, [.oth .nilFunc], .func⟩ := by kernel_rfl
theorem ti70 : ti Try.prog 70 = some ⟨1, 8, false, [.oth .nilFunc], .func⟩ := by kernel_rfl
theorem ti71 : ti Try.prog 71 = some ⟨1, 8, false, [.oth .nilFunc], .func⟩ := by kernel_rfl
theorem ti72 : ti Try.prog 72 = some ⟨1, 8, false, [.oth .nilFunc], .func⟩ := by kernel_rfl
theorem ti73 : ti Try.prog 73 = some ⟨1, 8, false, [.oth (.pointer none)], .ptr 75⟩ := by kernel_rfl
theorem ti74 : ti Try.prog 74 = some ⟨2, 32, true, [.nil, .int .i64 (0)], .struct [(0, 22), (1, 28)]⟩ := by kernel_rfl
theorem ti75 : ti Try.prog 75 = some ⟨2, 32, true, [.nil, .int .i64 (0)], .struct [(0, 22), (1, 28)]⟩ := by kernel_rfl
theorem ti76 : ti Try.prog 76 = some ⟨1, 24, false, [.nil], .slice 22⟩ := by kernel_rfl
theorem ti77 : ti Try.prog 77 = some ⟨1, 8, false, [.oth (.pointer none)], .ptr 66⟩ := by kernel_rfl
theorem ti78 : ti Try.prog 78 = some ⟨4, 40, true, [.oth (.pointer none), .oth (.pointer none), .oth (.pointer none), .str ByteArray.empty], .struct [(0, 17), (1, 17), (2, 17), (3, 9)]⟩ := by kernel_rfl
theorem ti79 : ti Try.prog 79 = some ⟨4, 40, true, [.oth (.pointer none), .oth (.pointer none), .oth (.pointer none), .str ByteArray.empty], .struct [(0, 17), (1, 17), (2, 17), (3, 9)]⟩ := by kernel_rfl
theorem ti80 : ti Try.prog 80 = some ⟨0, 0, true, [], .array 0 16⟩ := by kernel_rfl
theorem ti81 : ti Try.prog 81 = some ⟨0, 0, true, [], .struct [(0, 80)]⟩ := by kernel_rfl
theorem ti82 : ti Try.prog 82 = some ⟨0, 0, true, [], .struct [(0, 80)]⟩ := by kernel_rfl
theorem ti83 : ti Try.prog 83 = some ⟨1, 4, false, [.int .u32 (0)], .int .u32⟩ := by kernel_rfl
theorem ti84 : ti Try.prog 84 = some ⟨1, 1, false, [.int .u8 (0)], .int .u8⟩ := by kernel_rfl
theorem ti85 : ti Try.prog 85 = some ⟨1, 1, false, [.int .u8 (0)], .int .u8⟩ := by kernel_rfl
theorem ti86 : ti Try.prog 86 = some ⟨1, 8, false, [.oth .nilFunc], .func⟩ := by kernel_rfl
theorem ti87 : ti Try.prog 87 = some ⟨1, 8, false, [.oth (.pointer none)], .ptr 5⟩ := by kernel_rfl
theorem ti88 : ti Try.prog 88 = some ⟨1, 4, false, [.int .i32 (0)], .int .i32⟩ := by kernel_rfl
theorem ti89 : ti Try.prog 89 = some ⟨1, 4, false, [.int .i32 (0)], .int .i32⟩ := by kernel_rfl
theorem ti90 : ti Try.prog 90 = some ⟨11, 48, true, [.int .u64 (0), .int .u64 (0), .int .u32 (0), .int .u8 (0), .int .u8 (0), .int .u8 (0), .int .u8 (0), .oth .nilFunc, .oth (.pointer none), .int .i32 (0), .int .i32 (0)], .struct [(0, 12), (1, 12), (2, 83), (3, 84), (4, 5), (5, 5), (6, 85), (7, 86), (8, 87), (9, 88), (10, 89)]⟩ := by kernel_rfl
theorem ti91 : ti Try.prog 91 = some ⟨11, 48, true, [.int .u64 (0), .int .u64 (0), .int .u32 (0), .int .u8 (0), .int .u8 (0), .int .u8 (0), .int .u8 (0), .oth .nilFunc, .oth (.pointer none), .int .i32 (0), .int .i32 (0)], .struct [(0, 12), (1, 12), (2, 83), (3, 84), (4, 5), (5, 5), (6, 85), (7, 86), (8, 87), (9, 88), (10, 89)]⟩ := by kernel_rfl
theorem TIS : (((((((type_of% @ti1) ∧ (type_of% @ti2)) ∧ ((type_of% @ti3) ∧ ((type_of% @ti4) ∧ (type_of% @ti5)))) ∧ (((type_of% @ti6) ∧ (type_of% @ti7)) ∧ ((type_of% @ti8) ∧ ((type_of% @ti9) ∧ (type_of% @ti10))))) ∧ ((((type_of% @ti11) ∧ (type_of% @ti12)) ∧ ((type_of% @ti13) ∧ ((type_of% @ti14) ∧ (type_of% @ti15)))) ∧ (((type_of% @ti16) ∧ ((type_of% @ti17) ∧ (type_of% @ti18))) ∧ ((type_of% @ti19) ∧ ((type_of% @ti21) ∧ (type_of% @ti22)))))) ∧ (((((type_of% @ti23) ∧ (type_of% @ti24)) ∧ ((type_of% @ti25) ∧ ((type_of% @ti26) ∧ (type_of% @ti27)))) ∧ (((type_of% @ti28) ∧ ((type_of% @ti29) ∧ (type_of% @ti30))) ∧ ((type_of% @ti31) ∧ ((type_of% @ti32) ∧ (type_of% @ti33))))) ∧ ((((type_of% @ti34) ∧ (type_of% @ti35)) ∧ ((type_of% @ti36) ∧ ((type_of% @ti37) ∧ (type_of% @ti38)))) ∧ (((type_of% @ti39) ∧ ((type_of% @ti40) ∧ (type_of% @ti41))) ∧ ((type_of% @ti42) ∧ ((type_of% @ti44) ∧ (type_of% @ti46))))))) ∧ ((((((type_of% @ti48) ∧ (type_of% @ti49)) ∧ ((type_of% @ti50) ∧ ((type_of% @ti52) ∧ (type_of% @ti54)))) ∧ (((type_of% @ti55) ∧ (type_of% @ti56)) ∧ ((type_of% @ti57) ∧ ((type_of% @ti58) ∧ (type_of% @ti59))))) ∧ ((((type_of% @ti60) ∧ (type_of% @ti61)) ∧ ((type_of% @ti62) ∧ ((type_of% @ti63) ∧ (type_of% @ti64)))) ∧ (((type_of% @ti65) ∧ ((type_of% @ti66) ∧ (type_of% @ti67))) ∧ ((type_of% @ti68) ∧ ((type_of% @ti69) ∧ (type_of% @ti70)))))) ∧ (((((type_of% @ti71) ∧ (type_of% @ti72)) ∧ ((type_of% @ti73) ∧ ((type_of% @ti74) ∧ (type_of% @ti75)))) ∧ (((type_of% @ti76) ∧ ((type_of% @ti77) ∧ (type_of% @ti78))) ∧ ((type_of% @ti79) ∧ ((type_of% @ti80) ∧ (type_of% @ti81))))) ∧ ((((type_of% @ti82) ∧ (type_of% @ti83)) ∧ ((type_of% @ti84) ∧ ((type_of% @ti85) ∧ (type_of% @ti86)))) ∧ (((type_of% @ti87) ∧ ((type_of% @ti88) ∧ (type_of% @ti89))) ∧ ((type_of% @ti90) ∧ ((type_of% @ti91) ∧ (type_of% @isb4)))))))) :=
  ⟨⟨⟨⟨⟨⟨@ti1, @ti2⟩, ⟨@ti3, ⟨@ti4, @ti5⟩⟩⟩, ⟨⟨@ti6, @ti7⟩, ⟨@ti8, ⟨@ti9, @ti10⟩⟩⟩⟩, ⟨⟨⟨@ti11, @ti12⟩, ⟨@ti13, ⟨@ti14, @ti15⟩⟩⟩, ⟨⟨@ti16, ⟨@ti17, @ti18⟩⟩, ⟨@ti19, ⟨@ti21, @ti22⟩⟩⟩⟩⟩, ⟨⟨⟨⟨@ti23, @ti24⟩, ⟨@ti25, ⟨@ti26, @ti27⟩⟩⟩, ⟨⟨@ti28, ⟨@ti29, @ti30⟩⟩, ⟨@ti31, ⟨@ti32, @ti33⟩⟩⟩⟩, ⟨⟨⟨@ti34, @ti35⟩, ⟨@ti36, ⟨@ti37, @ti38⟩⟩⟩, ⟨⟨@ti39, ⟨@ti40, @ti41⟩⟩, ⟨@ti42, ⟨@ti44, @ti46⟩⟩⟩⟩⟩⟩, ⟨⟨⟨⟨⟨@ti48, @ti49⟩, ⟨@ti50, ⟨@ti52, @ti54⟩⟩⟩, ⟨⟨@ti55, @ti56⟩, ⟨@ti57, ⟨@ti58, @ti59⟩⟩⟩⟩, ⟨⟨⟨@ti60, @ti61⟩, ⟨@ti62, ⟨@ti63, @ti64⟩⟩⟩, ⟨⟨@ti65, ⟨@ti66, @ti67⟩⟩, ⟨@ti68, ⟨@ti69, @ti70⟩⟩⟩⟩⟩, ⟨⟨⟨⟨@ti71, @ti72⟩, ⟨@ti73, ⟨@ti74, @ti75⟩⟩⟩, ⟨⟨@ti76, ⟨@ti77, @ti78⟩⟩, ⟨@ti79, ⟨@ti80, @ti81⟩⟩⟩⟩, ⟨⟨⟨@ti82, @ti83⟩, ⟨@ti84, ⟨@ti85, @ti86⟩⟩⟩, ⟨⟨@ti87, ⟨@ti88, @ti89⟩⟩, ⟨@ti90, ⟨@ti91, @isb4⟩⟩⟩⟩⟩⟩⟩
end Go.Proofs.Ytifkepfcjhebfaa

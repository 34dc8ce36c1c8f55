/- What the evaluator asks of the types of this seat. -/
import Derived.Test.YteebeajhoemdpaaProg
import Derived.Test.YteebeajhoemdpaaA3
namespace Go.Proofs.Yteebeajhoemdpaa
open Go.Ab
theorem ti1 : ti Try.prog 1 = some ⟨1, 8, false, [.oth .nilFunc], .func⟩ := by kernel_rfl
theorem ti2 : ti Try.prog 2 = some ⟨1, 8, false, [.int .i64 (0)], .int .i64⟩ := by kernel_rfl
theorem ti3 : ti Try.prog 3 = some ⟨1, 8, false, [.int .i64 (0)], .int .i64⟩ := by kernel_rfl
theorem ti4 : ti Try.prog 4 = some ⟨1, 1, false, [.bool false], .bool⟩ := by kernel_rfl
theorem isb4 : isB Try.prog 4 = True := eq_true ⟨_, _, _, _, ti4⟩
theorem ti5 : ti Try.prog 5 = some ⟨1, 1, false, [.int .u8 (0)], .int .u8⟩ := by kernel_rfl
theorem ti6 : ti Try.prog 6 = some ⟨1, 1, false, [.int .u8 (0)], .int .u8⟩ := by kernel_rfl
theorem ti7 : ti Try.prog 7 = some ⟨4, 24, true, [.int .i64 (0), .int .i64 (0), .bool false, .int .u8 (0)], .struct [(0, 2), (1, 3), (2, 4), (3, 6)]⟩ := by kernel_rfl
theorem ti8 : ti Try.prog 8 = some ⟨4, 24, true, [.int .i64 (0), .int .i64 (0), .bool false, .int .u8 (0)], .struct [(0, 2), (1, 3), (2, 4), (3, 6)]⟩ := by kernel_rfl
theorem ti9 : ti Try.prog 9 = some ⟨1, 16, false, [.str ByteArray.empty], .str⟩ := by kernel_rfl
theorem ti10 : ti Try.prog 10 = some ⟨1, 16, false, [.str ByteArray.empty], .str⟩ := by kernel_rfl
theorem ti11 : ti Try.prog 11 = some ⟨1, 16, false, [.str ByteArray.empty], .str⟩ := by kernel_rfl
theorem ti12 : ti Try.prog 12 = some ⟨1, 8, false, [.int .u64 (0)], .int .u64⟩ := by kernel_rfl
theorem ti13 : ti Try.prog 13 = some ⟨2, 24, true, [.str ByteArray.empty, .int .u64 (0)], .struct [(0, 9), (1, 12)]⟩ := by kernel_rfl
theorem ti14 : ti Try.prog 14 = some ⟨2, 24, true, [.str ByteArray.empty, .int .u64 (0)], .struct [(0, 9), (1, 12)]⟩ := by kernel_rfl
theorem ti15 : ti Try.prog 15 = some ⟨1, 8, false, [.oth (.pointer none)], .ptr 61⟩ := by kernel_rfl
theorem ti16 : ti Try.prog 16 = some ⟨1, 8, false, [.oth (.pointer none)], .ptr 64⟩ := by kernel_rfl
theorem ti17 : ti Try.prog 17 = some ⟨1, 8, false, [.oth (.pointer none)], .ptr 74⟩ := by kernel_rfl
theorem ti18 : ti Try.prog 18 = some ⟨1, 8, true, [.oth (.pointer none)], .struct [(0, 17)]⟩ := by kernel_rfl
theorem ti19 : ti Try.prog 19 = some ⟨1, 8, true, [.oth (.pointer none)], .struct [(0, 17)]⟩ := by kernel_rfl
theorem ti21 : ti Try.prog 21 = some ⟨1, 4, false, [.int .i32 (0)], .int .i32⟩ := by kernel_rfl
theorem ti22 : ti Try.prog 22 = some ⟨1, 24, false, [.nil], .slice 26⟩ := by kernel_rfl
theorem ti23 : ti Try.prog 23 = some ⟨1, 24, false, [.nil], .slice 3⟩ := by kernel_rfl
theorem ti24 : ti Try.prog 24 = some ⟨1, 24, false, [.nil], .slice 5⟩ := by kernel_rfl
theorem ti25 : ti Try.prog 25 = some ⟨5, 72, true, [.int .i64 (0), .int .i64 (0), .int .i64 (0), .nil, .nil], .struct [(0, 3), (1, 3), (2, 3), (3, 23), (4, 24)]⟩ := by kernel_rfl
theorem ti26 : ti Try.prog 26 = some ⟨5, 72, true, [.int .i64 (0), .int .i64 (0), .int .i64 (0), .nil, .nil], .struct [(0, 3), (1, 3), (2, 3), (3, 23), (4, 24)]⟩ := by kernel_rfl
theorem ti27 : ti Try.prog 27 = some ⟨1, 8, false, [.oth .nilFunc], .func⟩ := by kernel_rfl
theorem ti28 : ti Try.prog 28 = some ⟨1, 8, false, [.oth .nilFunc], .func⟩ := by kernel_rfl
theorem ti30 : ti Try.prog 30 = some ⟨1, 8, false, [.oth .nilFunc], .func⟩ := by kernel_rfl
theorem ti31 : ti Try.prog 31 = some ⟨1, 8, false, [.oth .nilFunc], .func⟩ := by kernel_rfl
theorem ti32 : ti Try.prog 32 = some ⟨1, 8, false, [.oth .nilFunc], .func⟩ := by kernel_rfl
theorem ti33 : ti Try.prog 33 = some ⟨1, 8, false, [.oth .nilFunc], .func⟩ := by kernel_rfl
theorem ti34 : ti Try.prog 34 = some ⟨1, 8, false, [.oth .nilFunc], .func⟩ := by kernel_rfl
theorem ti35 : ti Try.prog 35 = some ⟨1, 8, false, [.oth .nilFunc], .func⟩ := by kernel_rfl
theorem ti36 : ti Try.prog 36 = some ⟨1, 8, false, [.oth .nilFunc], .func⟩ := by kernel_rfl
theorem ti37 : ti Try.prog 37 = some ⟨1, 8, false, [.oth .nilFunc], .func⟩ := by kernel_rfl
theorem ti38 : ti Try.prog 38 = some ⟨1, 24, false, [.nil], .slice 40⟩ := by kernel_rfl
theorem ti39 : ti Try.prog 39 = some ⟨7, 80, true, [.int .i64 (0), .int .i64 (0), .int .i64 (0), .nil, .nil, .int .u8 (0), .int .u8 (0)], .struct [(0, 26), (5, 5), (6, 5)]⟩ := by kernel_rfl
theorem ti40 : ti Try.prog 40 = some ⟨7, 80, true, [.int .i64 (0), .int .i64 (0), .int .i64 (0), .nil, .nil, .int .u8 (0), .int .u8 (0)], .struct [(0, 26), (5, 5), (6, 5)]⟩ := by kernel_rfl
theorem ti41 : ti Try.prog 41 = some ⟨1, 8, false, [.oth .nilFunc], .func⟩ := by kernel_rfl
theorem ti42 : ti Try.prog 42 = some ⟨1, 8, false, [.oth .nilFunc], .func⟩ := by kernel_rfl
theorem ti43 : ti Try.prog 43 = some ⟨1, 8, false, [.oth .nilFunc], .func⟩ := by kernel_rfl
theorem ti44 : ti Try.prog 44 = some ⟨1, 8, false, [.oth .nilFunc], .func⟩ := by kernel_rfl
theorem ti45 : ti Try.prog 45 = some ⟨1, 8, false, [.oth .nilFunc], .func⟩ := by kernel_rfl
theorem ti46 : ti Try.prog 46 = some ⟨1, 8, false, [.oth .nilFunc], .func⟩ := by kernel_rfl
theorem ti47 : ti Try.prog 47 = some ⟨1, 8, false, [.oth .nilFunc], .func⟩ := by kernel_rfl
theorem ti48 : ti Try.prog 48 = some ⟨1, 8, false, [.oth .nilFunc], .func⟩ := by kernel_rfl
theorem ti49 : ti Try.prog 49 = some ⟨1, 8, false, [.oth .nilFunc], .func⟩ := by kernel_rfl
theorem ti50 : ti Try.prog 50 = some ⟨1, 8, false, [.oth .nilFunc], .func⟩ := by kernel_rfl
theorem ti51 : ti Try.prog 51 = some ⟨1, 8, false, [.oth .nilFunc], .func⟩ := by kernel_rfl
theorem ti52 : ti Try.prog 52 = some ⟨1, 8, false, [.oth .nilFunc], .func⟩ := by kernel_rfl
theorem ti53 : ti Try.prog 53 = some ⟨1, 8, false, [.oth .nilFunc], .func⟩ := by kernel_rfl
theorem ti54 : ti Try.prog 54 = some ⟨1, 8, false, [.oth .nilFunc], .func⟩ := by kernel_rfl
theorem ti55 : ti Try.prog 55 = some ⟨1, 8, false, [.oth .nilFunc], .func⟩ := by kernel_rfl
theorem ti56 : ti Try.prog 56 = some ⟨1, 8, false, [.oth .nilFunc], .func⟩ := by kernel_rfl
theorem ti57 : ti Try.prog 57 = some ⟨1, 8, false, [.oth .nilFunc], .func⟩ := by kernel_rfl
theorem ti58 : ti Try.prog 58 = some ⟨1, 8, false, [.oth .nilFunc], .func⟩ := by kernel_rfl
theorem ti59 : ti Try.prog 59 = some ⟨1, 8, false, [.oth .nilFunc], .func⟩ := by kernel_rfl
theorem ti60 : ti Try.prog 60 = some ⟨4, 40, true, [.oth (.pointer none), .oth (.pointer none), .oth (.pointer none), .str ByteArray.empty], .struct [(0, 17), (1, 17), (2, 17), (3, 9)]⟩ := by kernel_rfl
theorem ti61 : ti Try.prog 61 = some ⟨4, 40, true, [.oth (.pointer none), .oth (.pointer none), .oth (.pointer none), .str ByteArray.empty], .struct [(0, 17), (1, 17), (2, 17), (3, 9)]⟩ := by kernel_rfl
theorem ti62 : ti Try.prog 62 = some ⟨0, 0, true, [], .array 0 16⟩ := by kernel_rfl
theorem ti63 : ti Try.prog 63 = some ⟨0, 0, true, [], .struct [(0, 62)]⟩ := by kernel_rfl
theorem ti64 : ti Try.prog 64 = some ⟨0, 0, true, [], .struct [(0, 62)]⟩ := by kernel_rfl
theorem ti65 : ti Try.prog 65 = some ⟨1, 8, false, [.oth .nilFunc], .func⟩ := by kernel_rfl
theorem ti66 : ti Try.prog 66 = some ⟨1, 4, false, [.int .u32 (0)], .int .u32⟩ := by kernel_rfl
theorem ti67 : ti Try.prog 67 = some ⟨1, 1, false, [.int .u8 (0)], .int .u8⟩ := by kernel_rfl
theorem ti68 : ti Try.prog 68 = some ⟨1, 1, false, [.int .u8 (0)], .int .u8⟩ := by kernel_rfl
theorem ti69 : ti Try.prog 69 = some ⟨1, 8, false, [.oth .nilFunc], .func⟩ := by kernel_rfl
theorem ti70 : ti Try.prog 70 = some ⟨1, 8, false, [.oth (.pointer none)], .ptr 5⟩ := by kernel_rfl
theorem ti71 : ti Try.prog 71 = some ⟨1, 4, false, [.int .i32 (0)], .int .i32⟩ := by kernel_rfl
theorem ti72 : ti Try.prog 72 = some ⟨1, 4, false, [.int .i32 (0)], .int .i32⟩ := by kernel_rfl
theorem ti73 : ti Try.prog 73 = some ⟨11, 48, true, [.int .u64 (0), .int .u64 (0), .int .u32 (0), .int .u8 (0), .int .u8 (0), .int .u8 (0), .int .u8 (0), .oth .nilFunc, .oth (.pointer none), .int .i32 (0), .int .i32 (0)], .struct [(0, 12), (1, 12), (2, 66), (3, 67), (4, 5), (5, 5), (6, 68), (7, 69), (8, 70), (9, 71), (10, 72)]⟩ := by kernel_rfl
theorem ti74 : ti Try.prog 74 = some ⟨11, 48, true, [.int .u64 (0), .int .u64 (0), .int .u32 (0), .int .u8 (0), .int .u8 (0), .int .u8 (0), .int .u8 (0), .oth .nilFunc, .oth (.pointer none), .int .i32 (0), .int .i32 (0)], .struct [(0, 12), (1, 12), (2, 66), (3, 67), (4, 5), (5, 5), (6, 68), (7, 69), (8, 70), (9, 71), (10, 72)]⟩ := by kernel_rfl
theorem TIS : (((((((type_of% @ti1) ∧ (type_of% @ti2)) ∧ ((type_of% @ti3) ∧ (type_of% @ti4))) ∧ (((type_of% @ti5) ∧ (type_of% @ti6)) ∧ ((type_of% @ti7) ∧ ((type_of% @ti8) ∧ (type_of% @ti9))))) ∧ ((((type_of% @ti10) ∧ (type_of% @ti11)) ∧ ((type_of% @ti12) ∧ (type_of% @ti13))) ∧ (((type_of% @ti14) ∧ (type_of% @ti15)) ∧ ((type_of% @ti16) ∧ ((type_of% @ti17) ∧ (type_of% @ti18)))))) ∧ (((((type_of% @ti19) ∧ (type_of% @ti21)) ∧ ((type_of% @ti22) ∧ (type_of% @ti23))) ∧ (((type_of% @ti24) ∧ (type_of% @ti25)) ∧ ((type_of% @ti26) ∧ ((type_of% @ti27) ∧ (type_of% @ti28))))) ∧ ((((type_of% @ti30) ∧ (type_of% @ti31)) ∧ ((type_of% @ti32) ∧ (type_of% @ti33))) ∧ (((type_of% @ti34) ∧ (type_of% @ti35)) ∧ ((type_of% @ti36) ∧ ((type_of% @ti37) ∧ (type_of% @ti38))))))) ∧ ((((((type_of% @ti39) ∧ (type_of% @ti40)) ∧ ((type_of% @ti41) ∧ (type_of% @ti42))) ∧ (((type_of% @ti43) ∧ (type_of% @ti44)) ∧ ((type_of% @ti45) ∧ ((type_of% @ti46) ∧ (type_of% @ti47))))) ∧ ((((type_of% @ti48) ∧ (type_of% @ti49)) ∧ ((type_of% @ti50) ∧ (type_of% @ti51))) ∧ (((type_of% @ti52) ∧ (type_of% @ti53)) ∧ ((type_of% @ti54) ∧ ((type_of% @ti55) ∧ (type_of% @ti56)))))) ∧ (((((type_of% @ti57) ∧ (type_of% @ti58)) ∧ ((type_of% @ti59) ∧ (type_of% @ti60))) ∧ (((type_of% @ti61) ∧ (type_of% @ti62)) ∧ ((type_of% @ti63) ∧ ((type_of% @ti64) ∧ (type_of% @ti65))))) ∧ ((((type_of% @ti66) ∧ (type_of% @ti67)) ∧ ((type_of% @ti68) ∧ ((type_of% @ti69) ∧ (type_of% @ti70)))) ∧ (((type_of% @ti71) ∧ (type_of% @ti72)) ∧ ((type_of% @ti73) ∧ ((type_of% @ti74) ∧ (type_of% @isb4)))))))) :=
  ⟨⟨⟨⟨⟨⟨@ti1, @ti2⟩, ⟨@ti3, @ti4⟩⟩, ⟨⟨@ti5, @ti6⟩, ⟨@ti7, ⟨@ti8, @ti9⟩⟩⟩⟩, ⟨⟨⟨@ti10, @ti11⟩, ⟨@ti12, @ti13⟩⟩, ⟨⟨@ti14, @ti15⟩, ⟨@ti16, ⟨@ti17, @ti18⟩⟩⟩⟩⟩, ⟨⟨⟨⟨@ti19, @ti21⟩, ⟨@ti22, @ti23⟩⟩, ⟨⟨@ti24, @ti25⟩, ⟨@ti26, ⟨@ti27, @ti28⟩⟩⟩⟩, ⟨⟨⟨@ti30, @ti31⟩, ⟨@ti32, @ti33⟩⟩, ⟨⟨@ti34, @ti35⟩, ⟨@ti36, ⟨@ti37, @ti38⟩⟩⟩⟩⟩⟩, ⟨⟨⟨⟨⟨@ti39, @ti40⟩, ⟨@ti41, @ti42⟩⟩, ⟨⟨@ti43, @ti44⟩, ⟨@ti45, ⟨@ti46, @ti47⟩⟩⟩⟩, ⟨⟨⟨@ti48, @ti49⟩, ⟨@ti50, @ti51⟩⟩, ⟨⟨@ti52, @ti53⟩, ⟨@ti54, ⟨@ti55, @ti56⟩⟩⟩⟩⟩, ⟨⟨⟨⟨@ti57, @ti58⟩, ⟨@ti59, @ti60⟩⟩, ⟨⟨@ti61, @ti62⟩, ⟨@ti63, ⟨@ti64, @ti65⟩⟩⟩⟩, ⟨⟨⟨@ti66, @ti67⟩, ⟨@ti68, ⟨@ti69, @ti70⟩⟩⟩, ⟨⟨@ti71, @ti72⟩, ⟨@ti73, ⟨@ti74, @isb4⟩⟩⟩⟩⟩⟩⟩
end Go.Proofs.Yteebeajhoemdpaa

import Derived.Test.YtmkpokcfefjifaaDoorProg
import Derived.Test.YtmkpokcfefjifaaDoorA1
set_option linter.unusedSectionVars false
/- What the evaluator asks of the types of this seat. -/
namespace Go.Proofs.YtmkpokcfefjifaaDoor
open Go.Ab
theorem ti1 : ti Tryd.prog 1 = some ⟨1, 8, false, [.oth .nilFunc], .func⟩ := by kernel_rfl
theorem ti2 : ti Tryd.prog 2 = some ⟨1, 8, false, [.int .i64 (0)], .int .i64⟩ := by kernel_rfl
theorem ti3 : ti Tryd.prog 3 = some ⟨1, 8, false, [.int .i64 (0)], .int .i64⟩ := by kernel_rfl
theorem ti4 : ti Tryd.prog 4 = some ⟨1, 1, false, [.bool false], .bool⟩ := by kernel_rfl
theorem isb4 : isB Tryd.prog 4 = True := eq_true ⟨_, _, _, _, ti4⟩
theorem ti5 : ti Tryd.prog 5 = some ⟨1, 1, false, [.int .u8 (0)], .int .u8⟩ := by kernel_rfl
theorem ti6 : ti Tryd.prog 6 = some ⟨1, 1, false, [.int .u8 (0)], .int .u8⟩ := by kernel_rfl
theorem ti7 : ti Tryd.prog 7 = some ⟨4, 24, true, [.int .i64 (0), .int .i64 (0), .bool false, .int .u8 (0)], .struct [(0, 2), (1, 3), (2, 4), (3, 6)]⟩ := by kernel_rfl
theorem ti8 : ti Tryd.prog 8 = some ⟨4, 24, true, [.int .i64 (0), .int .i64 (0), .bool false, .int .u8 (0)], .struct [(0, 2), (1, 3), (2, 4), (3, 6)]⟩ := by kernel_rfl
theorem ti9 : ti Tryd.prog 9 = some ⟨1, 16, false, [.str ByteArray.empty], .str⟩ := by kernel_rfl
theorem ti10 : ti Tryd.prog 10 = some ⟨1, 16, false, [.str ByteArray.empty], .str⟩ := by kernel_rfl
theorem ti11 : ti Tryd.prog 11 = some ⟨1, 16, false, [.str ByteArray.empty], .str⟩ := by kernel_rfl
theorem ti12 : ti Tryd.prog 12 = some ⟨1, 8, false, [.int .u64 (0)], .int .u64⟩ := by kernel_rfl
theorem ti13 : ti Tryd.prog 13 = some ⟨2, 24, true, [.str ByteArray.empty, .int .u64 (0)], .struct [(0, 9), (1, 12)]⟩ := by kernel_rfl
theorem ti14 : ti Tryd.prog 14 = some ⟨2, 24, true, [.str ByteArray.empty, .int .u64 (0)], .struct [(0, 9), (1, 12)]⟩ := by kernel_rfl
theorem ti15 : ti Tryd.prog 15 = some ⟨1, 8, false, [.oth (.pointer none)], .ptr 117⟩ := by kernel_rfl
theorem ti16 : ti Tryd.prog 16 = some ⟨1, 8, false, [.oth (.pointer none)], .ptr 120⟩ := by kernel_rfl
theorem ti17 : ti Tryd.prog 17 = some ⟨1, 8, false, [.oth (.pointer none)], .ptr 128⟩ := by kernel_rfl
theorem ti18 : ti Tryd.prog 18 = some ⟨1, 8, true, [.oth (.pointer none)], .struct [(0, 17)]⟩ := by kernel_rfl
theorem ti19 : ti Tryd.prog 19 = some ⟨1, 8, true, [.oth (.pointer none)], .struct [(0, 17)]⟩ := by kernel_rfl
theorem ti21 : ti Tryd.prog 21 = some ⟨1, 4, false, [.int .i32 (0)], .int .i32⟩ := by kernel_rfl
theorem ti22 : ti Tryd.prog 22 = some ⟨1, 24, false, [.nil], .slice 3⟩ := by kernel_rfl
theorem ti23 : ti Tryd.prog 23 = some ⟨1, 24, false, [.nil], .slice 76⟩ := by kernel_rfl
theorem ti24 : ti Tryd.prog 24 = some ⟨10, 160, true, [.int .i64 (0), .nil, .int .i64 (0), .int .i64 (0), .int .i64 (0), .nil, .int .i64 (0), .nil, .nil, .nil], .struct [(0, 3), (1, 22), (2, 3), (3, 3), (4, 3), (5, 23), (6, 3), (7, 22), (8, 22), (9, 22)]⟩ := by kernel_rfl
theorem ti25 : ti Tryd.prog 25 = some ⟨10, 160, true, [.int .i64 (0), .nil, .int .i64 (0), .int .i64 (0), .int .i64 (0), .nil, .int .i64 (0), .nil, .nil, .nil], .struct [(0, 3), (1, 22), (2, 3), (3, 3), (4, 3), (5, 23), (6, 3), (7, 22), (8, 22), (9, 22)]⟩ := by kernel_rfl
theorem ti26 : ti Tryd.prog 26 = some ⟨1, 24, false, [.nil], .slice 5⟩ := by kernel_rfl
theorem ti27 : ti Tryd.prog 27 = some ⟨5, 72, true, [.int .i64 (0), .int .i64 (0), .int .i64 (0), .nil, .nil], .struct [(0, 3), (1, 3), (2, 3), (3, 22), (4, 26)]⟩ := by kernel_rfl
theorem ti28 : ti Tryd.prog 28 = some ⟨5, 72, true, [.int .i64 (0), .int .i64 (0), .int .i64 (0), .nil, .nil], .struct [(0, 3), (1, 3), (2, 3), (3, 22), (4, 26)]⟩ := by kernel_rfl
theorem ti29 : ti Tryd.prog 29 = some ⟨1, 8, false, [.oth .nilFunc], .func⟩ := by kernel_rfl
theorem ti30 : ti Tryd.prog 30 = some ⟨1, 8, false, [.oth .nilFunc], .func⟩ := by kernel_rfl
theorem ti31 : ti Tryd.prog 31 = some ⟨1, 8, false, [.oth .nilFunc], .func⟩ := by kernel_rfl
theorem ti32 : ti Tryd.prog 32 = some ⟨1, 24, false, [.nil], .slice 28⟩ := by kernel_rfl
theorem ti34 : ti Tryd.prog 34 = some ⟨1, 8, false, [.oth .nilFunc], .func⟩ := by kernel_rfl
theorem ti35 : ti Tryd.prog 35 = some ⟨1, 8, false, [.oth .nilFunc], .func⟩ := by kernel_rfl
theorem ti36 : ti Tryd.prog 36 = some ⟨1, 8, false, [.oth .nilFunc], .func⟩ := by kernel_rfl
theorem ti37 : ti Tryd.prog 37 = some ⟨1, 8, false, [.oth .nilFunc], .func⟩ := by kernel_rfl
theorem ti38 : ti Tryd.prog 38 = some ⟨1, 8, false, [.oth .nilFunc], .func⟩ := by kernel_rfl
theorem ti39 : ti Tryd.prog 39 = some ⟨1, 8, false, [.oth .nilFunc], .func⟩ := by kernel_rfl
theorem ti40 : ti Tryd.prog 40 = some ⟨1, 8, false, [.oth .nilFunc], .func⟩ := by kernel_rfl
theorem ti41 : ti Tryd.prog 41 = some ⟨1, 24, false, [.nil], .slice 45⟩ := by kernel_rfl
theorem ti42 : ti Tryd.prog 42 = some ⟨1, 8, false, [.oth .nilFunc], .func⟩ := by kernel_rfl
theorem ti43 : ti Tryd.prog 43 = some ⟨1, 8, false, [.oth .nilFunc], .func⟩ := by kernel_rfl
theorem ti44 : ti Tryd.prog 44 = some ⟨6, 80, true, [.int .i64 (0), .int .i64 (0), .int .i64 (0), .int .i64 (0), .nil, .nil], .struct [(0, 3), (1, 28)]⟩ := by kernel_rfl
theorem ti45 : ti Tryd.prog 45 = some ⟨6, 80, true, [.int .i64 (0), .int .i64 (0), .int .i64 (0), .int .i64 (0), .nil, .nil], .struct [(0, 3), (1, 28)]⟩ := by kernel_rfl
theorem ti46 : ti Tryd.prog 46 = some ⟨1, 8, false, [.oth .nilFunc], .func⟩ := by kernel_rfl
theorem ti47 : ti Tryd.prog 47 = some ⟨1, 8, false, [.oth .nilFunc], .func⟩ := by kernel_rfl
theorem ti48 : ti Tryd.prog 48 = some ⟨1, 8, false, [.oth .nilFunc], .func⟩ := by kernel_rfl
theorem ti49 : ti Tryd.prog 49 = some ⟨1, 8, false, [.oth .nilFunc], .func⟩ := by kernel_rfl
theorem ti51 : ti Tryd.prog 51 = some ⟨1, 8, false, [.oth .nilFunc], .func⟩ := by kernel_rfl
theorem ti52 : ti Tryd.prog 52 = some ⟨1, 8, false, [.oth .nilFunc], .func⟩ := by kernel_rfl
theorem ti53 : ti Tryd.prog 53 = some ⟨1, 8, false, [.oth .nilFunc], .func⟩ := by kernel_rfl
theorem ti54 : ti Tryd.prog 54 = some ⟨1, 8, false, [.oth .nilFunc], .func⟩ := by kernel_rfl
theorem ti55 : ti Tryd.prog 55 = some ⟨1, 8, false, [.oth .nilFunc], .func⟩ := by kernel_rfl
theorem ti56 : ti Tryd.prog 56 = some ⟨1, 8, false, [.oth .nilFunc], .func⟩ := by kernel_rfl
theorem ti57 : ti Tryd.prog 57 = some ⟨1, 8, false, [.oth .nilFunc], .func⟩ := by kernel_rfl
theorem ti58 : ti Tryd.prog 58 = some ⟨1, 8, false, [.oth .nilFunc], .func⟩ := by kernel_rfl
theorem ti59 : ti Tryd.prog 59 = some ⟨1, 8, false, [.oth (.pointer none)], .ptr 61⟩ := by kernel_rfl
theorem ti60 : ti Tryd.prog 60 = some ⟨11, 184, true, [.int .i64 (0), .nil, .int .i64 (0), .int .i64 (0), .int .i64 (0), .nil, .int .i64 (0), .nil, .nil, .nil, .nil], .struct [(0, 25), (10, 32)]⟩ := by kernel_rfl
theorem ti61 : ti Tryd.prog 61 = some ⟨11, 184, true, [.int .i64 (0), .nil, .int .i64 (0), .int .i64 (0), .int .i64 (0), .nil, .int .i64 (0), .nil, .nil, .nil, .nil], .struct [(0, 25), (10, 32)]⟩ := by kernel_rfl
theorem ti62 : ti Tryd.prog 62 = some ⟨1, 8, false, [.oth .nilFunc], .func⟩ := by kernel_rfl
theorem ti63 : ti Tryd.prog 63 = some ⟨1, 8, false, [.oth .nilFunc], .func⟩ := by kernel_rfl
theorem ti64 : ti Tryd.prog 64 = some ⟨1, 8, false, [.oth .nilFunc], .func⟩ := by kernel_rfl
theorem ti66 : ti Tryd.prog 66 = some ⟨1, 8, false, [.oth .nilFunc], .func⟩ := by kernel_rfl
theorem ti67 : ti Tryd.prog 67 = some ⟨1, 8, false, [.oth .nilFunc], .func⟩ := by kernel_rfl
theorem ti68 : ti Tryd.prog 68 = some ⟨1, 8, false, [.oth .nilFunc], .func⟩ := by kernel_rfl
theorem ti69 : ti Tryd.prog 69 = some ⟨1, 8, false, [.oth .nilFunc], .func⟩ := by kernel_rfl
theorem ti70 : ti Tryd.prog 70 = some ⟨1, 8, false, [.oth .nilFunc], .func⟩ := by kernel_rfl
theorem ti71 : ti Tryd.prog 71 = some ⟨1, 8, false, [.oth .nilFunc], .func⟩ := by kernel_rfl
theorem ti73 : ti Tryd.prog 73 = some ⟨1, 8, false, [.oth .nilFunc], .func⟩ := by kernel_rfl
theorem ti74 : ti Tryd.prog 74 = some ⟨1, 8, false, [.oth .nilFunc], .func⟩ := by kernel_rfl
theorem ti75 : ti Tryd.prog 75 = some ⟨2, 32, true, [.int .i64 (0), .nil], .struct [(0, 3), (1, 26)]⟩ := by kernel_rfl
theorem ti76 : ti Tryd.prog 76 = some ⟨2, 32, true, [.int .i64 (0), .nil], .struct [(0, 3), (1, 26)]⟩ := by kernel_rfl
theorem ti77 : ti Tryd.prog 77 = some ⟨1, 8, false, [.oth .nilFunc], .func⟩ := by kernel_rfl
theorem ti78 : ti Tryd.prog 78 = some ⟨1, 8, false, [.oth .nilFunc], .func⟩ := by kernel_rfl
theorem ti79 : ti Tryd.prog 79 = some ⟨1, 8, false, [.oth .nilFunc], .func⟩ := by kernel_rfl
theorem ti83 : ti Tryd.prog 83 = some ⟨1, 8, false, [.oth .nilFunc], .func⟩ := by kernel_rfl
theorem ti84 : ti Tryd.prog 84 = some ⟨1, 8, false, [.oth .nilFunc], .func⟩ := by kernel_rfl
theorem ti85 : ti Tryd.prog 85 = some ⟨1, 8, false, [.oth .nilFunc], .func⟩ := by kernel_rfl
theorem ti86 : ti Tryd.prog 86 = some ⟨1, 8, false, [.oth .nilFunc], .func⟩ := by kernel_rfl
theorem ti87 : ti Tryd.prog 87 = some ⟨1, 8, false, [.int .u64 (0)], .int .u64⟩ := by kernel_rfl
theorem ti88 : ti Tryd.prog 88 = some ⟨1, 8, false, [.oth .nilFunc], .func⟩ := by kernel_rfl
theorem ti89 : ti Tryd.prog 89 = some ⟨1, 8, false, [.oth .nilFunc], .func⟩ := by kernel_rfl
theorem ti90 : ti Tryd.prog 90 = some ⟨1, 24, false, [.nil], .slice 29⟩ := by kernel_rfl
theorem ti91 : ti Tryd.prog 91 = some ⟨1, 8, false, [.oth .nilFunc], .func⟩ := by kernel_rfl
theorem ti92 : ti Tryd.prog 92 = some ⟨1, 8, false, [.oth .nilFunc], .func⟩ := by kernel_rfl
theorem ti93 : ti Tryd.prog 93 = some ⟨1, 8, false, [.int .i64 (0)], .int .i64⟩ := by kernel_rfl
theorem ti95 : ti Tryd.prog 95 = some ⟨1, 8, false, [.oth .nilFunc], .func⟩ := by kernel_rfl
theorem ti96 : ti Tryd.prog 96 = some ⟨1, 8, false, [.oth .nilFunc], .func⟩ := by kernel_rfl
theorem ti97 : ti Tryd.prog 97 = some ⟨1, 8, false, [.oth .nilFunc], .func⟩ := by kernel_rfl
theorem ti98 : ti Tryd.prog 98 = some ⟨1, 8, false, [.oth .nilFunc], .func⟩ := by kernel_rfl
theorem ti99 : ti Tryd.prog 99 = some ⟨1, 8, false, [.oth .nilFunc], .func⟩ := by kernel_rfl
theorem ti100 : ti Tryd.prog 100 = some ⟨1, 8, false, [.oth .nilFunc], .func⟩ := by kernel_rfl
theorem ti101 : ti Tryd.prog 101 = some ⟨1, 4, false, [.int .u32 (0)], .int .u32⟩ := by kernel_rfl
theorem ti102 : ti Tryd.prog 102 = some ⟨1, 8, false, [.oth .nilFunc], .func⟩ := by kernel_rfl
theorem ti103 : ti Tryd.prog 103 = some ⟨1, 8, false, [.int .u64 (0)], .int .u64⟩ := by kernel_rfl
theorem ti104 : ti Tryd.prog 104 = some ⟨1, 8, false, [.oth .nilFunc], .func⟩ := by kernel_rfl
theorem ti105 : ti Tryd.prog 105 = some ⟨1, 8, false, [.oth .nilFunc], .func⟩ := by kernel_rfl
theorem ti106 : ti Tryd.prog 106 = some ⟨1, 8, false, [.int .u64 (0)], .int .u64⟩ := by kernel_rfl
theorem ti107 : ti Tryd.prog 107 = some ⟨1, 8, false, [.oth .nilFunc], .func⟩ := by kernel_rfl
theorem ti108 : ti Tryd.prog 108 = some ⟨1, 8, false, [.oth .nilFunc], .func⟩ := by kernel_rfl
theorem ti109 : ti Tryd.prog 109 = some ⟨1, 8, false, [.oth .nilFunc], .func⟩ := by kernel_rfl
theorem ti110 : ti Tryd.prog 110 = some ⟨1, 8, false, [.oth (.pointer none)], .ptr 3⟩ := by kernel_rfl
theorem ti111 : ti Tryd.prog 111 = some ⟨1, 8, false, [.oth .nilFunc], .func⟩ := by kernel_rfl
theorem ti112 : ti Tryd.prog 112 = some ⟨1, 8, false, [.oth (.pointer none)], .ptr 106⟩ := by kernel_rfl
theorem ti114 : ti Tryd.prog 114 = some ⟨1, 8, false, [.oth .nilFunc], .func⟩ := by kernel_rfl
theorem ti115 : ti Tryd.prog 115 = some ⟨1, 8, false, [.oth .nilFunc], .func⟩ := by kernel_rfl
theorem ti116 : ti Tryd.prog 116 = some ⟨4, 40, true, [.oth (.pointer none), .oth (.pointer none), .oth (.pointer none), .str ByteArray.empty], .struct [(0, 17), (1, 17), (2, 17), (3, 9)]⟩ := by kernel_rfl
theorem ti117 : ti Tryd.prog 117 = some ⟨4, 40, true, [.oth (.pointer none), .oth (.pointer none), .oth (.pointer none), .str ByteArray.empty], .struct [(0, 17), (1, 17), (2, 17), (3, 9)]⟩ := by kernel_rfl
theorem ti118 : ti Tryd.prog 118 = some ⟨0, 0, true, [], .array 0 16⟩ := by kernel_rfl
theorem ti119 : ti Tryd.prog 119 = some ⟨0, 0, true, [], .struct [(0, 118)]⟩ := by kernel_rfl
theorem ti120 : ti Tryd.prog 120 = some ⟨0, 0, true, [], .struct [(0, 118)]⟩ := by kernel_rfl
theorem ti121 : ti Tryd.prog 121 = some ⟨1, 1, false, [.int .u8 (0)], .int .u8⟩ := by kernel_rfl
theorem ti122 : ti Tryd.prog 122 = some ⟨1, 1, false, [.int .u8 (0)], .int .u8⟩ := by kernel_rfl
theorem ti123 : ti Tryd.prog 123 = some ⟨1, 8, false, [.oth .nilFunc], .func⟩ := by kernel_rfl
theorem ti124 : ti Tryd.prog 124 = some ⟨1, 8, false, [.oth (.pointer none)], .ptr 5⟩ := by kernel_rfl
theorem ti125 : ti Tryd.prog 125 = some ⟨1, 4, false, [.int .i32 (0)], .int .i32⟩ := by kernel_rfl
theorem ti126 : ti Tryd.prog 126 = some ⟨1, 4, false, [.int .i32 (0)], .int .i32⟩ := by kernel_rfl
theorem ti127 : ti Tryd.prog 127 = some ⟨11, 48, true, [.int .u64 (0), .int .u64 (0), .int .u32 (0), .int .u8 (0), .int .u8 (0), .int .u8 (0), .int .u8 (0), .oth .nilFunc, .oth (.pointer none), .int .i32 (0), .int .i32 (0)], .struct [(0, 12), (1, 12), (2, 101), (3, 121), (4, 5), (5, 5), (6, 122), (7, 123), (8, 124), (9, 125), (10, 126)]⟩ := by kernel_rfl
theorem ti128 : ti Tryd.prog 128 = some ⟨11, 48, true, [.int .u64 (0), .int .u64 (0), .int .u32 (0), .int .u8 (0), .int .u8 (0), .int .u8 (0), .int .u8 (0), .oth .nilFunc, .oth (.pointer none), .int .i32 (0), .int .i32 (0)], .struct [(0, 12), (1, 12), (2, 101), (3, 121), (4, 5), (5, 5), (6, 122), (7, 123), (8, 124), (9, 125), (10, 126)]⟩ := by kernel_rfl
theorem ti65 : ti Tryd.prog 65 = some ⟨1, 8, false, [.oth (.map none)], .oth⟩ := by kernel_rfl
theorem ti81 : ti Tryd.prog 81 = some ⟨1, 8, false, [.oth (.map none)], .oth⟩ := by kernel_rfl
theorem TIS : (type_of% @ti65) ∧ (type_of% @ti81) ∧ (((((((type_of% @ti1) ∧ ((type_of% @ti2) ∧ (type_of% @ti3))) ∧ (((type_of% @ti4) ∧ (type_of% @ti5)) ∧ ((type_of% @ti6) ∧ (type_of% @ti7)))) ∧ (((type_of% @ti8) ∧ ((type_of% @ti9) ∧ (type_of% @ti10))) ∧ (((type_of% @ti11) ∧ (type_of% @ti12)) ∧ ((type_of% @ti13) ∧ (type_of% @ti14))))) ∧ ((((type_of% @ti15) ∧ ((type_of% @ti16) ∧ (type_of% @ti17))) ∧ (((type_of% @ti18) ∧ (type_of% @ti19)) ∧ ((type_of% @ti21) ∧ (type_of% @ti22)))) ∧ ((((type_of% @ti23) ∧ (type_of% @ti24)) ∧ ((type_of% @ti25) ∧ (type_of% @ti26))) ∧ (((type_of% @ti27) ∧ (type_of% @ti28)) ∧ ((type_of% @ti29) ∧ (type_of% @ti30)))))) ∧ (((((type_of% @ti31) ∧ ((type_of% @ti32) ∧ (type_of% @ti34))) ∧ (((type_of% @ti35) ∧ (type_of% @ti36)) ∧ ((type_of% @ti37) ∧ (type_of% @ti38)))) ∧ ((((type_of% @ti39) ∧ (type_of% @ti40)) ∧ ((type_of% @ti41) ∧ (type_of% @ti42))) ∧ (((type_of% @ti43) ∧ (type_of% @ti44)) ∧ ((type_of% @ti45) ∧ (type_of% @ti46))))) ∧ ((((type_of% @ti47) ∧ ((type_of% @ti48) ∧ (type_of% @ti49))) ∧ (((type_of% @ti51) ∧ (type_of% @ti52)) ∧ ((type_of% @ti53) ∧ (type_of% @ti54)))) ∧ ((((type_of% @ti55) ∧ (type_of% @ti56)) ∧ ((type_of% @ti57) ∧ (type_of% @ti58))) ∧ (((type_of% @ti59) ∧ (type_of% @ti60)) ∧ ((type_of% @ti61) ∧ (type_of% @ti62))))))) ∧ ((((((type_of% @ti63) ∧ ((type_of% @ti64) ∧ (type_of% @ti66))) ∧ (((type_of% @ti67) ∧ (type_of% @ti68)) ∧ ((type_of% @ti69) ∧ (type_of% @ti70)))) ∧ ((((type_of% @ti71) ∧ (type_of% @ti73)) ∧ ((type_of% @ti74) ∧ (type_of% @ti75))) ∧ (((type_of% @ti76) ∧ (type_of% @ti77)) ∧ ((type_of% @ti78) ∧ (type_of% @ti79))))) ∧ ((((type_of% @ti83) ∧ ((type_of% @ti84) ∧ (type_of% @ti85))) ∧ (((type_of% @ti86) ∧ (type_of% @ti87)) ∧ ((type_of% @ti88) ∧ (type_of% @ti89)))) ∧ ((((type_of% @ti90) ∧ (type_of% @ti91)) ∧ ((type_of% @ti92) ∧ (type_of% @ti93))) ∧ (((type_of% @ti95) ∧ (type_of% @ti96)) ∧ ((type_of% @ti97) ∧ (type_of% @ti98)))))) ∧ (((((type_of% @ti99) ∧ ((type_of% @ti100) ∧ (type_of% @ti101))) ∧ (((type_of% @ti102) ∧ (type_of% @ti103)) ∧ ((type_of% @ti104) ∧ (type_of% @ti105)))) ∧ ((((type_of% @ti106) ∧ (type_of% @ti107)) ∧ ((type_of% @ti108) ∧ (type_of% @ti109))) ∧ (((type_of% @ti110) ∧ (type_of% @ti111)) ∧ ((type_of% @ti112) ∧ (type_of% @ti114))))) ∧ ((((type_of% @ti115) ∧ ((type_of% @ti116) ∧ (type_of% @ti117))) ∧ (((type_of% @ti118) ∧ (type_of% @ti119)) ∧ ((type_of% @ti120) ∧ (type_of% @ti121)))) ∧ ((((type_of% @ti122) ∧ (type_of% @ti123)) ∧ ((type_of% @ti124) ∧ (type_of% @ti125))) ∧ (((type_of% @ti126) ∧ (type_of% @ti127)) ∧ ((type_of% @ti128) ∧ (type_of% @isb4)))))))) := ⟨ti65, ti81, ⟨⟨⟨⟨⟨⟨@ti1, ⟨@ti2, @ti3⟩⟩, ⟨⟨@ti4, @ti5⟩, ⟨@ti6, @ti7⟩⟩⟩, ⟨⟨@ti8, ⟨@ti9, @ti10⟩⟩, ⟨⟨@ti11, @ti12⟩, ⟨@ti13, @ti14⟩⟩⟩⟩, ⟨⟨⟨@ti15, ⟨@ti16, @ti17⟩⟩, ⟨⟨@ti18, @ti19⟩, ⟨@ti21, @ti22⟩⟩⟩, ⟨⟨⟨@ti23, @ti24⟩, ⟨@ti25, @ti26⟩⟩, ⟨⟨@ti27, @ti28⟩, ⟨@ti29, @ti30⟩⟩⟩⟩⟩, ⟨⟨⟨⟨@ti31, ⟨@ti32, @ti34⟩⟩, ⟨⟨@ti35, @ti36⟩, ⟨@ti37, @ti38⟩⟩⟩, ⟨⟨⟨@ti39, @ti40⟩, ⟨@ti41, @ti42⟩⟩, ⟨⟨@ti43, @ti44⟩, ⟨@ti45, @ti46⟩⟩⟩⟩, ⟨⟨⟨@ti47, ⟨@ti48, @ti49⟩⟩, ⟨⟨@ti51, @ti52⟩, ⟨@ti53, @ti54⟩⟩⟩, ⟨⟨⟨@ti55, @ti56⟩, ⟨@ti57, @ti58⟩⟩, ⟨⟨@ti59, @ti60⟩, ⟨@ti61, @ti62⟩⟩⟩⟩⟩⟩, ⟨⟨⟨⟨⟨@ti63, ⟨@ti64, @ti66⟩⟩, ⟨⟨@ti67, @ti68⟩, ⟨@ti69, @ti70⟩⟩⟩, ⟨⟨⟨@ti71, @ti73⟩, ⟨@ti74, @ti75⟩⟩, ⟨⟨@ti76, @ti77⟩, ⟨@ti78, @ti79⟩⟩⟩⟩, ⟨⟨⟨@ti83, ⟨@ti84, @ti85⟩⟩, ⟨⟨@ti86, @ti87⟩, ⟨@ti88, @ti89⟩⟩⟩, ⟨⟨⟨@ti90, @ti91⟩, ⟨@ti92, @ti93⟩⟩, ⟨⟨@ti95, @ti96⟩, ⟨@ti97, @ti98⟩⟩⟩⟩⟩, ⟨⟨⟨⟨@ti99, ⟨@ti100, @ti101⟩⟩, ⟨⟨@ti102, @ti103⟩, ⟨@ti104, @ti105⟩⟩⟩, ⟨⟨⟨@ti106, @ti107⟩, ⟨@ti108, @ti109⟩⟩, ⟨⟨@ti110, @ti111⟩, ⟨@ti112, @ti114⟩⟩⟩⟩, ⟨⟨⟨@ti115, ⟨@ti116, @ti117⟩⟩, ⟨⟨@ti118, @ti119⟩, ⟨@ti120, @ti121⟩⟩⟩, ⟨⟨⟨@ti122, @ti123⟩, ⟨@ti124, @ti125⟩⟩, ⟨⟨@ti126, @ti127⟩, ⟨@ti128, @isb4⟩⟩⟩⟩⟩⟩⟩⟩
end Go.Proofs.YtmkpokcfefjifaaDoor

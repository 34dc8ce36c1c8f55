import Derived.Test.YtjflkcfafijhfaaGreatProg
import Derived.Test.YtjflkcfafijhfaaGreatQ03
set_option linter.unusedSectionVars false
/- What the evaluator asks of the types of this seat. -/
namespace Go.Proofs.YtjflkcfafijhfaaGreat
open Go.Ab
theorem ti1 : ti Tryz.prog 1 = some ⟨1, 8, false, [.oth .nilFunc], .func⟩ := by kernel_rfl
theorem ti2 : ti Tryz.prog 2 = some ⟨1, 8, false, [.int .i64 (0)], .int .i64⟩ := by kernel_rfl
theorem ti3 : ti Tryz.prog 3 = some ⟨1, 8, false, [.int .i64 (0)], .int .i64⟩ := by kernel_rfl
theorem ti4 : ti Tryz.prog 4 = some ⟨1, 1, false, [.bool false], .bool⟩ := by kernel_rfl
theorem isb4 : isB Tryz.prog 4 = True := eq_true ⟨_, _, _, _, ti4⟩
theorem ti5 : ti Tryz.prog 5 = some ⟨1, 1, false, [.int .u8 (0)], .int .u8⟩ := by kernel_rfl
theorem ti6 : ti Tryz.prog 6 = some ⟨1, 1, false, [.int .u8 (0)], .int .u8⟩ := by kernel_rfl
theorem ti7 : ti Tryz.prog 7 = some ⟨4, 24, true, [.int .i64 (0), .int .i64 (0), .bool false, .int .u8 (0)], .struct [(0, 2), (1, 3), (2, 4), (3, 6)]⟩ := by kernel_rfl
theorem ti8 : ti Tryz.prog 8 = some ⟨4, 24, true, [.int .i64 (0), .int .i64 (0), .bool false, .int .u8 (0)], .struct [(0, 2), (1, 3), (2, 4), (3, 6)]⟩ := by kernel_rfl
theorem ti9 : ti Tryz.prog 9 = some ⟨1, 16, false, [.str ByteArray.empty], .str⟩ := by kernel_rfl
theorem ti10 : ti Tryz.prog 10 = some ⟨1, 16, false, [.str ByteArray.empty], .str⟩ := by kernel_rfl
theorem ti11 : ti Tryz.prog 11 = some ⟨1, 16, false, [.str ByteArray.empty], .str⟩ := by kernel_rfl
theorem ti12 : ti Tryz.prog 12 = some ⟨1, 8, false, [.int .u64 (0)], .int .u64⟩ := by kernel_rfl
theorem ti13 : ti Tryz.prog 13 = some ⟨2, 24, true, [.str ByteArray.empty, .int .u64 (0)], .struct [(0, 9), (1, 12)]⟩ := by kernel_rfl
theorem ti14 : ti Tryz.prog 14 = some ⟨2, 24, true, [.str ByteArray.empty, .int .u64 (0)], .struct [(0, 9), (1, 12)]⟩ := by kernel_rfl
theorem ti15 : ti Tryz.prog 15 = some ⟨1, 8, false, [.oth (.pointer none)], .ptr 256⟩ := by kernel_rfl
theorem ti16 : ti Tryz.prog 16 = some ⟨1, 8, false, [.oth (.pointer none)], .ptr 259⟩ := by kernel_rfl
theorem ti17 : ti Tryz.prog 17 = some ⟨1, 8, false, [.oth (.pointer none)], .ptr 267⟩ := by kernel_rfl
theorem ti18 : ti Tryz.prog 18 = some ⟨1, 8, true, [.oth (.pointer none)], .struct [(0, 17)]⟩ := by kernel_rfl
theorem ti19 : ti Tryz.prog 19 = some ⟨1, 8, true, [.oth (.pointer none)], .struct [(0, 17)]⟩ := by kernel_rfl
theorem ti21 : ti Tryz.prog 21 = some ⟨1, 4, false, [.int .i32 (0)], .int .i32⟩ := by kernel_rfl
theorem ti22 : ti Tryz.prog 22 = some ⟨1, 24, false, [.nil], .slice 5⟩ := by kernel_rfl
theorem ti23 : ti Tryz.prog 23 = some ⟨1, 8, false, [.oth .nilFunc], .func⟩ := by kernel_rfl
theorem ti24 : ti Tryz.prog 24 = some ⟨1, 24, false, [.nil], .slice 44⟩ := by kernel_rfl
theorem ti25 : ti Tryz.prog 25 = some ⟨1, 24, false, [.nil], .slice 30⟩ := by kernel_rfl
theorem ti27 : ti Tryz.prog 27 = some ⟨1, 8, false, [.oth .nilFunc], .func⟩ := by kernel_rfl
theorem ti28 : ti Tryz.prog 28 = some ⟨1, 24, false, [.nil], .slice 3⟩ := by kernel_rfl
theorem ti29 : ti Tryz.prog 29 = some ⟨3, 40, true, [.int .i64 (0), .int .i64 (0), .nil], .struct [(0, 3), (1, 3), (2, 28)]⟩ := by kernel_rfl
theorem ti30 : ti Tryz.prog 30 = some ⟨3, 40, true, [.int .i64 (0), .int .i64 (0), .nil], .struct [(0, 3), (1, 3), (2, 28)]⟩ := by kernel_rfl
theorem ti32 : ti Tryz.prog 32 = some ⟨1, 8, false, [.oth .nilFunc], .func⟩ := by kernel_rfl
theorem ti33 : ti Tryz.prog 33 = some ⟨1, 8, false, [.int .i64 (0)], .int .i64⟩ := by kernel_rfl
theorem ti35 : ti Tryz.prog 35 = some ⟨1, 8, false, [.oth .nilFunc], .func⟩ := by kernel_rfl
theorem ti36 : ti Tryz.prog 36 = some ⟨1, 24, false, [.nil], .slice 47⟩ := by kernel_rfl
theorem ti37 : ti Tryz.prog 37 = some ⟨1, 8, false, [.oth .nilFunc], .func⟩ := by kernel_rfl
theorem ti38 : ti Tryz.prog 38 = some ⟨4, 64, true, [.int .i64 (0), .int .i64 (0), .nil, .nil], .struct [(0, 3), (1, 3), (2, 22), (3, 28)]⟩ := by kernel_rfl
theorem ti39 : ti Tryz.prog 39 = some ⟨4, 64, true, [.int .i64 (0), .int .i64 (0), .nil, .nil], .struct [(0, 3), (1, 3), (2, 22), (3, 28)]⟩ := by kernel_rfl
theorem ti41 : ti Tryz.prog 41 = some ⟨1, 8, false, [.oth .nilFunc], .func⟩ := by kernel_rfl
theorem ti42 : ti Tryz.prog 42 = some ⟨1, 24, false, [.nil], .slice 130⟩ := by kernel_rfl
theorem ti43 : ti Tryz.prog 43 = some ⟨3, 56, true, [.nil, .nil, .bool false], .struct [(0, 42), (1, 42), (2, 4)]⟩ := by kernel_rfl
theorem ti44 : ti Tryz.prog 44 = some ⟨3, 56, true, [.nil, .nil, .bool false], .struct [(0, 42), (1, 42), (2, 4)]⟩ := by kernel_rfl
theorem ti45 : ti Tryz.prog 45 = some ⟨1, 8, false, [.oth .nilFunc], .func⟩ := by kernel_rfl
theorem ti46 : ti Tryz.prog 46 = some ⟨3, 24, true, [.int .i64 (0), .int .i64 (0), .int .i64 (0)], .struct [(0, 3), (1, 3), (2, 3)]⟩ := by kernel_rfl
theorem ti47 : ti Tryz.prog 47 = some ⟨3, 24, true, [.int .i64 (0), .int .i64 (0), .int .i64 (0)], .struct [(0, 3), (1, 3), (2, 3)]⟩ := by kernel_rfl
theorem ti49 : ti Tryz.prog 49 = some ⟨1, 8, false, [.oth .nilFunc], .func⟩ := by kernel_rfl
theorem ti50 : ti Tryz.prog 50 = some ⟨1, 8, false, [.oth .nilFunc], .func⟩ := by kernel_rfl
theorem ti52 : ti Tryz.prog 52 = some ⟨1, 8, false, [.oth .nilFunc], .func⟩ := by kernel_rfl
theorem ti53 : ti Tryz.prog 53 = some ⟨1, 8, false, [.oth .nilFunc], .func⟩ := by kernel_rfl
theorem ti54 : ti Tryz.prog 54 = some ⟨1, 8, false, [.oth .nilFunc], .func⟩ := by kernel_rfl
theorem ti55 : ti Tryz.prog 55 = some ⟨1, 8, false, [.oth .nilFunc], .func⟩ := by kernel_rfl
theorem ti56 : ti Tryz.prog 56 = some ⟨1, 24, false, [.nil], .slice 60⟩ := by kernel_rfl
theorem ti57 : ti Tryz.prog 57 = some ⟨1, 8, false, [.oth .nilFunc], .func⟩ := by kernel_rfl
theorem ti58 : ti Tryz.prog 58 = some ⟨1, 2, false, [.int .u16 (0)], .int .u16⟩ := by kernel_rfl
theorem ti59 : ti Tryz.prog 59 = some ⟨4, 6, true, [.int .u8 (0), .int .u8 (0), .int .u8 (0), .int .u16 (0)], .struct [(0, 5), (1, 5), (2, 5), (3, 58)]⟩ := by kernel_rfl
theorem ti60 : ti Tryz.prog 60 = some ⟨4, 6, true, [.int .u8 (0), .int .u8 (0), .int .u8 (0), .int .u16 (0)], .struct [(0, 5), (1, 5), (2, 5), (3, 58)]⟩ := by kernel_rfl
theorem ti61 : ti Tryz.prog 61 = some ⟨1, 8, false, [.oth .nilFunc], .func⟩ := by kernel_rfl
theorem ti62 : ti Tryz.prog 62 = some ⟨1, 8, false, [.oth .nilFunc], .func⟩ := by kernel_rfl
theorem ti63 : ti Tryz.prog 63 = some ⟨1, 8, false, [.oth .nilFunc], .func⟩ := by kernel_rfl
theorem ti64 : ti Tryz.prog 64 = some ⟨1, 8, false, [.oth .nilFunc], .func⟩ := by kernel_rfl
theorem ti65 : ti Tryz.prog 65 = some ⟨1, 8, false, [.oth .nilFunc], .func⟩ := by kernel_rfl
theorem ti66 : ti Tryz.prog 66 = some ⟨1, 24, false, [.nil], .slice 71⟩ := by kernel_rfl
theorem ti68 : ti Tryz.prog 68 = some ⟨1, 8, false, [.oth .nilFunc], .func⟩ := by kernel_rfl
theorem ti69 : ti Tryz.prog 69 = some ⟨1, 8, false, [.oth .nilFunc], .func⟩ := by kernel_rfl
theorem ti70 : ti Tryz.prog 70 = some ⟨6, 48, true, [.int .i64 (0), .int .i64 (0), .int .i64 (0), .int .i64 (0), .int .i64 (0), .int .i64 (0)], .struct [(0, 3), (1, 3), (2, 3), (3, 3), (4, 3), (5, 3)]⟩ := by kernel_rfl
theorem ti71 : ti Tryz.prog 71 = some ⟨6, 48, true, [.int .i64 (0), .int .i64 (0), .int .i64 (0), .int .i64 (0), .int .i64 (0), .int .i64 (0)], .struct [(0, 3), (1, 3), (2, 3), (3, 3), (4, 3), (5, 3)]⟩ := by kernel_rfl
theorem ti72 : ti Tryz.prog 72 = some ⟨1, 8, false, [.oth .nilFunc], .func⟩ := by kernel_rfl
theorem ti73 : ti Tryz.prog 73 = some ⟨1, 8, false, [.oth .nilFunc], .func⟩ := by kernel_rfl
theorem ti74 : ti Tryz.prog 74 = some ⟨1, 8, false, [.oth .nilFunc], .func⟩ := by kernel_rfl
theorem ti75 : ti Tryz.prog 75 = some ⟨1, 8, false, [.oth .nilFunc], .func⟩ := by kernel_rfl
theorem ti77 : ti Tryz.prog 77 = some ⟨1, 8, false, [.oth .nilFunc], .func⟩ := by kernel_rfl
theorem ti78 : ti Tryz.prog 78 = some ⟨1, 8, false, [.oth .nilFunc], .func⟩ := by kernel_rfl
theorem ti79 : ti Tryz.prog 79 = some ⟨4, 32, true, [.int .i64 (0), .int .i64 (0), .int .i64 (0), .int .i64 (0)], .struct [(0, 3), (1, 3), (2, 3), (3, 3)]⟩ := by kernel_rfl
theorem ti80 : ti Tryz.prog 80 = some ⟨4, 32, true, [.int .i64 (0), .int .i64 (0), .int .i64 (0), .int .i64 (0)], .struct [(0, 3), (1, 3), (2, 3), (3, 3)]⟩ := by kernel_rfl
theorem ti81 : ti Tryz.prog 81 = some ⟨1, 24, false, [.nil], .slice 80⟩ := by kernel_rfl
theorem ti82 : ti Tryz.prog 82 = some ⟨1, 8, false, [.oth .nilFunc], .func⟩ := by kernel_rfl
theorem ti83 : ti Tryz.prog 83 = some ⟨1, 8, false, [.oth .nilFunc], .func⟩ := by kernel_rfl
theorem ti84 : ti Tryz.prog 84 = some ⟨1, 8, false, [.oth .nilFunc], .func⟩ := by kernel_rfl
theorem ti85 : ti Tryz.prog 85 = some ⟨1, 8, false, [.oth .nilFunc], .func⟩ := by kernel_rfl
theorem ti87 : ti Tryz.prog 87 = some ⟨1, 8, false, [.oth .nilFunc], .func⟩ := by kernel_rfl
theorem ti88 : ti Tryz.prog 88 = some ⟨1, 8, false, [.oth .nilFunc], .func⟩ := by kernel_rfl
theorem ti89 : ti Tryz.prog 89 = some ⟨1, 8, false, [.oth .nilFunc], .func⟩ := by kernel_rfl
theorem ti90 : ti Tryz.prog 90 = some ⟨1, 8, false, [.oth .nilFunc], .func⟩ := by kernel_rfl
theorem ti91 : ti Tryz.prog 91 = some ⟨1, 8, false, [.oth .nilFunc], .func⟩ := by kernel_rfl
theorem ti93 : ti Tryz.prog 93 = some ⟨1, 8, false, [.oth .nilFunc], .func⟩ := by kernel_rfl
theorem ti94 : ti Tryz.prog 94 = some ⟨1, 8, false, [.oth .nilFunc], .func⟩ := by kernel_rfl
theorem ti95 : ti Tryz.prog 95 = some ⟨1, 8, false, [.oth .nilFunc], .func⟩ := by kernel_rfl
theorem ti96 : ti Tryz.prog 96 = some ⟨1, 8, false, [.oth .nilFunc], .func⟩ := by kernel_rfl
theorem ti97 : ti Tryz.prog 97 = some ⟨1, 8, false, [.oth (.pointer none)], .ptr 99⟩ := by kernel_rfl
theorem ti98 : ti Tryz.prog 98 = some ⟨2, 32, true, [.nil, .bool false], .struct [(0, 22), (1, 4)]⟩ := by kernel_rfl
theorem ti99 : ti Tryz.prog 99 = some ⟨2, 32, true, [.nil, .bool false], .struct [(0, 22), (1, 4)]⟩ := by kernel_rfl
theorem ti101 : ti Tryz.prog 101 = some ⟨1, 8, false, [.oth .nilFunc], .func⟩ := by kernel_rfl
theorem ti102 : ti Tryz.prog 102 = some ⟨1, 8, false, [.oth .nilFunc], .func⟩ := by kernel_rfl
theorem ti103 : ti Tryz.prog 103 = some ⟨1, 8, false, [.oth .nilFunc], .func⟩ := by kernel_rfl
theorem ti104 : ti Tryz.prog 104 = some ⟨1, 8, false, [.oth .nilFunc], .func⟩ := by kernel_rfl
theorem ti105 : ti Tryz.prog 105 = some ⟨1, 8, false, [.oth .nilFunc], .func⟩ := by kernel_rfl
theorem ti107 : ti Tryz.prog 107 = some ⟨1, 8, false, [.oth .nilFunc], .func⟩ := by kernel_rfl
theorem ti108 : ti Tryz.prog 108 = some ⟨1, 8, false, [.oth .nilFunc], .func⟩ := by kernel_rfl
theorem ti109 : ti Tryz.prog 109 = some ⟨1, 8, false, [.oth .nilFunc], .func⟩ := by kernel_rfl
theorem ti110 : ti Tryz.prog 110 = some ⟨1, 8, false, [.oth .nilFunc], .func⟩ := by kernel_rfl
theorem ti111 : ti Tryz.prog 111 = some ⟨1, 8, false, [.oth .nilFunc], .func⟩ := by kernel_rfl
theorem ti112 : ti Tryz.prog 112 = some ⟨1, 8, false, [.oth .nilFunc], .func⟩ := by kernel_rfl
theorem ti113 : ti Tryz.prog 113 = some ⟨1, 8, false, [.oth .nilFunc], .func⟩ := by kernel_rfl
theorem ti114 : ti Tryz.prog 114 = some ⟨1, 8, false, [.oth .nilFunc], .func⟩ := by kernel_rfl
theorem ti115 : ti Tryz.prog 115 = some ⟨1, 8, false, [.oth .nilFunc], .func⟩ := by kernel_rfl
theorem ti116 : ti Tryz.prog 116 = some ⟨1, 8, false, [.oth .nilFunc], .func⟩ := by kernel_rfl
theorem ti117 : ti Tryz.prog 117 = some ⟨1, 8, false, [.oth .nilFunc], .func⟩ := by kernel_rfl
theorem ti118 : ti Tryz.prog 118 = some ⟨1, 8, false, [.oth .nilFunc], .func⟩ := by kernel_rfl
theorem ti119 : ti Tryz.prog 119 = some ⟨1, 8, false, [.oth .nilFunc], .func⟩ := by kernel_rfl
theorem ti120 : ti Tryz.prog 120 = some ⟨1, 8, false, [.oth .nilFunc], .func⟩ := by kernel_rfl
theorem ti121 : ti Tryz.prog 121 = some ⟨1, 8, false, [.oth .nilFunc], .func⟩ := by kernel_rfl
theorem ti122 : ti Tryz.prog 122 = some ⟨1, 8, false, [.oth .nilFunc], .func⟩ := by kernel_rfl
theorem ti123 : ti Tryz.prog 123 = some ⟨1, 8, false, [.oth .nilFunc], .func⟩ := by kernel_rfl
theorem ti124 : ti Tryz.prog 124 = some ⟨1, 8, false, [.oth .nilFunc], .func⟩ := by kernel_rfl
theorem ti125 : ti Tryz.prog 125 = some ⟨1, 8, false, [.oth .nilFunc], .func⟩ := by kernel_rfl
theorem ti126 : ti Tryz.prog 126 = some ⟨1, 8, false, [.oth .nilFunc], .func⟩ := by kernel_rfl
theorem ti127 : ti Tryz.prog 127 = some ⟨1, 8, false, [.oth .nilFunc], .func⟩ := by kernel_rfl
theorem ti128 : ti Tryz.prog 128 = some ⟨1, 8, false, [.oth .nilFunc], .func⟩ := by kernel_rfl
theorem ti129 : ti Tryz.prog 129 = some ⟨2, 32, true, [.int .i64 (0), .nil], .struct [(0, 3), (1, 22)]⟩ := by kernel_rfl
theorem ti130 : ti Tryz.prog 130 = some ⟨2, 32, true, [.int .i64 (0), .nil], .struct [(0, 3), (1, 22)]⟩ := by kernel_rfl
theorem ti131 : ti Tryz.prog 131 = some ⟨1, 8, false, [.oth .nilFunc], .func⟩ := by kernel_rfl
theorem ti132 : ti Tryz.prog 132 = some ⟨1, 8, false, [.oth .nilFunc], .func⟩ := by kernel_rfl
theorem ti133 : ti Tryz.prog 133 = some ⟨1, 8, false, [.oth .nilFunc], .func⟩ := by kernel_rfl
theorem ti135 : ti Tryz.prog 135 = some ⟨1, 8, false, [.oth .nilFunc], .func⟩ := by kernel_rfl
theorem ti136 : ti Tryz.prog 136 = some ⟨1, 8, false, [.oth .nilFunc], .func⟩ := by kernel_rfl
theorem ti137 : ti Tryz.prog 137 = some ⟨1, 8, false, [.oth .nilFunc], .func⟩ := by kernel_rfl
theorem ti139 : ti Tryz.prog 139 = some ⟨1, 8, false, [.oth .nilFunc], .func⟩ := by kernel_rfl
theorem ti140 : ti Tryz.prog 140 = some ⟨1, 24, false, [.nil], .slice 182⟩ := by kernel_rfl
theorem ti141 : ti Tryz.prog 141 = some ⟨1, 24, false, [.nil], .slice 187⟩ := by kernel_rfl
theorem ti143 : ti Tryz.prog 143 = some ⟨1, 8, false, [.oth .nilFunc], .func⟩ := by kernel_rfl
theorem ti144 : ti Tryz.prog 144 = some ⟨1, 8, false, [.oth .nilFunc], .func⟩ := by kernel_rfl
theorem ti145 : ti Tryz.prog 145 = some ⟨1, 8, false, [.oth .nilFunc], .func⟩ := by kernel_rfl
theorem ti146 : ti Tryz.prog 146 = some ⟨1, 8, false, [.oth .nilFunc], .func⟩ := by kernel_rfl
theorem ti147 : ti Tryz.prog 147 = some ⟨1, 8, false, [.oth .nilFunc], .func⟩ := by kernel_rfl
theorem ti148 : ti Tryz.prog 148 = some ⟨1, 8, false, [.oth .nilFunc], .func⟩ := by kernel_rfl
theorem ti149 : ti Tryz.prog 149 = some ⟨1, 8, false, [.oth .nilFunc], .func⟩ := by kernel_rfl
theorem ti150 : ti Tryz.prog 150 = some ⟨1, 8, false, [.oth .nilFunc], .func⟩ := by kernel_rfl
theorem ti151 : ti Tryz.prog 151 = some ⟨1, 8, false, [.oth .nilFunc], .func⟩ := by kernel_rfl
theorem ti152 : ti Tryz.prog 152 = some ⟨1, 8, false, [.oth .nilFunc], .func⟩ := by kernel_rfl
theorem ti153 : ti Tryz.prog 153 = some ⟨1, 8, false, [.oth .nilFunc], .func⟩ := by kernel_rfl
theorem ti154 : ti Tryz.prog 154 = some ⟨1, 8, false, [.oth .nilFunc], .func⟩ := by kernel_rfl
theorem ti155 : ti Tryz.prog 155 = some ⟨1, 8, false, [.oth .nilFunc], .func⟩ := by kernel_rfl
theorem ti156 : ti Tryz.prog 156 = some ⟨1, 8, false, [.oth .nilFunc], .func⟩ := by kernel_rfl
theorem ti157 : ti Tryz.prog 157 = some ⟨1, 8, false, [.oth .nilFunc], .func⟩ := by kernel_rfl
theorem ti158 : ti Tryz.prog 158 = some ⟨1, 8, false, [.oth .nilFunc], .func⟩ := by kernel_rfl
theorem ti159 : ti Tryz.prog 159 = some ⟨1, 8, false, [.oth .nilFunc], .func⟩ := by kernel_rfl
theorem ti160 : ti Tryz.prog 160 = some ⟨1, 8, false, [.oth .nilFunc], .func⟩ := by kernel_rfl
theorem ti161 : ti Tryz.prog 161 = some ⟨1, 8, false, [.oth .nilFunc], .func⟩ := by kernel_rfl
theorem ti162 : ti Tryz.prog 162 = some ⟨1, 8, false, [.oth .nilFunc], .func⟩ := by kernel_rfl
theorem ti163 : ti Tryz.prog 163 = some ⟨1, 8, false, [.oth .nilFunc], .func⟩ := by kernel_rfl
theorem ti164 : ti Tryz.prog 164 = some ⟨1, 8, false, [.oth .nilFunc], .func⟩ := by kernel_rfl
theorem ti165 : ti Tryz.prog 165 = some ⟨1, 8, false, [.oth .nilFunc], .func⟩ := by kernel_rfl
theorem ti166 : ti Tryz.prog 166 = some ⟨1, 8, false, [.oth .nilFunc], .func⟩ := by kernel_rfl
theorem ti167 : ti Tryz.prog 167 = some ⟨1, 8, false, [.oth .nilFunc], .func⟩ := by kernel_rfl
theorem ti168 : ti Tryz.prog 168 = some ⟨1, 8, false, [.oth .nilFunc], .func⟩ := by kernel_rfl
theorem ti169 : ti Tryz.prog 169 = some ⟨1, 8, false, [.oth .nilFunc], .func⟩ := by kernel_rfl
theorem ti170 : ti Tryz.prog 170 = some ⟨1, 8, false, [.oth .nilFunc], .func⟩ := by kernel_rfl
theorem ti171 : ti Tryz.prog 171 = some ⟨1, 8, false, [.int .u64 (0)], .int .u64⟩ := by kernel_rfl
theorem ti172 : ti Tryz.prog 172 = some ⟨1, 8, false, [.oth .nilFunc], .func⟩ := by kernel_rfl
theorem ti173 : ti Tryz.prog 173 = some ⟨1, 8, false, [.oth .nilFunc], .func⟩ := by kernel_rfl
theorem ti174 : ti Tryz.prog 174 = some ⟨1, 8, false, [.oth .nilFunc], .func⟩ := by kernel_rfl
theorem ti175 : ti Tryz.prog 175 = some ⟨2, 16, true, [.int .i64 (0), .int .i64 (0)], .struct [(0, 3), (1, 3)]⟩ := by kernel_rfl
theorem ti176 : ti Tryz.prog 176 = some ⟨2, 16, true, [.int .i64 (0), .int .i64 (0)], .struct [(0, 3), (1, 3)]⟩ := by kernel_rfl
theorem ti177 : ti Tryz.prog 177 = some ⟨1, 8, false, [.oth .nilFunc], .func⟩ := by kernel_rfl
theorem ti178 : ti Tryz.prog 178 = some ⟨1, 8, false, [.oth .nilFunc], .func⟩ := by kernel_rfl
theorem ti179 : ti Tryz.prog 179 = some ⟨1, 8, false, [.oth .nilFunc], .func⟩ := by kernel_rfl
theorem ti180 : ti Tryz.prog 180 = some ⟨1, 8, false, [.oth .nilFunc], .func⟩ := by kernel_rfl
theorem ti181 : ti Tryz.prog 181 = some ⟨3, 24, true, [.int .i64 (0), .int .i64 (0), .int .i64 (0)], .struct [(0, 3), (1, 3), (2, 3)]⟩ := by kernel_rfl
theorem ti182 : ti Tryz.prog 182 = some ⟨3, 24, true, [.int .i64 (0), .int .i64 (0), .int .i64 (0)], .struct [(0, 3), (1, 3), (2, 3)]⟩ := by kernel_rfl
theorem ti183 : ti Tryz.prog 183 = some ⟨1, 8, false, [.oth .nilFunc], .func⟩ := by kernel_rfl
theorem ti184 : ti Tryz.prog 184 = some ⟨2, 16, true, [.int .i64 (0), .int .i64 (0)], .struct [(0, 3), (1, 3)]⟩ := by kernel_rfl
theorem ti185 : ti Tryz.prog 185 = some ⟨2, 16, true, [.int .i64 (0), .int .i64 (0)], .struct [(0, 3), (1, 3)]⟩ := by kernel_rfl
theorem ti186 : ti Tryz.prog 186 = some ⟨7, 56, true, [.int .i64 (0), .int .i64 (0), .int .i64 (0), .int .i64 (0), .int .i64 (0), .int .i64 (0), .int .i64 (0)], .struct [(0, 3), (1, 3), (2, 3), (3, 185), (5, 3), (6, 3)]⟩ := by kernel_rfl
theorem ti187 : ti Tryz.prog 187 = some ⟨7, 56, true, [.int .i64 (0), .int .i64 (0), .int .i64 (0), .int .i64 (0), .int .i64 (0), .int .i64 (0), .int .i64 (0)], .struct [(0, 3), (1, 3), (2, 3), (3, 185), (5, 3), (6, 3)]⟩ := by kernel_rfl
theorem ti188 : ti Tryz.prog 188 = some ⟨1, 8, false, [.oth .nilFunc], .func⟩ := by kernel_rfl
theorem ti189 : ti Tryz.prog 189 = some ⟨1, 8, false, [.oth .nilFunc], .func⟩ := by kernel_rfl
theorem ti190 : ti Tryz.prog 190 = some ⟨1, 8, false, [.oth .nilFunc], .func⟩ := by kernel_rfl
theorem ti192 : ti Tryz.prog 192 = some ⟨1, 8, false, [.oth (.pointer none)], .ptr 196⟩ := by kernel_rfl
theorem ti193 : ti Tryz.prog 193 = some ⟨1, 24, true, [.nil], .struct [(0, 22)]⟩ := by kernel_rfl
theorem ti194 : ti Tryz.prog 194 = some ⟨1, 24, true, [.nil], .struct [(0, 22)]⟩ := by kernel_rfl
theorem ti195 : ti Tryz.prog 195 = some ⟨2, 32, true, [.nil, .int .i64 (0)], .struct [(0, 194), (1, 33)]⟩ := by kernel_rfl
theorem ti196 : ti Tryz.prog 196 = some ⟨2, 32, true, [.nil, .int .i64 (0)], .struct [(0, 194), (1, 33)]⟩ := by kernel_rfl
theorem ti197 : ti Tryz.prog 197 = some ⟨1, 8, false, [.oth .nilFunc], .func⟩ := by kernel_rfl
theorem ti199 : ti Tryz.prog 199 = some ⟨1, 24, false, [.nil], .slice 22⟩ := by kernel_rfl
theorem ti200 : ti Tryz.prog 200 = some ⟨1, 8, false, [.oth .nilFunc], .func⟩ := by kernel_rfl
theorem ti201 : ti Tryz.prog 201 = some ⟨1, 8, false, [.int .u64 (0)], .int .u64⟩ := by kernel_rfl
theorem ti202 : ti Tryz.prog 202 = some ⟨1, 8, false, [.oth .nilFunc], .func⟩ := by kernel_rfl
theorem ti203 : ti Tryz.prog 203 = some ⟨1, 8, false, [.oth .nilFunc], .func⟩ := by kernel_rfl
theorem ti204 : ti Tryz.prog 204 = some ⟨1, 4, false, [.int .u32 (0)], .int .u32⟩ := by kernel_rfl
theorem ti205 : ti Tryz.prog 205 = some ⟨16, 64, true, [.int .u32 (0), .int .u32 (0), .int .u32 (0), .int .u32 (0), .int .u32 (0), .int .u32 (0), .int .u32 (0), .int .u32 (0), .int .u32 (0), .int .u32 (0), .int .u32 (0), .int .u32 (0), .int .u32 (0), .int .u32 (0), .int .u32 (0), .int .u32 (0)], .array 16 204⟩ := by kernel_rfl
theorem ti206 : ti Tryz.prog 206 = some ⟨1, 8, false, [.oth .nilFunc], .func⟩ := by kernel_rfl
theorem ti207 : ti Tryz.prog 207 = some ⟨1, 24, false, [.nil], .slice 42⟩ := by kernel_rfl
theorem ti208 : ti Tryz.prog 208 = some ⟨1, 8, false, [.oth .nilFunc], .func⟩ := by kernel_rfl
theorem ti210 : ti Tryz.prog 210 = some ⟨1, 8, false, [.oth .nilFunc], .func⟩ := by kernel_rfl
theorem ti211 : ti Tryz.prog 211 = some ⟨1, 8, false, [.oth .nilFunc], .func⟩ := by kernel_rfl
theorem ti212 : ti Tryz.prog 212 = some ⟨1, 8, false, [.oth .nilFunc], .func⟩ := by kernel_rfl
theorem ti213 : ti Tryz.prog 213 = some ⟨1, 8, false, [.oth .nilFunc], .func⟩ := by kernel_rfl
theorem ti214 : ti Tryz.prog 214 = some ⟨1, 8, false, [.int .i64 (0)], .int .i64⟩ := by kernel_rfl
theorem ti216 : ti Tryz.prog 216 = some ⟨1, 8, false, [.oth .nilFunc], .func⟩ := by kernel_rfl
theorem ti217 : ti Tryz.prog 217 = some ⟨1, 8, false, [.oth .nilFunc], .func⟩ := by kernel_rfl
theorem ti218 : ti Tryz.prog 218 = some ⟨1, 8, false, [.oth .nilFunc], .func⟩ := by kernel_rfl
theorem ti220 : ti Tryz.prog 220 = some ⟨1, 8, false, [.oth .nilFunc], .func⟩ := by kernel_rfl
theorem ti221 : ti Tryz.prog 221 = some ⟨1, 8, false, [.oth .nilFunc], .func⟩ := by kernel_rfl
theorem ti222 : ti Tryz.prog 222 = some ⟨1, 8, false, [.oth .nilFunc], .func⟩ := by kernel_rfl
theorem ti223 : ti Tryz.prog 223 = some ⟨1, 8, false, [.oth .nilFunc], .func⟩ := by kernel_rfl
theorem ti224 : ti Tryz.prog 224 = some ⟨1, 8, false, [.oth .nilFunc], .func⟩ := by kernel_rfl
theorem ti225 : ti Tryz.prog 225 = some ⟨1, 8, false, [.oth .nilFunc], .func⟩ := by kernel_rfl
theorem ti226 : ti Tryz.prog 226 = some ⟨1, 8, false, [.oth .nilFunc], .func⟩ := by kernel_rfl
theorem ti228 : ti Tryz.prog 228 = some ⟨1, 8, false, [.oth .nilFunc], .func⟩ := by kernel_rfl
theorem ti229 : ti Tryz.prog 229 = some ⟨1, 8, false, [.oth .nilFunc], .func⟩ := by kernel_rfl
theorem ti230 : ti Tryz.prog 230 = some ⟨1, 8, false, [.oth .nilFunc], .func⟩ := by kernel_rfl
theorem ti231 : ti Tryz.prog 231 = some ⟨1, 8, false, [.oth .nilFunc], .func⟩ := by kernel_rfl
theorem ti232 : ti Tryz.prog 232 = some ⟨1, 8, false, [.oth .nilFunc], .func⟩ := by kernel_rfl
theorem ti233 : ti Tryz.prog 233 = some ⟨1, 8, false, [.oth .nilFunc], .func⟩ := by kernel_rfl
theorem ti234 : ti Tryz.prog 234 = some ⟨1, 8, false, [.int .u64 (0)], .int .u64⟩ := by kernel_rfl
theorem ti235 : ti Tryz.prog 235 = some ⟨1, 8, false, [.oth .nilFunc], .func⟩ := by kernel_rfl
theorem ti236 : ti Tryz.prog 236 = some ⟨1, 8, false, [.oth .nilFunc], .func⟩ := by kernel_rfl
theorem ti237 : ti Tryz.prog 237 = some ⟨1, 8, false, [.oth .nilFunc], .func⟩ := by kernel_rfl
theorem ti238 : ti Tryz.prog 238 = some ⟨1, 8, false, [.oth (.pointer none)], .ptr 3⟩ := by kernel_rfl
theorem ti239 : ti Tryz.prog 239 = some ⟨1, 8, false, [.oth .nilFunc], .func⟩ := by kernel_rfl
theorem ti240 : ti Tryz.prog 240 = some ⟨1, 8, false, [.oth .nilFunc], .func⟩ := by kernel_rfl
theorem ti241 : ti Tryz.prog 241 = some ⟨1, 8, false, [.oth .nilFunc], .func⟩ := by kernel_rfl
theorem ti242 : ti Tryz.prog 242 = some ⟨1, 8, false, [.oth .nilFunc], .func⟩ := by kernel_rfl
theorem ti243 : ti Tryz.prog 243 = some ⟨1, 8, false, [.oth .nilFunc], .func⟩ := by kernel_rfl
theorem ti244 : ti Tryz.prog 244 = some ⟨1, 8, false, [.oth .nilFunc], .func⟩ := by kernel_rfl
theorem ti245 : ti Tryz.prog 245 = some ⟨1, 8, false, [.oth (.pointer none)], .ptr 194⟩ := by kernel_rfl
theorem ti246 : ti Tryz.prog 246 = some ⟨1, 8, false, [.oth .nilFunc], .func⟩ := by kernel_rfl
theorem ti247 : ti Tryz.prog 247 = some ⟨1, 8, false, [.oth .nilFunc], .func⟩ := by kernel_rfl
theorem ti248 : ti Tryz.prog 248 = some ⟨1, 8, false, [.oth (.pointer none)], .ptr 234⟩ := by kernel_rfl
theorem ti250 : ti Tryz.prog 250 = some ⟨1, 8, false, [.oth .nilFunc], .func⟩ := by kernel_rfl
theorem ti251 : ti Tryz.prog 251 = some ⟨1, 8, false, [.oth .nilFunc], .func⟩ := by kernel_rfl
theorem ti252 : ti Tryz.prog 252 = some ⟨1, 8, false, [.oth .nilFunc], .func⟩ := by kernel_rfl
theorem ti253 : ti Tryz.prog 253 = some ⟨1, 8, false, [.oth .nilFunc], .func⟩ := by kernel_rfl
theorem ti254 : ti Tryz.prog 254 = some ⟨1, 8, false, [.oth .nilFunc], .func⟩ := by kernel_rfl
theorem ti255 : ti Tryz.prog 255 = some ⟨4, 40, true, [.oth (.pointer none), .oth (.pointer none), .oth (.pointer none), .str ByteArray.empty], .struct [(0, 17), (1, 17), (2, 17), (3, 9)]⟩ := by kernel_rfl
theorem ti256 : ti Tryz.prog 256 = some ⟨4, 40, true, [.oth (.pointer none), .oth (.pointer none), .oth (.pointer none), .str ByteArray.empty], .struct [(0, 17), (1, 17), (2, 17), (3, 9)]⟩ := by kernel_rfl
theorem ti257 : ti Tryz.prog 257 = some ⟨0, 0, true, [], .array 0 16⟩ := by kernel_rfl
theorem ti258 : ti Tryz.prog 258 = some ⟨0, 0, true, [], .struct [(0, 257)]⟩ := by kernel_rfl
theorem ti259 : ti Tryz.prog 259 = some ⟨0, 0, true, [], .struct [(0, 257)]⟩ := by kernel_rfl
theorem ti260 : ti Tryz.prog 260 = some ⟨1, 1, false, [.int .u8 (0)], .int .u8⟩ := by kernel_rfl
theorem ti261 : ti Tryz.prog 261 = some ⟨1, 1, false, [.int .u8 (0)], .int .u8⟩ := by kernel_rfl
theorem ti262 : ti Tryz.prog 262 = some ⟨1, 8, false, [.oth .nilFunc], .func⟩ := by kernel_rfl
theorem ti263 : ti Tryz.prog 263 = some ⟨1, 8, false, [.oth (.pointer none)], .ptr 5⟩ := by kernel_rfl
theorem ti264 : ti Tryz.prog 264 = some ⟨1, 4, false, [.int .i32 (0)], .int .i32⟩ := by kernel_rfl
theorem ti265 : ti Tryz.prog 265 = some ⟨1, 4, false, [.int .i32 (0)], .int .i32⟩ := by kernel_rfl
theorem ti266 : ti Tryz.prog 266 = some ⟨11, 48, true, [.int .u64 (0), .int .u64 (0), .int .u32 (0), .int .u8 (0), .int .u8 (0), .int .u8 (0), .int .u8 (0), .oth .nilFunc, .oth (.pointer none), .int .i32 (0), .int .i32 (0)], .struct [(0, 12), (1, 12), (2, 204), (3, 260), (4, 5), (5, 5), (6, 261), (7, 262), (8, 263), (9, 264), (10, 265)]⟩ := by kernel_rfl
theorem ti267 : ti Tryz.prog 267 = some ⟨11, 48, true, [.int .u64 (0), .int .u64 (0), .int .u32 (0), .int .u8 (0), .int .u8 (0), .int .u8 (0), .int .u8 (0), .oth .nilFunc, .oth (.pointer none), .int .i32 (0), .int .i32 (0)], .struct [(0, 12), (1, 12), (2, 204), (3, 260), (4, 5), (5, 5), (6, 261), (7, 262), (8, 263), (9, 264), (10, 265)]⟩ := by kernel_rfl
theorem TIS : ((((((((type_of% @ti1) ∧ ((type_of% @ti2) ∧ (type_of% @ti3))) ∧ (((type_of% @ti4) ∧ (type_of% @ti5)) ∧ ((type_of% @ti6) ∧ (type_of% @ti7)))) ∧ ((((type_of% @ti8) ∧ (type_of% @ti9)) ∧ ((type_of% @ti10) ∧ (type_of% @ti11))) ∧ (((type_of% @ti12) ∧ (type_of% @ti13)) ∧ ((type_of% @ti14) ∧ (type_of% @ti15))))) ∧ ((((type_of% @ti16) ∧ ((type_of% @ti17) ∧ (type_of% @ti18))) ∧ (((type_of% @ti19) ∧ (type_of% @ti21)) ∧ ((type_of% @ti22) ∧ (type_of% @ti23)))) ∧ ((((type_of% @ti24) ∧ (type_of% @ti25)) ∧ ((type_of% @ti27) ∧ (type_of% @ti28))) ∧ (((type_of% @ti29) ∧ (type_of% @ti30)) ∧ ((type_of% @ti32) ∧ (type_of% @ti33)))))) ∧ (((((type_of% @ti35) ∧ ((type_of% @ti36) ∧ (type_of% @ti37))) ∧ (((type_of% @ti38) ∧ (type_of% @ti39)) ∧ ((type_of% @ti41) ∧ (type_of% @ti42)))) ∧ ((((type_of% @ti43) ∧ (type_of% @ti44)) ∧ ((type_of% @ti45) ∧ (type_of% @ti46))) ∧ (((type_of% @ti47) ∧ (type_of% @ti49)) ∧ ((type_of% @ti50) ∧ (type_of% @ti52))))) ∧ (((((type_of% @ti53) ∧ (type_of% @ti54)) ∧ ((type_of% @ti55) ∧ (type_of% @ti56))) ∧ (((type_of% @ti57) ∧ (type_of% @ti58)) ∧ ((type_of% @ti59) ∧ (type_of% @ti60)))) ∧ ((((type_of% @ti61) ∧ (type_of% @ti62)) ∧ ((type_of% @ti63) ∧ (type_of% @ti64))) ∧ (((type_of% @ti65) ∧ (type_of% @ti66)) ∧ ((type_of% @ti68) ∧ (type_of% @ti69))))))) ∧ ((((((type_of% @ti70) ∧ ((type_of% @ti71) ∧ (type_of% @ti72))) ∧ (((type_of% @ti73) ∧ (type_of% @ti74)) ∧ ((type_of% @ti75) ∧ (type_of% @ti77)))) ∧ ((((type_of% @ti78) ∧ (type_of% @ti79)) ∧ ((type_of% @ti80) ∧ (type_of% @ti81))) ∧ (((type_of% @ti82) ∧ (type_of% @ti83)) ∧ ((type_of% @ti84) ∧ (type_of% @ti85))))) ∧ ((((type_of% @ti87) ∧ ((type_of% @ti88) ∧ (type_of% @ti89))) ∧ (((type_of% @ti90) ∧ (type_of% @ti91)) ∧ ((type_of% @ti93) ∧ (type_of% @ti94)))) ∧ ((((type_of% @ti95) ∧ (type_of% @ti96)) ∧ ((type_of% @ti97) ∧ (type_of% @ti98))) ∧ (((type_of% @ti99) ∧ (type_of% @ti101)) ∧ ((type_of% @ti102) ∧ (type_of% @ti103)))))) ∧ (((((type_of% @ti104) ∧ ((type_of% @ti105) ∧ (type_of% @ti107))) ∧ (((type_of% @ti108) ∧ (type_of% @ti109)) ∧ ((type_of% @ti110) ∧ (type_of% @ti111)))) ∧ ((((type_of% @ti112) ∧ (type_of% @ti113)) ∧ ((type_of% @ti114) ∧ (type_of% @ti115))) ∧ (((type_of% @ti116) ∧ (type_of% @ti117)) ∧ ((type_of% @ti118) ∧ (type_of% @ti119))))) ∧ (((((type_of% @ti120) ∧ (type_of% @ti121)) ∧ ((type_of% @ti122) ∧ (type_of% @ti123))) ∧ (((type_of% @ti124) ∧ (type_of% @ti125)) ∧ ((type_of% @ti126) ∧ (type_of% @ti127)))) ∧ ((((type_of% @ti128) ∧ (type_of% @ti129)) ∧ ((type_of% @ti130) ∧ (type_of% @ti131))) ∧ (((type_of% @ti132) ∧ (type_of% @ti133)) ∧ ((type_of% @ti135) ∧ (type_of% @ti136)))))))) ∧ (((((((type_of% @ti137) ∧ ((type_of% @ti139) ∧ (type_of% @ti140))) ∧ (((type_of% @ti141) ∧ (type_of% @ti143)) ∧ ((type_of% @ti144) ∧ (type_of% @ti145)))) ∧ ((((type_of% @ti146) ∧ (type_of% @ti147)) ∧ ((type_of% @ti148) ∧ (type_of% @ti149))) ∧ (((type_of% @ti150) ∧ (type_of% @ti151)) ∧ ((type_of% @ti152) ∧ (type_of% @ti153))))) ∧ ((((type_of% @ti154) ∧ ((type_of% @ti155) ∧ (type_of% @ti156))) ∧ (((type_of% @ti157) ∧ (type_of% @ti158)) ∧ ((type_of% @ti159) ∧ (type_of% @ti160)))) ∧ ((((type_of% @ti161) ∧ (type_of% @ti162)) ∧ ((type_of% @ti163) ∧ (type_of% @ti164))) ∧ (((type_of% @ti165) ∧ (type_of% @ti166)) ∧ ((type_of% @ti167) ∧ (type_of% @ti168)))))) ∧ (((((type_of% @ti169) ∧ ((type_of% @ti170) ∧ (type_of% @ti171))) ∧ (((type_of% @ti172) ∧ (type_of% @ti173)) ∧ ((type_of% @ti174) ∧ (type_of% @ti175)))) ∧ ((((type_of% @ti176) ∧ (type_of% @ti177)) ∧ ((type_of% @ti178) ∧ (type_of% @ti179))) ∧ (((type_of% @ti180) ∧ (type_of% @ti181)) ∧ ((type_of% @ti182) ∧ (type_of% @ti183))))) ∧ (((((type_of% @ti184) ∧ (type_of% @ti185)) ∧ ((type_of% @ti186) ∧ (type_of% @ti187))) ∧ (((type_of% @ti188) ∧ (type_of% @ti189)) ∧ ((type_of% @ti190) ∧ (type_of% @ti192)))) ∧ ((((type_of% @ti193) ∧ (type_of% @ti194)) ∧ ((type_of% @ti195) ∧ (type_of% @ti196))) ∧ (((type_of% @ti197) ∧ (type_of% @ti199)) ∧ ((type_of% @ti200) ∧ (type_of% @ti201))))))) ∧ ((((((type_of% @ti202) ∧ ((type_of% @ti203) ∧ (type_of% @ti204))) ∧ (((type_of% @ti205) ∧ (type_of% @ti206)) ∧ ((type_of% @ti207) ∧ (type_of% @ti208)))) ∧ ((((type_of% @ti210) ∧ (type_of% @ti211)) ∧ ((type_of% @ti212) ∧ (type_of% @ti213))) ∧ (((type_of% @ti214) ∧ (type_of% @ti216)) ∧ ((type_of% @ti217) ∧ (type_of% @ti218))))) ∧ (((((type_of% @ti220) ∧ (type_of% @ti221)) ∧ ((type_of% @ti222) ∧ (type_of% @ti223))) ∧ (((type_of% @ti224) ∧ (type_of% @ti225)) ∧ ((type_of% @ti226) ∧ (type_of% @ti228)))) ∧ ((((type_of% @ti229) ∧ (type_of% @ti230)) ∧ ((type_of% @ti231) ∧ (type_of% @ti232))) ∧ (((type_of% @ti233) ∧ (type_of% @ti234)) ∧ ((type_of% @ti235) ∧ (type_of% @ti236)))))) ∧ (((((type_of% @ti237) ∧ ((type_of% @ti238) ∧ (type_of% @ti239))) ∧ (((type_of% @ti240) ∧ (type_of% @ti241)) ∧ ((type_of% @ti242) ∧ (type_of% @ti243)))) ∧ ((((type_of% @ti244) ∧ (type_of% @ti245)) ∧ ((type_of% @ti246) ∧ (type_of% @ti247))) ∧ (((type_of% @ti248) ∧ (type_of% @ti250)) ∧ ((type_of% @ti251) ∧ (type_of% @ti252))))) ∧ (((((type_of% @ti253) ∧ (type_of% @ti254)) ∧ ((type_of% @ti255) ∧ (type_of% @ti256))) ∧ (((type_of% @ti257) ∧ (type_of% @ti258)) ∧ ((type_of% @ti259) ∧ (type_of% @ti260)))) ∧ ((((type_of% @ti261) ∧ (type_of% @ti262)) ∧ ((type_of% @ti263) ∧ (type_of% @ti264))) ∧ (((type_of% @ti265) ∧ (type_of% @ti266)) ∧ ((type_of% @ti267) ∧ (type_of% @isb4))))))))) :=
 ⟨⟨⟨⟨⟨⟨⟨@ti1, ⟨@ti2, @ti3⟩⟩, ⟨⟨@ti4, @ti5⟩, ⟨@ti6, @ti7⟩⟩⟩, ⟨⟨⟨@ti8, @ti9⟩, ⟨@ti10, @ti11⟩⟩, ⟨⟨@ti12, @ti13⟩, ⟨@ti14, @ti15⟩⟩⟩⟩, ⟨⟨⟨@ti16, ⟨@ti17, @ti18⟩⟩, ⟨⟨@ti19, @ti21⟩, ⟨@ti22, @ti23⟩⟩⟩, ⟨⟨⟨@ti24, @ti25⟩, ⟨@ti27, @ti28⟩⟩, ⟨⟨@ti29, @ti30⟩, ⟨@ti32, @ti33⟩⟩⟩⟩⟩, ⟨⟨⟨⟨@ti35, ⟨@ti36, @ti37⟩⟩, ⟨⟨@ti38, @ti39⟩, ⟨@ti41, @ti42⟩⟩⟩, ⟨⟨⟨@ti43, @ti44⟩, ⟨@ti45, @ti46⟩⟩, ⟨⟨@ti47, @ti49⟩, ⟨@ti50, @ti52⟩⟩⟩⟩, ⟨⟨⟨⟨@ti53, @ti54⟩, ⟨@ti55, @ti56⟩⟩, ⟨⟨@ti57, @ti58⟩, ⟨@ti59, @ti60⟩⟩⟩, ⟨⟨⟨@ti61, @ti62⟩, ⟨@ti63, @ti64⟩⟩, ⟨⟨@ti65, @ti66⟩, ⟨@ti68, @ti69⟩⟩⟩⟩⟩⟩, ⟨⟨⟨⟨⟨@ti70, ⟨@ti71, @ti72⟩⟩, ⟨⟨@ti73, @ti74⟩, ⟨@ti75, @ti77⟩⟩⟩, ⟨⟨⟨@ti78, @ti79⟩, ⟨@ti80, @ti81⟩⟩, ⟨⟨@ti82, @ti83⟩, ⟨@ti84, @ti85⟩⟩⟩⟩, ⟨⟨⟨@ti87, ⟨@ti88, @ti89⟩⟩, ⟨⟨@ti90, @ti91⟩, ⟨@ti93, @ti94⟩⟩⟩, ⟨⟨⟨@ti95, @ti96⟩, ⟨@ti97, @ti98⟩⟩, ⟨⟨@ti99, @ti101⟩, ⟨@ti102, @ti103⟩⟩⟩⟩⟩, ⟨⟨⟨⟨@ti104, ⟨@ti105, @ti107⟩⟩, ⟨⟨@ti108, @ti109⟩, ⟨@ti110, @ti111⟩⟩⟩, ⟨⟨⟨@ti112, @ti113⟩, ⟨@ti114, @ti115⟩⟩, ⟨⟨@ti116, @ti117⟩, ⟨@ti118, @ti119⟩⟩⟩⟩, ⟨⟨⟨⟨@ti120, @ti121⟩, ⟨@ti122, @ti123⟩⟩, ⟨⟨@ti124, @ti125⟩, ⟨@ti126, @ti127⟩⟩⟩, ⟨⟨⟨@ti128, @ti129⟩, ⟨@ti130, @ti131⟩⟩, ⟨⟨@ti132, @ti133⟩, ⟨@ti135, @ti136⟩⟩⟩⟩⟩⟩⟩, ⟨⟨⟨⟨⟨⟨@ti137, ⟨@ti139, @ti140⟩⟩, ⟨⟨@ti141, @ti143⟩, ⟨@ti144, @ti145⟩⟩⟩, ⟨⟨⟨@ti146, @ti147⟩, ⟨@ti148, @ti149⟩⟩, ⟨⟨@ti150, @ti151⟩, ⟨@ti152, @ti153⟩⟩⟩⟩, ⟨⟨⟨@ti154, ⟨@ti155, @ti156⟩⟩, ⟨⟨@ti157, @ti158⟩, ⟨@ti159, @ti160⟩⟩⟩, ⟨⟨⟨@ti161, @ti162⟩, ⟨@ti163, @ti164⟩⟩, ⟨⟨@ti165, @ti166⟩, ⟨@ti167, @ti168⟩⟩⟩⟩⟩, ⟨⟨⟨⟨@ti169, ⟨@ti170, @ti171⟩⟩, ⟨⟨@ti172, @ti173⟩, ⟨@ti174, @ti175⟩⟩⟩, ⟨⟨⟨@ti176, @ti177⟩, ⟨@ti178, @ti179⟩⟩, ⟨⟨@ti180, @ti181⟩, ⟨@ti182, @ti183⟩⟩⟩⟩, ⟨⟨⟨⟨@ti184, @ti185⟩, ⟨@ti186, @ti187⟩⟩, ⟨⟨@ti188, @ti189⟩, ⟨@ti190, @ti192⟩⟩⟩, ⟨⟨⟨@ti193, @ti194⟩, ⟨@ti195, @ti196⟩⟩, ⟨⟨@ti197, @ti199⟩, ⟨@ti200, @ti201⟩⟩⟩⟩⟩⟩, ⟨⟨⟨⟨⟨@ti202, ⟨@ti203, @ti204⟩⟩, ⟨⟨@ti205, @ti206⟩, ⟨@ti207, @ti208⟩⟩⟩, ⟨⟨⟨@ti210, @ti211⟩, ⟨@ti212, @ti213⟩⟩, ⟨⟨@ti214, @ti216⟩, ⟨@ti217, @ti218⟩⟩⟩⟩, ⟨⟨⟨⟨@ti220, @ti221⟩, ⟨@ti222, @ti223⟩⟩, ⟨⟨@ti224, @ti225⟩, ⟨@ti226, @ti228⟩⟩⟩, ⟨⟨⟨@ti229, @ti230⟩, ⟨@ti231, @ti232⟩⟩, ⟨⟨@ti233, @ti234⟩, ⟨@ti235, @ti236⟩⟩⟩⟩⟩, ⟨⟨⟨⟨@ti237, ⟨@ti238, @ti239⟩⟩, ⟨⟨@ti240, @ti241⟩, ⟨@ti242, @ti243⟩⟩⟩, ⟨⟨⟨@ti244, @ti245⟩, ⟨@ti246, @ti247⟩⟩, ⟨⟨@ti248, @ti250⟩, ⟨@ti251, @ti252⟩⟩⟩⟩, ⟨⟨⟨⟨@ti253, @ti254⟩, ⟨@ti255, @ti256⟩⟩, ⟨⟨@ti257, @ti258⟩, ⟨@ti259, @ti260⟩⟩⟩, ⟨⟨⟨@ti261, @ti262⟩, ⟨@ti263, @ti264⟩⟩, ⟨⟨@ti265, @ti266⟩, ⟨@ti267, @isb4⟩⟩⟩⟩⟩⟩⟩⟩
end Go.Proofs.YtjflkcfafijhfaaGreat

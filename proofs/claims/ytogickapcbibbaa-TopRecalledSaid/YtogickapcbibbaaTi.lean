/- What the evaluator asks of the types of this seat. -/
import Derived.Test.YtogickapcbibbaaProg
import Derived.Test.YtogickapcbibbaaA3
namespace Go.Proofs.Ytogickapcbibbaa
open Go.Ab
theorem ti1 : ti Try.prog 1 = some ⟨1, 8, false, [.oth .nilFunc], .func⟩ := by kernel_rfl
theorem ti2 : ti Try.prog 2 = some ⟨1, 8, false, [.int .i64 (0)], .int .i64⟩ := by kernel_rfl
theorem ti3 : ti Try.prog 3 = some ⟨1, 8, false, [.int .i64 (0)], .int .i64⟩ := by kernel_rfl
theorem ti4 : ti Try.prog 4 = some ⟨1, 1, false, [.bool false], .bool⟩ := by kernel_rfl
theorem isb4 : isB Try.prog 4 = True := eq_true ⟨_, _, _, _, ti4⟩
theorem ti5 : ti Try.prog 5 = some ⟨1, 1, false, [.int .u8 (0)], .int .u8⟩ := by kernel_rfl
theorem ti6 : ti Try.prog 6 = some ⟨1, 1, false, [.int .u8 (0)], .int .u8⟩ := by kernel_rfl
theorem ti7 : ti Try.prog 7 = some ⟨4, 24, true, [.int .i64 (0), .int .i64 (0), .bool false, .int .u8 (0)], .struct [(0, 2), (1, 3), (2, 4), (3, 6)]⟩ := by kernel_rfl
theorem ti8 : ti Try.prog 8 = some ⟨4, 24, true, [.int .i64 (0), .int .i64 (0), .bool false, .int .u8 (0)], .struct [(0, 2), (1, 3), (2, 4), (3, 6)]⟩ := by kernel_rfl
theorem ti9 : ti Try.prog 9 = some ⟨1, 16, false, [.str ByteArray.empty], .str⟩ := by kernel_rfl
theorem ti10 : ti Try.prog 10 = some ⟨1, 16, false, [.str ByteArray.empty], .str⟩ := by kernel_rfl
theorem ti11 : ti Try.prog 11 = some ⟨1, 16, false, [.str ByteArray.empty], .str⟩ := by kernel_rfl
theorem ti12 : ti Try.prog 12 = some ⟨1, 8, false, [.int .u64 (0)], .int .u64⟩ := by kernel_rfl
theorem ti13 : ti Try.prog 13 = some ⟨2, 24, true, [.str ByteArray.empty, .int .u64 (0)], .struct [(0, 9), (1, 12)]⟩ := by kernel_rfl
theorem ti14 : ti Try.prog 14 = some ⟨2, 24, true, [.str ByteArray.empty, .int .u64 (0)], .struct [(0, 9), (1, 12)]⟩ := by kernel_rfl
theorem ti15 : ti Try.prog 15 = some ⟨1, 8, false, [.oth (.pointer none)], .ptr 153⟩ := by kernel_rfl
theorem ti16 : ti Try.prog 16 = some ⟨1, 8, false, [.oth (.pointer none)], .ptr 156⟩ := by kernel_rfl
theorem ti17 : ti Try.prog 17 = some ⟨1, 8, false, [.oth (.pointer none)], .ptr 164⟩ := by kernel_rfl
theorem ti18 : ti Try.prog 18 = some ⟨1, 8, true, [.oth (.pointer none)], .struct [(0, 17)]⟩ := by kernel_rfl
theorem ti19 : ti Try.prog 19 = some ⟨1, 8, true, [.oth (.pointer none)], .struct [(0, 17)]⟩ := by kernel_rfl
theorem ti21 : ti Try.prog 21 = some ⟨1, 4, false, [.int .i32 (0)], .int .i32⟩ := by kernel_rfl
theorem ti22 : ti Try.prog 22 = some ⟨1, 24, false, [.nil], .slice 26⟩ := by kernel_rfl
theorem ti23 : ti Try.prog 23 = some ⟨1, 24, false, [.nil], .slice 35⟩ := by kernel_rfl
theorem ti24 : ti Try.prog 24 = some ⟨1, 8, false, [.oth .nilFunc], .func⟩ := by kernel_rfl
theorem ti25 : ti Try.prog 25 = some ⟨1, 24, false, [.nil], .slice 3⟩ := by kernel_rfl
theorem ti26 : ti Try.prog 26 = some ⟨1, 2, false, [.int .u16 (0)], .int .u16⟩ := by kernel_rfl
theorem ti27 : ti Try.prog 27 = some ⟨1, 8, false, [.oth .nilFunc], .func⟩ := by kernel_rfl
theorem ti28 : ti Try.prog 28 = some ⟨1, 8, false, [.oth .nilFunc], .func⟩ := by kernel_rfl
theorem ti29 : ti Try.prog 29 = some ⟨1, 24, false, [.nil], .slice 68⟩ := by kernel_rfl
theorem ti30 : ti Try.prog 30 = some ⟨1, 24, false, [.nil], .slice 62⟩ := by kernel_rfl
theorem ti31 : ti Try.prog 31 = some ⟨4, 64, true, [.nil, .int .i64 (0), .int .i64 (0), .nil], .struct [(0, 29), (1, 3), (2, 3), (3, 30)]⟩ := by kernel_rfl
theorem ti32 : ti Try.prog 32 = some ⟨4, 64, true, [.nil, .int .i64 (0), .int .i64 (0), .nil], .struct [(0, 29), (1, 3), (2, 3), (3, 30)]⟩ := by kernel_rfl
theorem ti33 : ti Try.prog 33 = some ⟨1, 8, false, [.oth .nilFunc], .func⟩ := by kernel_rfl
theorem ti34 : ti Try.prog 34 = some ⟨2, 2, true, [.int .u8 (0), .int .u8 (0)], .struct [(0, 5), (1, 5)]⟩ := by kernel_rfl
theorem ti35 : ti Try.prog 35 = some ⟨2, 2, true, [.int .u8 (0), .int .u8 (0)], .struct [(0, 5), (1, 5)]⟩ := by kernel_rfl
theorem ti36 : ti Try.prog 36 = some ⟨1, 24, false, [.nil], .slice 5⟩ := by kernel_rfl
theorem ti38 : ti Try.prog 38 = some ⟨1, 8, false, [.oth .nilFunc], .func⟩ := by kernel_rfl
theorem ti40 : ti Try.prog 40 = some ⟨1, 8, false, [.oth .nilFunc], .func⟩ := by kernel_rfl
theorem ti41 : ti Try.prog 41 = some ⟨1, 8, false, [.oth .nilFunc], .func⟩ := by kernel_rfl
theorem ti42 : ti Try.prog 42 = some ⟨1, 8, false, [.oth .nilFunc], .func⟩ := by kernel_rfl
theorem ti43 : ti Try.prog 43 = some ⟨1, 8, false, [.oth .nilFunc], .func⟩ := by kernel_rfl
theorem ti44 : ti Try.prog 44 = some ⟨1, 8, false, [.oth .nilFunc], .func⟩ := by kernel_rfl
theorem ti45 : ti Try.prog 45 = some ⟨1, 24, false, [.nil], .slice 30⟩ := by kernel_rfl
theorem ti47 : ti Try.prog 47 = some ⟨1, 8, false, [.oth .nilFunc], .func⟩ := by kernel_rfl
theorem ti48 : ti Try.prog 48 = some ⟨1, 8, false, [.oth .nilFunc], .func⟩ := by kernel_rfl
theorem ti49 : ti Try.prog 49 = some ⟨1, 8, false, [.oth .nilFunc], .func⟩ := by kernel_rfl
theorem ti50 : ti Try.prog 50 = some ⟨1, 8, false, [.oth .nilFunc], .func⟩ := by kernel_rfl
theorem ti51 : ti Try.prog 51 = some ⟨1, 8, false, [.oth .nilFunc], .func⟩ := by kernel_rfl
theorem ti52 : ti Try.prog 52 = some ⟨2, 16, true, [.int .i64 (0), .int .i64 (0)], .struct [(0, 3), (1, 3)]⟩ := by kernel_rfl
theorem ti53 : ti Try.prog 53 = some ⟨2, 16, true, [.int .i64 (0), .int .i64 (0)], .struct [(0, 3), (1, 3)]⟩ := by kernel_rfl
theorem ti54 : ti Try.prog 54 = some ⟨1, 8, false, [.oth .nilFunc], .func⟩ := by kernel_rfl
theorem ti55 : ti Try.prog 55 = some ⟨1, 8, false, [.oth .nilFunc], .func⟩ := by kernel_rfl
theorem ti56 : ti Try.prog 56 = some ⟨1, 8, false, [.oth .nilFunc], .func⟩ := by kernel_rfl
theorem ti57 : ti Try.prog 57 = some ⟨1, 8, false, [.int .u64 (0)], .int .u64⟩ := by kernel_rfl
theorem ti58 : ti Try.prog 58 = some ⟨1, 8, false, [.oth .nilFunc], .func⟩ := by kernel_rfl
theorem ti59 : ti Try.prog 59 = some ⟨1, 8, false, [.oth .nilFunc], .func⟩ := by kernel_rfl
theorem ti60 : ti Try.prog 60 = some ⟨1, 8, false, [.oth .nilFunc], .func⟩ := by kernel_rfl
theorem ti61 : ti Try.prog 61 = some ⟨6, 72, true, [.int .i64 (0), .str ByteArray.empty, .int .i64 (0), .int .i64 (0), .nil, .int .i64 (0)], .struct [(0, 3), (1, 9), (2, 3), (3, 3), (4, 36), (5, 3)]⟩ := by kernel_rfl
theorem ti62 : ti Try.prog 62 = some ⟨6, 72, true, [.int .i64 (0), .str ByteArray.empty, .int .i64 (0), .int .i64 (0), .nil, .int .i64 (0)], .struct [(0, 3), (1, 9), (2, 3), (3, 3), (4, 36), (5, 3)]⟩ := by kernel_rfl
theorem ti63 : ti Try.prog 63 = some ⟨1, 8, false, [.oth .nilFunc], .func⟩ := by kernel_rfl
theorem ti64 : ti Try.prog 64 = some ⟨1, 8, false, [.oth .nilFunc], .func⟩ := by kernel_rfl
theorem ti65 : ti Try.prog 65 = some ⟨1, 8, false, [.oth .nilFunc], .func⟩ := by kernel_rfl
theorem ti66 : ti Try.prog 66 = some ⟨1, 8, false, [.oth .nilFunc], .func⟩ := by kernel_rfl
theorem ti67 : ti Try.prog 67 = some ⟨7, 56, true, [.int .i64 (0), .int .i64 (0), .int .i64 (0), .int .i64 (0), .int .i64 (0), .int .i64 (0), .int .i64 (0)], .struct [(0, 3), (1, 3), (2, 3), (3, 53), (5, 3), (6, 3)]⟩ := by kernel_rfl
theorem ti68 : ti Try.prog 68 = some ⟨7, 56, true, [.int .i64 (0), .int .i64 (0), .int .i64 (0), .int .i64 (0), .int .i64 (0), .int .i64 (0), .int .i64 (0)], .struct [(0, 3), (1, 3), (2, 3), (3, 53), (5, 3), (6, 3)]⟩ := by kernel_rfl
theorem ti69 : ti Try.prog 69 = some ⟨1, 8, false, [.oth .nilFunc], .func⟩ := by kernel_rfl
theorem ti70 : ti Try.prog 70 = some ⟨1, 8, false, [.oth .nilFunc], .func⟩ := by kernel_rfl
theorem ti71 : ti Try.prog 71 = some ⟨1, 8, false, [.oth .nilFunc], .func⟩ := by kernel_rfl
theorem ti72 : ti Try.prog 72 = some ⟨1, 8, false, [.oth .nilFunc], .func⟩ := by kernel_rfl
theorem ti73 : ti Try.prog 73 = some ⟨1, 8, false, [.oth .nilFunc], .func⟩ := by kernel_rfl
theorem ti74 : ti Try.prog 74 = some ⟨1, 8, false, [.oth .nilFunc], .func⟩ := by kernel_rfl
theorem ti75 : ti Try.prog 75 = some ⟨1, 8, false, [.oth .nilFunc], .func⟩ := by kernel_rfl
theorem ti76 : ti Try.prog 76 = some ⟨1, 8, false, [.oth .nilFunc], .func⟩ := by kernel_rfl
theorem ti77 : ti Try.prog 77 = some ⟨1, 8, false, [.oth .nilFunc], .func⟩ := by kernel_rfl
theorem ti78 : ti Try.prog 78 = some ⟨1, 8, false, [.oth .nilFunc], .func⟩ := by kernel_rfl
theorem ti79 : ti Try.prog 79 = some ⟨1, 8, false, [.oth .nilFunc], .func⟩ := by kernel_rfl
theorem ti80 : ti Try.prog 80 = some ⟨1, 8, false, [.oth .nilFunc], .func⟩ := by kernel_rfl
theorem ti81 : ti Try.prog 81 = some ⟨1, 24, false, [.nil], .slice 53⟩ := by kernel_rfl
theorem ti82 : ti Try.prog 82 = some ⟨1, 8, false, [.oth .nilFunc], .func⟩ := by kernel_rfl
theorem ti83 : ti Try.prog 83 = some ⟨1, 8, false, [.oth .nilFunc], .func⟩ := by kernel_rfl
theorem ti84 : ti Try.prog 84 = some ⟨1, 8, false, [.oth .nilFunc], .func⟩ := by kernel_rfl
theorem ti85 : ti Try.prog 85 = some ⟨1, 8, false, [.int .i64 (0)], .int .i64⟩ := by kernel_rfl
theorem ti86 : ti Try.prog 86 = some ⟨1, 8, false, [.oth .nilFunc], .func⟩ := by kernel_rfl
theorem ti87 : ti Try.prog 87 = some ⟨1, 8, false, [.oth .nilFunc], .func⟩ := by kernel_rfl
theorem ti88 : ti Try.prog 88 = some ⟨1, 8, false, [.oth .nilFunc], .func⟩ := by kernel_rfl
theorem ti89 : ti Try.prog 89 = some ⟨1, 8, false, [.oth .nilFunc], .func⟩ := by kernel_rfl
theorem ti90 : ti Try.prog 90 = some ⟨1, 8, false, [.oth .nilFunc], .func⟩ := by kernel_rfl
theorem ti91 : ti Try.prog 91 = some ⟨1, 8, false, [.oth .nilFunc], .func⟩ := by kernel_rfl
theorem ti92 : ti Try.prog 92 = some ⟨1, 8, false, [.oth .nilFunc], .func⟩ := by kernel_rfl
theorem ti93 : ti Try.prog 93 = some ⟨1, 8, false, [.oth .nilFunc], .func⟩ := by kernel_rfl
theorem ti94 : ti Try.prog 94 = some ⟨1, 8, false, [.oth .nilFunc], .func⟩ := by kernel_rfl
theorem ti95 : ti Try.prog 95 = some ⟨1, 8, false, [.oth .nilFunc], .func⟩ := by kernel_rfl
theorem ti96 : ti Try.prog 96 = some ⟨1, 8, false, [.oth .nilFunc], .func⟩ := by kernel_rfl
theorem ti97 : ti Try.prog 97 = some ⟨1, 8, false, [.oth .nilFunc], .func⟩ := by kernel_rfl
theorem ti98 : ti Try.prog 98 = some ⟨1, 8, false, [.oth .nilFunc], .func⟩ := by kernel_rfl
theorem ti99 : ti Try.prog 99 = some ⟨1, 8, false, [.oth .nilFunc], .func⟩ := by kernel_rfl
theorem ti100 : ti Try.prog 100 = some ⟨1, 8, true, [.oth .nilFunc], .struct [(0, 99)]⟩ := by kernel_rfl
theorem ti101 : ti Try.prog 101 = some ⟨1, 8, true, [.oth .nilFunc], .struct [(0, 99)]⟩ := by kernel_rfl
theorem ti102 : ti Try.prog 102 = some ⟨1, 8, false, [.int .u64 (0)], .int .u64⟩ := by kernel_rfl
theorem ti103 : ti Try.prog 103 = some ⟨1, 8, false, [.oth .nilFunc], .func⟩ := by kernel_rfl
theorem ti104 : ti Try.prog 104 = some ⟨1, 8, false, [.oth .nilFunc], .func⟩ := by kernel_rfl
theorem ti105 : ti Try.prog 105 = some ⟨1, 8, false, [.oth .nilFunc], .func⟩ := by kernel_rfl
theorem ti106 : ti Try.prog 106 = some ⟨1, 8, false, [.oth .nilFunc], .func⟩ := by kernel_rfl
theorem ti107 : ti Try.prog 107 = some ⟨1, 8, false, [.oth .nilFunc], .func⟩ := by kernel_rfl
theorem ti108 : ti Try.prog 108 = some ⟨1, 8, false, [.oth .nilFunc], .func⟩ := by kernel_rfl
theorem ti109 : ti Try.prog 109 = some ⟨1, 8, false, [.oth .nilFunc], .func⟩ := by kernel_rfl
theorem ti110 : ti Try.prog 110 = some ⟨1, 24, false, [.nil], .slice 114⟩ := by kernel_rfl
theorem ti111 : ti Try.prog 111 = some ⟨1, 8, false, [.oth .nilFunc], .func⟩ := by kernel_rfl
theorem ti112 : ti Try.prog 112 = some ⟨1, 8, false, [.oth .nilFunc], .func⟩ := by kernel_rfl
theorem ti113 : ti Try.prog 113 = some ⟨3, 24, true, [.int .i64 (0), .int .i64 (0), .bool false], .struct [(0, 3), (1, 3), (2, 4)]⟩ := by kernel_rfl
theorem ti114 : ti Try.prog 114 = some ⟨3, 24, true, [.int .i64 (0), .int .i64 (0), .bool false], .struct [(0, 3), (1, 3), (2, 4)]⟩ := by kernel_rfl
theorem ti115 : ti Try.prog 115 = some ⟨1, 8, false, [.oth .nilFunc], .func⟩ := by kernel_rfl
theorem ti116 : ti Try.prog 116 = some ⟨2, 16, true, [.int .i64 (0), .int .i64 (0)], .array 2 3⟩ := by kernel_rfl
theorem ti117 : ti Try.prog 117 = some ⟨1, 8, false, [.oth .nilFunc], .func⟩ := by kernel_rfl
theorem ti118 : ti Try.prog 118 = some ⟨1, 8, false, [.oth .nilFunc], .func⟩ := by kernel_rfl
theorem ti119 : ti Try.prog 119 = some ⟨1, 8, false, [.oth .nilFunc], .func⟩ := by kernel_rfl
theorem ti120 : ti Try.prog 120 = some ⟨1, 8, false, [.oth .nilFunc], .func⟩ := by kernel_rfl
theorem ti121 : ti Try.prog 121 = some ⟨1, 8, false, [.oth .nilFunc], .func⟩ := by kernel_rfl
theorem ti122 : ti Try.prog 122 = some ⟨1, 8, false, [.oth .nilFunc], .func⟩ := by kernel_rfl
theorem ti123 : ti Try.prog 123 = some ⟨1, 8, false, [.oth .nilFunc], .func⟩ := by kernel_rfl
theorem ti124 : ti Try.prog 124 = some ⟨1, 8, false, [.int .i64 (0)], .int .i64⟩ := by kernel_rfl
theorem ti126 : ti Try.prog 126 = some ⟨1, 8, false, [.oth .nilFunc], .func⟩ := by kernel_rfl
theorem ti127 : ti Try.prog 127 = some ⟨1, 8, false, [.oth .nilFunc], .func⟩ := by kernel_rfl
theorem ti128 : ti Try.prog 128 = some ⟨1, 8, false, [.oth .nilFunc], .func⟩ := by kernel_rfl
theorem ti129 : ti Try.prog 129 = some ⟨1, 8, false, [.oth .nilFunc], .func⟩ := by kernel_rfl
theorem ti130 : ti Try.prog 130 = some ⟨1, 8, false, [.oth .nilFunc], .func⟩ := by kernel_rfl
theorem ti131 : ti Try.prog 131 = some ⟨1, 4, false, [.int .u32 (0)], .int .u32⟩ := by kernel_rfl
theorem ti132 : ti Try.prog 132 = some ⟨1, 8, false, [.oth .nilFunc], .func⟩ := by kernel_rfl
theorem ti133 : ti Try.prog 133 = some ⟨1, 8, false, [.oth .nilFunc], .func⟩ := by kernel_rfl
theorem ti134 : ti Try.prog 134 = some ⟨1, 8, false, [.oth .nilFunc], .func⟩ := by kernel_rfl
theorem ti135 : ti Try.prog 135 = some ⟨1, 8, false, [.oth .nilFunc], .func⟩ := by kernel_rfl
theorem ti136 : ti Try.prog 136 = some ⟨1, 8, false, [.oth .nilFunc], .func⟩ := by kernel_rfl
theorem ti137 : ti Try.prog 137 = some ⟨1, 8, false, [.oth .nilFunc], .func⟩ := by kernel_rfl
theorem ti138 : ti Try.prog 138 = some ⟨1, 8, false, [.oth .nilFunc], .func⟩ := by kernel_rfl
theorem ti139 : ti Try.prog 139 = some ⟨1, 8, false, [.int .u64 (0)], .int .u64⟩ := by kernel_rfl
theorem ti140 : ti Try.prog 140 = some ⟨1, 8, false, [.oth .nilFunc], .func⟩ := by kernel_rfl
theorem ti141 : ti Try.prog 141 = some ⟨1, 8, false, [.oth .nilFunc], .func⟩ := by kernel_rfl
theorem ti142 : ti Try.prog 142 = some ⟨1, 8, false, [.oth .nilFunc], .func⟩ := by kernel_rfl
theorem ti143 : ti Try.prog 143 = some ⟨1, 8, false, [.oth (.pointer none)], .ptr 3⟩ := by kernel_rfl
theorem ti144 : ti Try.prog 144 = some ⟨1, 8, false, [.oth .nilFunc], .func⟩ := by kernel_rfl
theorem ti145 : ti Try.prog 145 = some ⟨1, 8, false, [.oth .nilFunc], .func⟩ := by kernel_rfl
theorem ti146 : ti Try.prog 146 = some ⟨1, 8, false, [.oth .nilFunc], .func⟩ := by kernel_rfl
theorem ti147 : ti Try.prog 147 = some ⟨1, 8, false, [.oth (.pointer none)], .ptr 139⟩ := by kernel_rfl
theorem ti149 : ti Try.prog 149 = some ⟨1, 8, false, [.oth .nilFunc], .func⟩ := by kernel_rfl
theorem ti150 : ti Try.prog 150 = some ⟨1, 8, false, [.oth .nilFunc], .func⟩ := by kernel_rfl
theorem ti151 : ti Try.prog 151 = some ⟨1, 8, false, [.oth .nilFunc], .func⟩ := by kernel_rfl
theorem ti152 : ti Try.prog 152 = some ⟨4, 40, true, [.oth (.pointer none), .oth (.pointer none), .oth (.pointer none), .str ByteArray.empty], .struct [(0, 17), (1, 17), (2, 17), (3, 9)]⟩ := by kernel_rfl
theorem ti153 : ti Try.prog 153 = some ⟨4, 40, true, [.oth (.pointer none), .oth (.pointer none), .oth (.pointer none), .str ByteArray.empty], .struct [(0, 17), (1, 17), (2, 17), (3, 9)]⟩ := by kernel_rfl
theorem ti154 : ti Try.prog 154 = some ⟨0, 0, true, [], .array 0 16⟩ := by kernel_rfl
theorem ti155 : ti Try.prog 155 = some ⟨0, 0, true, [], .struct [(0, 154)]⟩ := by kernel_rfl
theorem ti156 : ti Try.prog 156 = some ⟨0, 0, true, [], .struct [(0, 154)]⟩ := by kernel_rfl
theorem ti157 : ti Try.prog 157 = some ⟨1, 1, false, [.int .u8 (0)], .int .u8⟩ := by kernel_rfl
theorem ti158 : ti Try.prog 158 = some ⟨1, 1, false, [.int .u8 (0)], .int .u8⟩ := by kernel_rfl
theorem ti159 : ti Try.prog 159 = some ⟨1, 8, false, [.oth .nilFunc], .func⟩ := by kernel_rfl
theorem ti160 : ti Try.prog 160 = some ⟨1, 8, false, [.oth (.pointer none)], .ptr 5⟩ := by kernel_rfl
theorem ti161 : ti Try.prog 161 = some ⟨1, 4, false, [.int .i32 (0)], .int .i32⟩ := by kernel_rfl
theorem ti162 : ti Try.prog 162 = some ⟨1, 4, false, [.int .i32 (0)], .int .i32⟩ := by kernel_rfl
theorem ti163 : ti Try.prog 163 = some ⟨11, 48, true, [.int .u64 (0), .int .u64 (0), .int .u32 (0), .int .u8 (0), .int .u8 (0), .int .u8 (0), .int .u8 (0), .oth .nilFunc, .oth (.pointer none), .int .i32 (0), .int .i32 (0)], .struct [(0, 12), (1, 12), (2, 131), (3, 157), (4, 5), (5, 5), (6, 158), (7, 159), (8, 160), (9, 161), (10, 162)]⟩ := by kernel_rfl
theorem ti164 : ti Try.prog 164 = some ⟨11, 48, true, [.int .u64 (0), .int .u64 (0), .int .u32 (0), .int .u8 (0), .int .u8 (0), .int .u8 (0), .int .u8 (0), .oth .nilFunc, .oth (.pointer none), .int .i32 (0), .int .i32 (0)], .struct [(0, 12), (1, 12), (2, 131), (3, 157), (4, 5), (5, 5), (6, 158), (7, 159), (8, 160), (9, 161), (10, 162)]⟩ := by kernel_rfl
theorem TIS : ((((((((type_of% @ti1) ∧ (type_of% @ti2)) ∧ ((type_of% @ti3) ∧ (type_of% @ti4))) ∧ (((type_of% @ti5) ∧ (type_of% @ti6)) ∧ ((type_of% @ti7) ∧ ((type_of% @ti8) ∧ (type_of% @ti9))))) ∧ ((((type_of% @ti10) ∧ (type_of% @ti11)) ∧ ((type_of% @ti12) ∧ ((type_of% @ti13) ∧ (type_of% @ti14)))) ∧ (((type_of% @ti15) ∧ (type_of% @ti16)) ∧ ((type_of% @ti17) ∧ ((type_of% @ti18) ∧ (type_of% @ti19)))))) ∧ (((((type_of% @ti21) ∧ (type_of% @ti22)) ∧ ((type_of% @ti23) ∧ ((type_of% @ti24) ∧ (type_of% @ti25)))) ∧ (((type_of% @ti26) ∧ (type_of% @ti27)) ∧ ((type_of% @ti28) ∧ ((type_of% @ti29) ∧ (type_of% @ti30))))) ∧ ((((type_of% @ti31) ∧ (type_of% @ti32)) ∧ ((type_of% @ti33) ∧ ((type_of% @ti34) ∧ (type_of% @ti35)))) ∧ (((type_of% @ti36) ∧ (type_of% @ti38)) ∧ ((type_of% @ti40) ∧ ((type_of% @ti41) ∧ (type_of% @ti42))))))) ∧ ((((((type_of% @ti43) ∧ (type_of% @ti44)) ∧ ((type_of% @ti45) ∧ ((type_of% @ti47) ∧ (type_of% @ti48)))) ∧ (((type_of% @ti49) ∧ (type_of% @ti50)) ∧ ((type_of% @ti51) ∧ ((type_of% @ti52) ∧ (type_of% @ti53))))) ∧ ((((type_of% @ti54) ∧ (type_of% @ti55)) ∧ ((type_of% @ti56) ∧ ((type_of% @ti57) ∧ (type_of% @ti58)))) ∧ (((type_of% @ti59) ∧ (type_of% @ti60)) ∧ ((type_of% @ti61) ∧ ((type_of% @ti62) ∧ (type_of% @ti63)))))) ∧ (((((type_of% @ti64) ∧ (type_of% @ti65)) ∧ ((type_of% @ti66) ∧ ((type_of% @ti67) ∧ (type_of% @ti68)))) ∧ (((type_of% @ti69) ∧ (type_of% @ti70)) ∧ ((type_of% @ti71) ∧ ((type_of% @ti72) ∧ (type_of% @ti73))))) ∧ ((((type_of% @ti74) ∧ (type_of% @ti75)) ∧ ((type_of% @ti76) ∧ ((type_of% @ti77) ∧ (type_of% @ti78)))) ∧ (((type_of% @ti79) ∧ (type_of% @ti80)) ∧ ((type_of% @ti81) ∧ ((type_of% @ti82) ∧ (type_of% @ti83)))))))) ∧ (((((((type_of% @ti84) ∧ (type_of% @ti85)) ∧ ((type_of% @ti86) ∧ ((type_of% @ti87) ∧ (type_of% @ti88)))) ∧ (((type_of% @ti89) ∧ (type_of% @ti90)) ∧ ((type_of% @ti91) ∧ ((type_of% @ti92) ∧ (type_of% @ti93))))) ∧ ((((type_of% @ti94) ∧ (type_of% @ti95)) ∧ ((type_of% @ti96) ∧ ((type_of% @ti97) ∧ (type_of% @ti98)))) ∧ (((type_of% @ti99) ∧ (type_of% @ti100)) ∧ ((type_of% @ti101) ∧ ((type_of% @ti102) ∧ (type_of% @ti103)))))) ∧ (((((type_of% @ti104) ∧ (type_of% @ti105)) ∧ ((type_of% @ti106) ∧ ((type_of% @ti107) ∧ (type_of% @ti108)))) ∧ (((type_of% @ti109) ∧ (type_of% @ti110)) ∧ ((type_of% @ti111) ∧ ((type_of% @ti112) ∧ (type_of% @ti113))))) ∧ ((((type_of% @ti114) ∧ (type_of% @ti115)) ∧ ((type_of% @ti116) ∧ ((type_of% @ti117) ∧ (type_of% @ti118)))) ∧ (((type_of% @ti119) ∧ (type_of% @ti120)) ∧ ((type_of% @ti121) ∧ ((type_of% @ti122) ∧ (type_of% @ti123))))))) ∧ ((((((type_of% @ti124) ∧ (type_of% @ti126)) ∧ ((type_of% @ti127) ∧ ((type_of% @ti128) ∧ (type_of% @ti129)))) ∧ (((type_of% @ti130) ∧ (type_of% @ti131)) ∧ ((type_of% @ti132) ∧ ((type_of% @ti133) ∧ (type_of% @ti134))))) ∧ ((((type_of% @ti135) ∧ (type_of% @ti136)) ∧ ((type_of% @ti137) ∧ ((type_of% @ti138) ∧ (type_of% @ti139)))) ∧ (((type_of% @ti140) ∧ (type_of% @ti141)) ∧ ((type_of% @ti142) ∧ ((type_of% @ti143) ∧ (type_of% @ti144)))))) ∧ (((((type_of% @ti145) ∧ (type_of% @ti146)) ∧ ((type_of% @ti147) ∧ ((type_of% @ti149) ∧ (type_of% @ti150)))) ∧ (((type_of% @ti151) ∧ (type_of% @ti152)) ∧ ((type_of% @ti153) ∧ ((type_of% @ti154) ∧ (type_of% @ti155))))) ∧ ((((type_of% @ti156) ∧ (type_of% @ti157)) ∧ ((type_of% @ti158) ∧ ((type_of% @ti159) ∧ (type_of% @ti160)))) ∧ (((type_of% @ti161) ∧ (type_of% @ti162)) ∧ ((type_of% @ti163) ∧ ((type_of% @ti164) ∧ (type_of% @isb4))))))))) :=
  ⟨⟨⟨⟨⟨⟨⟨@ti1, @ti2⟩, ⟨@ti3, @ti4⟩⟩, ⟨⟨@ti5, @ti6⟩, ⟨@ti7, ⟨@ti8, @ti9⟩⟩⟩⟩, ⟨⟨⟨@ti10, @ti11⟩, ⟨@ti12, ⟨@ti13, @ti14⟩⟩⟩, ⟨⟨@ti15, @ti16⟩, ⟨@ti17, ⟨@ti18, @ti19⟩⟩⟩⟩⟩, ⟨⟨⟨⟨@ti21, @ti22⟩, ⟨@ti23, ⟨@ti24, @ti25⟩⟩⟩, ⟨⟨@ti26, @ti27⟩, ⟨@ti28, ⟨@ti29, @ti30⟩⟩⟩⟩, ⟨⟨⟨@ti31, @ti32⟩, ⟨@ti33, ⟨@ti34, @ti35⟩⟩⟩, ⟨⟨@ti36, @ti38⟩, ⟨@ti40, ⟨@ti41, @ti42⟩⟩⟩⟩⟩⟩, ⟨⟨⟨⟨⟨@ti43, @ti44⟩, ⟨@ti45, ⟨@ti47, @ti48⟩⟩⟩, ⟨⟨@ti49, @ti50⟩, ⟨@ti51, ⟨@ti52, @ti53⟩⟩⟩⟩, ⟨⟨⟨@ti54, @ti55⟩, ⟨@ti56, ⟨@ti57, @ti58⟩⟩⟩, ⟨⟨@ti59, @ti60⟩, ⟨@ti61, ⟨@ti62, @ti63⟩⟩⟩⟩⟩, ⟨⟨⟨⟨@ti64, @ti65⟩, ⟨@ti66, ⟨@ti67, @ti68⟩⟩⟩, ⟨⟨@ti69, @ti70⟩, ⟨@ti71, ⟨@ti72, @ti73⟩⟩⟩⟩, ⟨⟨⟨@ti74, @ti75⟩, ⟨@ti76, ⟨@ti77, @ti78⟩⟩⟩, ⟨⟨@ti79, @ti80⟩, ⟨@ti81, ⟨@ti82, @ti83⟩⟩⟩⟩⟩⟩⟩, ⟨⟨⟨⟨⟨⟨@ti84, @ti85⟩, ⟨@ti86, ⟨@ti87, @ti88⟩⟩⟩, ⟨⟨@ti89, @ti90⟩, ⟨@ti91, ⟨@ti92, @ti93⟩⟩⟩⟩, ⟨⟨⟨@ti94, @ti95⟩, ⟨@ti96, ⟨@ti97, @ti98⟩⟩⟩, ⟨⟨@ti99, @ti100⟩, ⟨@ti101, ⟨@ti102, @ti103⟩⟩⟩⟩⟩, ⟨⟨⟨⟨@ti104, @ti105⟩, ⟨@ti106, ⟨@ti107, @ti108⟩⟩⟩, ⟨⟨@ti109, @ti110⟩, ⟨@ti111, ⟨@ti112, @ti113⟩⟩⟩⟩, ⟨⟨⟨@ti114, @ti115⟩, ⟨@ti116, ⟨@ti117, @ti118⟩⟩⟩, ⟨⟨@ti119, @ti120⟩, ⟨@ti121, ⟨@ti122, @ti123⟩⟩⟩⟩⟩⟩, ⟨⟨⟨⟨⟨@ti124, @ti126⟩, ⟨@ti127, ⟨@ti128, @ti129⟩⟩⟩, ⟨⟨@ti130, @ti131⟩, ⟨@ti132, ⟨@ti133, @ti134⟩⟩⟩⟩, ⟨⟨⟨@ti135, @ti136⟩, ⟨@ti137, ⟨@ti138, @ti139⟩⟩⟩, ⟨⟨@ti140, @ti141⟩, ⟨@ti142, ⟨@ti143, @ti144⟩⟩⟩⟩⟩, ⟨⟨⟨⟨@ti145, @ti146⟩, ⟨@ti147, ⟨@ti149, @ti150⟩⟩⟩, ⟨⟨@ti151, @ti152⟩, ⟨@ti153, ⟨@ti154, @ti155⟩⟩⟩⟩, ⟨⟨⟨@ti156, @ti157⟩, ⟨@ti158, ⟨@ti159, @ti160⟩⟩⟩, ⟨⟨@ti161, @ti162⟩, ⟨@ti163, ⟨@ti164, @isb4⟩⟩⟩⟩⟩⟩⟩⟩
end Go.Proofs.Ytogickapcbibbaa

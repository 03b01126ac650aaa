/- The types of the program, as the abstract walk asks for them. -/
import Derived.Test.YtkajegjghfbgaaaAxZ
import Derived.Test.YtkajegjghfbgaaaProg
namespace Go.Proofs.Ytkajegjghfbgaaa.Ax
open Go.RowKit
set_option linter.unusedVariables false

def ti1 : TI := ⟨false, 1, [.any], .other, none⟩
def ti2 : TI := ⟨false, 1, [.int .i64 0], .int .i64, none⟩
def ti3 : TI := ⟨false, 1, [.int .i64 0], .int .i64, none⟩
def ti4 : TI := ⟨false, 1, [.fls], .bool, none⟩
def ti5 : TI := ⟨false, 1, [.int .u8 0], .int .u8, none⟩
def ti9 : TI := ⟨false, 1, [.str ⟨#[]⟩], .str, none⟩
def ti21 : TI := ⟨false, 1, [.int .i32 0], .int .i32, none⟩
def ti22 : TI := ⟨false, 1, [.nils], .slc 40 3 24 [.int .i64 0, .int .i64 0, .int .i64 0], none⟩
def ti23 : TI := ⟨false, 1, [.nils], .slc 3 1 8 [.int .i64 0], none⟩
def ti24 : TI := ⟨false, 1, [.nilp], .other, none⟩
def ti25 : TI := ⟨false, 1, [.any], .other, none⟩
def ti26 : TI := ⟨false, 1, [.any], .other, none⟩
def ti27 : TI := ⟨false, 1, [.any], .other, none⟩
def ti28 : TI := ⟨false, 1, [.nils], .slc 22 1 24 [.nils], none⟩
def ti29 : TI := ⟨false, 1, [.int .i64 0], .int .i64, none⟩
def ti30 : TI := ⟨false, 1, [.any], .other, none⟩
def ti32 : TI := ⟨false, 1, [.any], .other, none⟩
def ti33 : TI := ⟨false, 1, [.any], .other, none⟩
def ti34 : TI := ⟨false, 1, [.any], .other, none⟩
def ti35 : TI := ⟨true, 6, [.int .i64 0, .int .i64 0, .int .i64 0, .int .i64 0, .int .i64 0, .int .i64 0], .arr 6 1 false, some [.int, .int, .int, .int, .int, .int]⟩
def ti36 : TI := ⟨true, 36, [.int .i64 0, .int .i64 0, .int .i64 0, .int .i64 0, .int .i64 0, .int .i64 0, .int .i64 0, .int .i64 0, .int .i64 0, .int .i64 0, .int .i64 0, .int .i64 0, .int .i64 0, .int .i64 0, .int .i64 0, .int .i64 0, .int .i64 0, .int .i64 0, .int .i64 0, .int .i64 0, .int .i64 0, .int .i64 0, .int .i64 0, .int .i64 0, .int .i64 0, .int .i64 0, .int .i64 0, .int .i64 0, .int .i64 0, .int .i64 0, .int .i64 0, .int .i64 0, .int .i64 0, .int .i64 0, .int .i64 0, .int .i64 0], .arr 6 6 true, none⟩
def ti37 : TI := ⟨true, 6, [.fls, .fls, .fls, .fls, .fls, .fls], .arr 6 1 false, none⟩
def ti38 : TI := ⟨true, 36, [.fls, .fls, .fls, .fls, .fls, .fls, .fls, .fls, .fls, .fls, .fls, .fls, .fls, .fls, .fls, .fls, .fls, .fls, .fls, .fls, .fls, .fls, .fls, .fls, .fls, .fls, .fls, .fls, .fls, .fls, .fls, .fls, .fls, .fls, .fls, .fls], .arr 6 6 true, none⟩
def ti39 : TI := ⟨true, 3, [.int .i64 0, .int .i64 0, .int .i64 0], .struct [(0, 1, false), (1, 1, false), (2, 1, false)], some [.int, .int, .int]⟩
def ti40 : TI := ⟨true, 3, [.int .i64 0, .int .i64 0, .int .i64 0], .struct [(0, 1, false), (1, 1, false), (2, 1, false)], some [.int, .int, .int]⟩
def ti41 : TI := ⟨false, 1, [.any], .other, none⟩
def ti42 : TI := ⟨false, 1, [.any], .other, none⟩
def ti43 : TI := ⟨false, 1, [.any], .other, none⟩
def ti44 : TI := ⟨false, 1, [.nils], .slc 61 3 24 [.int .i64 0, .int .i64 0, .int .i64 0], none⟩
def ti45 : TI := ⟨false, 1, [.nils], .slc 63 7 56 [.int .i64 0, .int .i64 0, .int .i64 0, .int .i64 0, .int .i64 0, .int .i64 0, .int .i64 0], none⟩
def ti46 : TI := ⟨false, 1, [.any], .other, none⟩
def ti47 : TI := ⟨false, 1, [.any], .other, none⟩
def ti48 : TI := ⟨false, 1, [.nils], .slc 44 1 24 [.nils], none⟩
def ti49 : TI := ⟨false, 1, [.nils], .slc 45 1 24 [.nils], none⟩
def ti50 : TI := ⟨false, 1, [.any], .other, none⟩
def ti51 : TI := ⟨false, 1, [.nils], .slc 59 3 24 [.int .i64 0, .int .i64 0, .int .i64 0], none⟩
def ti52 : TI := ⟨true, 3, [.int .i64 0, .int .i64 0, .nils], .struct [(0, 1, false), (1, 1, false), (2, 1, false)], none⟩
def ti53 : TI := ⟨true, 3, [.int .i64 0, .int .i64 0, .nils], .struct [(0, 1, false), (1, 1, false), (2, 1, false)], none⟩
def ti55 : TI := ⟨false, 1, [.any], .other, none⟩
def ti56 : TI := ⟨false, 1, [.any], .other, none⟩
def ti57 : TI := ⟨false, 1, [.any], .other, none⟩
def ti58 : TI := ⟨true, 3, [.int .i64 0, .int .i64 0, .int .i64 0], .struct [(0, 1, false), (1, 1, false), (2, 1, false)], some [.int, .int, .int]⟩
def ti59 : TI := ⟨true, 3, [.int .i64 0, .int .i64 0, .int .i64 0], .struct [(0, 1, false), (1, 1, false), (2, 1, false)], some [.int, .int, .int]⟩
def ti60 : TI := ⟨true, 3, [.int .i64 0, .int .i64 0, .int .i64 0], .struct [(0, 1, false), (1, 1, false), (2, 1, false)], some [.int, .int, .int]⟩
def ti61 : TI := ⟨true, 3, [.int .i64 0, .int .i64 0, .int .i64 0], .struct [(0, 1, false), (1, 1, false), (2, 1, false)], some [.int, .int, .int]⟩
def ti62 : TI := ⟨true, 7, [.int .i64 0, .int .i64 0, .int .i64 0, .int .i64 0, .int .i64 0, .int .i64 0, .int .i64 0], .struct [(0, 3, true), (3, 1, false), (4, 1, false), (5, 1, false), (6, 1, false)], some [.int, .int, .int, .int, .int, .int, .int]⟩
def ti63 : TI := ⟨true, 7, [.int .i64 0, .int .i64 0, .int .i64 0, .int .i64 0, .int .i64 0, .int .i64 0, .int .i64 0], .struct [(0, 3, true), (3, 1, false), (4, 1, false), (5, 1, false), (6, 1, false)], some [.int, .int, .int, .int, .int, .int, .int]⟩
def ti64 : TI := ⟨false, 1, [.any], .other, none⟩
def ti65 : TI := ⟨false, 1, [.any], .other, none⟩
def ti66 : TI := ⟨false, 1, [.any], .other, none⟩
def ti67 : TI := ⟨true, 2, [.nils, .int .i64 0], .struct [(0, 1, false), (1, 1, false)], none⟩
def ti68 : TI := ⟨true, 2, [.nils, .int .i64 0], .struct [(0, 1, false), (1, 1, false)], none⟩
def ti69 : TI := ⟨false, 1, [.any], .other, none⟩
def ti70 : TI := ⟨false, 1, [.any], .other, none⟩
def ti71 : TI := ⟨false, 1, [.any], .other, none⟩
def ti72 : TI := ⟨false, 1, [.any], .other, none⟩
def ti73 : TI := ⟨false, 1, [.any], .other, none⟩
def ti74 : TI := ⟨false, 1, [.any], .other, none⟩
def ti75 : TI := ⟨false, 1, [.any], .other, none⟩
def ti76 : TI := ⟨false, 1, [.any], .other, none⟩
def ti77 : TI := ⟨false, 1, [.nils], .slc 79 2 16 [.int .i64 0, .int .i64 0], none⟩
def ti78 : TI := ⟨true, 2, [.int .i64 0, .int .i64 0], .struct [(0, 1, false), (1, 1, false)], some [.int, .int]⟩
def ti79 : TI := ⟨true, 2, [.int .i64 0, .int .i64 0], .struct [(0, 1, false), (1, 1, false)], some [.int, .int]⟩
def ti80 : TI := ⟨false, 1, [.any], .other, none⟩
def ti81 : TI := ⟨false, 1, [.any], .other, none⟩
def ti82 : TI := ⟨false, 1, [.any], .other, none⟩
def ti83 : TI := ⟨false, 1, [.any], .other, none⟩
def ti84 : TI := ⟨false, 1, [.any], .other, none⟩
def ti85 : TI := ⟨false, 1, [.any], .other, none⟩
def ti86 : TI := ⟨false, 1, [.any], .other, none⟩
def ti88 : TI := ⟨false, 1, [.any], .other, none⟩
def ti89 : TI := ⟨false, 1, [.any], .other, none⟩
def ti90 : TI := ⟨false, 1, [.int .u64 0], .int .u64, none⟩
def ti91 : TI := ⟨false, 1, [.any], .other, none⟩
def ti92 : TI := ⟨false, 1, [.any], .other, none⟩
def ti93 : TI := ⟨false, 1, [.any], .other, none⟩
def ti94 : TI := ⟨false, 1, [.any], .other, none⟩
def ti95 : TI := ⟨false, 1, [.int .i64 0], .int .i64, none⟩
def ti97 : TI := ⟨false, 1, [.any], .other, none⟩
def ti98 : TI := ⟨false, 1, [.any], .other, none⟩
def ti99 : TI := ⟨false, 1, [.any], .other, none⟩
def ti100 : TI := ⟨false, 1, [.any], .other, none⟩
def ti101 : TI := ⟨false, 1, [.any], .other, none⟩
def ti102 : TI := ⟨false, 1, [.int .u32 0], .int .u32, none⟩
def ti103 : TI := ⟨false, 1, [.any], .other, none⟩
def ti104 : TI := ⟨false, 1, [.int .u64 0], .int .u64, none⟩
def ti105 : TI := ⟨false, 1, [.int .u64 0], .int .u64, none⟩
def ti106 : TI := ⟨false, 1, [.any], .other, none⟩
def ti107 : TI := ⟨false, 1, [.any], .other, none⟩
def ti108 : TI := ⟨false, 1, [.any], .other, none⟩
def ti109 : TI := ⟨false, 1, [.nilp], .other, none⟩
def ti110 : TI := ⟨false, 1, [.any], .other, none⟩
def ti111 : TI := ⟨false, 1, [.nilp], .other, none⟩
def ti113 : TI := ⟨false, 1, [.any], .other, none⟩
def ti114 : TI := ⟨false, 1, [.any], .other, none⟩
def ti122 : TI := ⟨false, 1, [.any], .other, none⟩
def ti123 : TI := ⟨false, 1, [.nilp], .other, none⟩

def tab : Tab := fun t => match t with
  | 1 => some ti1
  | 2 => some ti2
  | 3 => some ti3
  | 4 => some ti4
  | 5 => some ti5
  | 9 => some ti9
  | 21 => some ti21
  | 22 => some ti22
  | 23 => some ti23
  | 24 => some ti24
  | 25 => some ti25
  | 26 => some ti26
  | 27 => some ti27
  | 28 => some ti28
  | 29 => some ti29
  | 30 => some ti30
  | 32 => some ti32
  | 33 => some ti33
  | 34 => some ti34
  | 35 => some ti35
  | 36 => some ti36
  | 37 => some ti37
  | 38 => some ti38
  | 39 => some ti39
  | 40 => some ti40
  | 41 => some ti41
  | 42 => some ti42
  | 43 => some ti43
  | 44 => some ti44
  | 45 => some ti45
  | 46 => some ti46
  | 47 => some ti47
  | 48 => some ti48
  | 49 => some ti49
  | 50 => some ti50
  | 51 => some ti51
  | 52 => some ti52
  | 53 => some ti53
  | 55 => some ti55
  | 56 => some ti56
  | 57 => some ti57
  | 58 => some ti58
  | 59 => some ti59
  | 60 => some ti60
  | 61 => some ti61
  | 62 => some ti62
  | 63 => some ti63
  | 64 => some ti64
  | 65 => some ti65
  | 66 => some ti66
  | 67 => some ti67
  | 68 => some ti68
  | 69 => some ti69
  | 70 => some ti70
  | 71 => some ti71
  | 72 => some ti72
  | 73 => some ti73
  | 74 => some ti74
  | 75 => some ti75
  | 76 => some ti76
  | 77 => some ti77
  | 78 => some ti78
  | 79 => some ti79
  | 80 => some ti80
  | 81 => some ti81
  | 82 => some ti82
  | 83 => some ti83
  | 84 => some ti84
  | 85 => some ti85
  | 86 => some ti86
  | 88 => some ti88
  | 89 => some ti89
  | 90 => some ti90
  | 91 => some ti91
  | 92 => some ti92
  | 93 => some ti93
  | 94 => some ti94
  | 95 => some ti95
  | 97 => some ti97
  | 98 => some ti98
  | 99 => some ti99
  | 100 => some ti100
  | 101 => some ti101
  | 102 => some ti102
  | 103 => some ti103
  | 104 => some ti104
  | 105 => some ti105
  | 106 => some ti106
  | 107 => some ti107
  | 108 => some ti108
  | 109 => some ti109
  | 110 => some ti110
  | 111 => some ti111
  | 113 => some ti113
  | 114 => some ti114
  | 122 => some ti122
  | 123 => some ti123
  | _ => none

theorem ti1_ok : tyInfo Try.prog 1 = some ti1 := by kernel_rfl
theorem ti2_ok : tyInfo Try.prog 2 = some ti2 := by kernel_rfl
theorem ti3_ok : tyInfo Try.prog 3 = some ti3 := by kernel_rfl
theorem ti4_ok : tyInfo Try.prog 4 = some ti4 := by kernel_rfl
theorem ti5_ok : tyInfo Try.prog 5 = some ti5 := by kernel_rfl
theorem ti9_ok : tyInfo Try.prog 9 = some ti9 := by kernel_rfl
theorem ti21_ok : tyInfo Try.prog 21 = some ti21 := by kernel_rfl
theorem ti22_ok : tyInfo Try.prog 22 = some ti22 := by kernel_rfl
theorem ti23_ok : tyInfo Try.prog 23 = some ti23 := by kernel_rfl
theorem ti24_ok : tyInfo Try.prog 24 = some ti24 := by kernel_rfl
theorem ti25_ok : tyInfo Try.prog 25 = some ti25 := by kernel_rfl
theorem ti26_ok : tyInfo Try.prog 26 = some ti26 := by kernel_rfl
theorem ti27_ok : tyInfo Try.prog 27 = some ti27 := by kernel_rfl
theorem ti28_ok : tyInfo Try.prog 28 = some ti28 := by kernel_rfl
theorem ti29_ok : tyInfo Try.prog 29 = some ti29 := by kernel_rfl
theorem ti30_ok : tyInfo Try.prog 30 = some ti30 := by kernel_rfl
theorem ti32_ok : tyInfo Try.prog 32 = some ti32 := by kernel_rfl
theorem ti33_ok : tyInfo Try.prog 33 = some ti33 := by kernel_rfl
theorem ti34_ok : tyInfo Try.prog 34 = some ti34 := by kernel_rfl
theorem ti35_ok : tyInfo Try.prog 35 = some ti35 := by kernel_rfl
theorem ti36_ok : tyInfo Try.prog 36 = some ti36 := by kernel_rfl
theorem ti37_ok : tyInfo Try.prog 37 = some ti37 := by kernel_rfl
theorem ti38_ok : tyInfo Try.prog 38 = some ti38 := by kernel_rfl
theorem ti39_ok : tyInfo Try.prog 39 = some ti39 := by kernel_rfl
theorem ti40_ok : tyInfo Try.prog 40 = some ti40 := by kernel_rfl
theorem ti41_ok : tyInfo Try.prog 41 = some ti41 := by kernel_rfl
theorem ti42_ok : tyInfo Try.prog 42 = some ti42 := by kernel_rfl
theorem ti43_ok : tyInfo Try.prog 43 = some ti43 := by kernel_rfl
theorem ti44_ok : tyInfo Try.prog 44 = some ti44 := by kernel_rfl
theorem ti45_ok : tyInfo Try.prog 45 = some ti45 := by kernel_rfl
theorem ti46_ok : tyInfo Try.prog 46 = some ti46 := by kernel_rfl
theorem ti47_ok : tyInfo Try.prog 47 = some ti47 := by kernel_rfl
theorem ti48_ok : tyInfo Try.prog 48 = some ti48 := by kernel_rfl
theorem ti49_ok : tyInfo Try.prog 49 = some ti49 := by kernel_rfl
theorem ti50_ok : tyInfo Try.prog 50 = some ti50 := by kernel_rfl
theorem ti51_ok : tyInfo Try.prog 51 = some ti51 := by kernel_rfl
theorem ti52_ok : tyInfo Try.prog 52 = some ti52 := by kernel_rfl
theorem ti53_ok : tyInfo Try.prog 53 = some ti53 := by kernel_rfl
theorem ti55_ok : tyInfo Try.prog 55 = some ti55 := by kernel_rfl
theorem ti56_ok : tyInfo Try.prog 56 = some ti56 := by kernel_rfl
theorem ti57_ok : tyInfo Try.prog 57 = some ti57 := by kernel_rfl
theorem ti58_ok : tyInfo Try.prog 58 = some ti58 := by kernel_rfl
theorem ti59_ok : tyInfo Try.prog 59 = some ti59 := by kernel_rfl
theorem ti60_ok : tyInfo Try.prog 60 = some ti60 := by kernel_rfl
theorem ti61_ok : tyInfo Try.prog 61 = some ti61 := by kernel_rfl
theorem ti62_ok : tyInfo Try.prog 62 = some ti62 := by kernel_rfl
theorem ti63_ok : tyInfo Try.prog 63 = some ti63 := by kernel_rfl
theorem ti64_ok : tyInfo Try.prog 64 = some ti64 := by kernel_rfl
theorem ti65_ok : tyInfo Try.prog 65 = some ti65 := by kernel_rfl
theorem ti66_ok : tyInfo Try.prog 66 = some ti66 := by kernel_rfl
theorem ti67_ok : tyInfo Try.prog 67 = some ti67 := by kernel_rfl
theorem ti68_ok : tyInfo Try.prog 68 = some ti68 := by kernel_rfl
theorem ti69_ok : tyInfo Try.prog 69 = some ti69 := by kernel_rfl
theorem ti70_ok : tyInfo Try.prog 70 = some ti70 := by kernel_rfl
theorem ti71_ok : tyInfo Try.prog 71 = some ti71 := by kernel_rfl
theorem ti72_ok : tyInfo Try.prog 72 = some ti72 := by kernel_rfl
theorem ti73_ok : tyInfo Try.prog 73 = some ti73 := by kernel_rfl
theorem ti74_ok : tyInfo Try.prog 74 = some ti74 := by kernel_rfl
theorem ti75_ok : tyInfo Try.prog 75 = some ti75 := by kernel_rfl
theorem ti76_ok : tyInfo Try.prog 76 = some ti76 := by kernel_rfl
theorem ti77_ok : tyInfo Try.prog 77 = some ti77 := by kernel_rfl
theorem ti78_ok : tyInfo Try.prog 78 = some ti78 := by kernel_rfl
theorem ti79_ok : tyInfo Try.prog 79 = some ti79 := by kernel_rfl
theorem ti80_ok : tyInfo Try.prog 80 = some ti80 := by kernel_rfl
theorem ti81_ok : tyInfo Try.prog 81 = some ti81 := by kernel_rfl
theorem ti82_ok : tyInfo Try.prog 82 = some ti82 := by kernel_rfl
theorem ti83_ok : tyInfo Try.prog 83 = some ti83 := by kernel_rfl
theorem ti84_ok : tyInfo Try.prog 84 = some ti84 := by kernel_rfl
theorem ti85_ok : tyInfo Try.prog 85 = some ti85 := by kernel_rfl
theorem ti86_ok : tyInfo Try.prog 86 = some ti86 := by kernel_rfl
theorem ti88_ok : tyInfo Try.prog 88 = some ti88 := by kernel_rfl
theorem ti89_ok : tyInfo Try.prog 89 = some ti89 := by kernel_rfl
theorem ti90_ok : tyInfo Try.prog 90 = some ti90 := by kernel_rfl
theorem ti91_ok : tyInfo Try.prog 91 = some ti91 := by kernel_rfl
theorem ti92_ok : tyInfo Try.prog 92 = some ti92 := by kernel_rfl
theorem ti93_ok : tyInfo Try.prog 93 = some ti93 := by kernel_rfl
theorem ti94_ok : tyInfo Try.prog 94 = some ti94 := by kernel_rfl
theorem ti95_ok : tyInfo Try.prog 95 = some ti95 := by kernel_rfl
theorem ti97_ok : tyInfo Try.prog 97 = some ti97 := by kernel_rfl
theorem ti98_ok : tyInfo Try.prog 98 = some ti98 := by kernel_rfl
theorem ti99_ok : tyInfo Try.prog 99 = some ti99 := by kernel_rfl
theorem ti100_ok : tyInfo Try.prog 100 = some ti100 := by kernel_rfl
theorem ti101_ok : tyInfo Try.prog 101 = some ti101 := by kernel_rfl
theorem ti102_ok : tyInfo Try.prog 102 = some ti102 := by kernel_rfl
theorem ti103_ok : tyInfo Try.prog 103 = some ti103 := by kernel_rfl
theorem ti104_ok : tyInfo Try.prog 104 = some ti104 := by kernel_rfl
theorem ti105_ok : tyInfo Try.prog 105 = some ti105 := by kernel_rfl
theorem ti106_ok : tyInfo Try.prog 106 = some ti106 := by kernel_rfl
theorem ti107_ok : tyInfo Try.prog 107 = some ti107 := by kernel_rfl
theorem ti108_ok : tyInfo Try.prog 108 = some ti108 := by kernel_rfl
theorem ti109_ok : tyInfo Try.prog 109 = some ti109 := by kernel_rfl
theorem ti110_ok : tyInfo Try.prog 110 = some ti110 := by kernel_rfl
theorem ti111_ok : tyInfo Try.prog 111 = some ti111 := by kernel_rfl
theorem ti113_ok : tyInfo Try.prog 113 = some ti113 := by kernel_rfl
theorem ti114_ok : tyInfo Try.prog 114 = some ti114 := by kernel_rfl
theorem ti122_ok : tyInfo Try.prog 122 = some ti122 := by kernel_rfl
theorem ti123_ok : tyInfo Try.prog 123 = some ti123 := by kernel_rfl

set_option maxRecDepth 100000 in
theorem tab_ok : TabOK Try.prog tab := by
  intro t ti h
  unfold tab at h
  split at h
  · exact Option.some.inj h ▸ ti1_ok
  · exact Option.some.inj h ▸ ti2_ok
  · exact Option.some.inj h ▸ ti3_ok
  · exact Option.some.inj h ▸ ti4_ok
  · exact Option.some.inj h ▸ ti5_ok
  · exact Option.some.inj h ▸ ti9_ok
  · exact Option.some.inj h ▸ ti21_ok
  · exact Option.some.inj h ▸ ti22_ok
  · exact Option.some.inj h ▸ ti23_ok
  · exact Option.some.inj h ▸ ti24_ok
  · exact Option.some.inj h ▸ ti25_ok
  · exact Option.some.inj h ▸ ti26_ok
  · exact Option.some.inj h ▸ ti27_ok
  · exact Option.some.inj h ▸ ti28_ok
  · exact Option.some.inj h ▸ ti29_ok
  · exact Option.some.inj h ▸ ti30_ok
  · exact Option.some.inj h ▸ ti32_ok
  · exact Option.some.inj h ▸ ti33_ok
  · exact Option.some.inj h ▸ ti34_ok
  · exact Option.some.inj h ▸ ti35_ok
  · exact Option.some.inj h ▸ ti36_ok
  · exact Option.some.inj h ▸ ti37_ok
  · exact Option.some.inj h ▸ ti38_ok
  · exact Option.some.inj h ▸ ti39_ok
  · exact Option.some.inj h ▸ ti40_ok
  · exact Option.some.inj h ▸ ti41_ok
  · exact Option.some.inj h ▸ ti42_ok
  · exact Option.some.inj h ▸ ti43_ok
  · exact Option.some.inj h ▸ ti44_ok
  · exact Option.some.inj h ▸ ti45_ok
  · exact Option.some.inj h ▸ ti46_ok
  · exact Option.some.inj h ▸ ti47_ok
  · exact Option.some.inj h ▸ ti48_ok
  · exact Option.some.inj h ▸ ti49_ok
  · exact Option.some.inj h ▸ ti50_ok
  · exact Option.some.inj h ▸ ti51_ok
  · exact Option.some.inj h ▸ ti52_ok
  · exact Option.some.inj h ▸ ti53_ok
  · exact Option.some.inj h ▸ ti55_ok
  · exact Option.some.inj h ▸ ti56_ok
  · exact Option.some.inj h ▸ ti57_ok
  · exact Option.some.inj h ▸ ti58_ok
  · exact Option.some.inj h ▸ ti59_ok
  · exact Option.some.inj h ▸ ti60_ok
  · exact Option.some.inj h ▸ ti61_ok
  · exact Option.some.inj h ▸ ti62_ok
  · exact Option.some.inj h ▸ ti63_ok
  · exact Option.some.inj h ▸ ti64_ok
  · exact Option.some.inj h ▸ ti65_ok
  · exact Option.some.inj h ▸ ti66_ok
  · exact Option.some.inj h ▸ ti67_ok
  · exact Option.some.inj h ▸ ti68_ok
  · exact Option.some.inj h ▸ ti69_ok
  · exact Option.some.inj h ▸ ti70_ok
  · exact Option.some.inj h ▸ ti71_ok
  · exact Option.some.inj h ▸ ti72_ok
  · exact Option.some.inj h ▸ ti73_ok
  · exact Option.some.inj h ▸ ti74_ok
  · exact Option.some.inj h ▸ ti75_ok
  · exact Option.some.inj h ▸ ti76_ok
  · exact Option.some.inj h ▸ ti77_ok
  · exact Option.some.inj h ▸ ti78_ok
  · exact Option.some.inj h ▸ ti79_ok
  · exact Option.some.inj h ▸ ti80_ok
  · exact Option.some.inj h ▸ ti81_ok
  · exact Option.some.inj h ▸ ti82_ok
  · exact Option.some.inj h ▸ ti83_ok
  · exact Option.some.inj h ▸ ti84_ok
  · exact Option.some.inj h ▸ ti85_ok
  · exact Option.some.inj h ▸ ti86_ok
  · exact Option.some.inj h ▸ ti88_ok
  · exact Option.some.inj h ▸ ti89_ok
  · exact Option.some.inj h ▸ ti90_ok
  · exact Option.some.inj h ▸ ti91_ok
  · exact Option.some.inj h ▸ ti92_ok
  · exact Option.some.inj h ▸ ti93_ok
  · exact Option.some.inj h ▸ ti94_ok
  · exact Option.some.inj h ▸ ti95_ok
  · exact Option.some.inj h ▸ ti97_ok
  · exact Option.some.inj h ▸ ti98_ok
  · exact Option.some.inj h ▸ ti99_ok
  · exact Option.some.inj h ▸ ti100_ok
  · exact Option.some.inj h ▸ ti101_ok
  · exact Option.some.inj h ▸ ti102_ok
  · exact Option.some.inj h ▸ ti103_ok
  · exact Option.some.inj h ▸ ti104_ok
  · exact Option.some.inj h ▸ ti105_ok
  · exact Option.some.inj h ▸ ti106_ok
  · exact Option.some.inj h ▸ ti107_ok
  · exact Option.some.inj h ▸ ti108_ok
  · exact Option.some.inj h ▸ ti109_ok
  · exact Option.some.inj h ▸ ti110_ok
  · exact Option.some.inj h ▸ ti111_ok
  · exact Option.some.inj h ▸ ti113_ok
  · exact Option.some.inj h ▸ ti114_ok
  · exact Option.some.inj h ▸ ti122_ok
  · exact Option.some.inj h ▸ ti123_ok
  · cases h
end Go.Proofs.Ytkajegjghfbgaaa.Ax

/- The table of types that the walks over pure values look into. -/
import Derived.Test.YtjfakpogfakicaaDoorProg
import Derived.Test.YtjfakpogfakicaaDoorVE
namespace Go.Proofs.YtjfakpogfakicaaDoor
open Go Go.PV
def tt : Tab
  | 2 => some ⟨.int .i64, 1, 8, (.int .i64 0)⟩
  | 3 => some ⟨.int .i64, 1, 8, (.int .i64 0)⟩
  | 4 => some ⟨.bool, 1, 1, (.bool false)⟩
  | 5 => some ⟨.int .u8, 1, 1, (.int .u8 0)⟩
  | 9 => some ⟨.str, 1, 16, (.string ⟨#[]⟩)⟩
  | 12 => some ⟨.int .u64, 1, 8, (.int .u64 0)⟩
  | 13 => some ⟨.struct [(0, 1, false), (1, 1, false)], 2, 24, (.agg #[(.string ⟨#[]⟩), (.int .u64 0)])⟩
  | 21 => some ⟨.int .i32, 1, 4, (.int .i32 0)⟩
  | 22 => some ⟨.int .i64, 1, 8, (.int .i64 0)⟩
  | 26 => some ⟨.slice 38, 1, 24, (.slice none 0 0)⟩
  | 37 => some ⟨.slice 5, 1, 24, (.slice none 0 0)⟩
  | 38 => some ⟨.int .u64, 1, 8, (.int .u64 0)⟩
  | 46 => some ⟨.int .u64, 1, 8, (.int .u64 0)⟩
  | 53 => some ⟨.ptr 49, 1, 8, (.pointer none)⟩
  | 67 => some ⟨.int .u32, 1, 4, (.int .u32 0)⟩
  | 70 => some ⟨.struct [(0, 1, false), (1, 1, false)], 2, 2, (.agg #[(.int .u8 0), (.int .u8 0)])⟩
  | 71 => some ⟨.struct [(0, 1, false), (1, 1, false)], 2, 2, (.agg #[(.int .u8 0), (.int .u8 0)])⟩
  | 87 => some ⟨.ptr 5, 1, 8, (.pointer none)⟩
  | _ => none

theorem tt2 : tt 2 = some ⟨.int .i64, 1, 8, (.int .i64 0)⟩ := rfl -- int64
theorem tt3 : tt 3 = some ⟨.int .i64, 1, 8, (.int .i64 0)⟩ := rfl -- int
theorem tt4 : tt 4 = some ⟨.bool, 1, 1, (.bool false)⟩ := rfl -- bool
theorem tt5 : tt 5 = some ⟨.int .u8, 1, 1, (.int .u8 0)⟩ := rfl -- uint8
theorem tt9 : tt 9 = some ⟨.str, 1, 16, (.string ⟨#[]⟩)⟩ := rfl -- string
theorem tt12 : tt 12 = some ⟨.int .u64, 1, 8, (.int .u64 0)⟩ := rfl -- uintptr
theorem tt13 : tt 13 = some ⟨.struct [(0, 1, false), (1, 1, false)], 2, 24, (.agg #[(.string ⟨#[]⟩), (.int .u64 0)])⟩ := rfl -- struct { msg string; addr uintptr }
theorem tt21 : tt 21 = some ⟨.int .i32, 1, 4, (.int .i32 0)⟩ := rfl -- int32
theorem tt22 : tt 22 = some ⟨.int .i64, 1, 8, (.int .i64 0)⟩ := rfl -- api.Errno = abacus/api.Errno
theorem tt26 : tt 26 = some ⟨.slice 38, 1, 24, (.slice none 0 0)⟩ := rfl -- []uint64
theorem tt37 : tt 37 = some ⟨.slice 5, 1, 24, (.slice none 0 0)⟩ := rfl -- []uint8
theorem tt38 : tt 38 = some ⟨.int .u64, 1, 8, (.int .u64 0)⟩ := rfl -- uint64
theorem tt46 : tt 46 = some ⟨.int .u64, 1, 8, (.int .u64 0)⟩ := rfl -- uint
theorem tt53 : tt 53 = some ⟨.ptr 49, 1, 8, (.pointer none)⟩ := rfl -- *strings.asciiSet
theorem tt67 : tt 67 = some ⟨.int .u32, 1, 4, (.int .u32 0)⟩ := rfl -- uint32
theorem tt70 : tt 70 = some ⟨.struct [(0, 1, false), (1, 1, false)], 2, 2, (.agg #[(.int .u8 0), (.int .u8 0)])⟩ := rfl -- struct { lo uint8; hi uint8 }
theorem tt71 : tt 71 = some ⟨.struct [(0, 1, false), (1, 1, false)], 2, 2, (.agg #[(.int .u8 0), (.int .u8 0)])⟩ := rfl -- utf8.acceptRange = unicode/utf8.acceptRange
theorem tt87 : tt 87 = some ⟨.ptr 5, 1, 8, (.pointer none)⟩ := rfl -- *uint8
theorem ok2 : TIOk Tryd.prog 2 ⟨.int .i64, 1, 8, (.int .i64 0)⟩ := ⟨by kernel_rfl, by kernel_rfl, by kernel_rfl⟩
theorem ok3 : TIOk Tryd.prog 3 ⟨.int .i64, 1, 8, (.int .i64 0)⟩ := ⟨by kernel_rfl, by kernel_rfl, by kernel_rfl⟩
theorem ok4 : TIOk Tryd.prog 4 ⟨.bool, 1, 1, (.bool false)⟩ := ⟨by kernel_rfl, by kernel_rfl, by kernel_rfl⟩
theorem ok5 : TIOk Tryd.prog 5 ⟨.int .u8, 1, 1, (.int .u8 0)⟩ := ⟨by kernel_rfl, by kernel_rfl, by kernel_rfl⟩
theorem ok9 : TIOk Tryd.prog 9 ⟨.str, 1, 16, (.string ⟨#[]⟩)⟩ := ⟨by kernel_rfl, by kernel_rfl, by kernel_rfl⟩
theorem ok12 : TIOk Tryd.prog 12 ⟨.int .u64, 1, 8, (.int .u64 0)⟩ := ⟨by kernel_rfl, by kernel_rfl, by kernel_rfl⟩
theorem ok13 : TIOk Tryd.prog 13 ⟨.struct [(0, 1, false), (1, 1, false)], 2, 24, (.agg #[(.string ⟨#[]⟩), (.int .u64 0)])⟩ := ⟨by kernel_rfl, by kernel_rfl, by kernel_rfl⟩
theorem ok21 : TIOk Tryd.prog 21 ⟨.int .i32, 1, 4, (.int .i32 0)⟩ := ⟨by kernel_rfl, by kernel_rfl, by kernel_rfl⟩
theorem ok22 : TIOk Tryd.prog 22 ⟨.int .i64, 1, 8, (.int .i64 0)⟩ := ⟨by kernel_rfl, by kernel_rfl, by kernel_rfl⟩
theorem ok26 : TIOk Tryd.prog 26 ⟨.slice 38, 1, 24, (.slice none 0 0)⟩ := ⟨by kernel_rfl, by kernel_rfl, by kernel_rfl⟩
theorem ok37 : TIOk Tryd.prog 37 ⟨.slice 5, 1, 24, (.slice none 0 0)⟩ := ⟨by kernel_rfl, by kernel_rfl, by kernel_rfl⟩
theorem ok38 : TIOk Tryd.prog 38 ⟨.int .u64, 1, 8, (.int .u64 0)⟩ := ⟨by kernel_rfl, by kernel_rfl, by kernel_rfl⟩
theorem ok46 : TIOk Tryd.prog 46 ⟨.int .u64, 1, 8, (.int .u64 0)⟩ := ⟨by kernel_rfl, by kernel_rfl, by kernel_rfl⟩
theorem ok53 : TIOk Tryd.prog 53 ⟨.ptr 49, 1, 8, (.pointer none)⟩ := ⟨by kernel_rfl, by kernel_rfl, by kernel_rfl⟩
theorem ok67 : TIOk Tryd.prog 67 ⟨.int .u32, 1, 4, (.int .u32 0)⟩ := ⟨by kernel_rfl, by kernel_rfl, by kernel_rfl⟩
theorem ok70 : TIOk Tryd.prog 70 ⟨.struct [(0, 1, false), (1, 1, false)], 2, 2, (.agg #[(.int .u8 0), (.int .u8 0)])⟩ := ⟨by kernel_rfl, by kernel_rfl, by kernel_rfl⟩
theorem ok71 : TIOk Tryd.prog 71 ⟨.struct [(0, 1, false), (1, 1, false)], 2, 2, (.agg #[(.int .u8 0), (.int .u8 0)])⟩ := ⟨by kernel_rfl, by kernel_rfl, by kernel_rfl⟩
theorem ok87 : TIOk Tryd.prog 87 ⟨.ptr 5, 1, 8, (.pointer none)⟩ := ⟨by kernel_rfl, by kernel_rfl, by kernel_rfl⟩

theorem ttOk : TabOk Tryd.prog tt := by
  intro t ti h
  unfold tt at h
  split at h
  · cases h; exact ok2
  · cases h; exact ok3
  · cases h; exact ok4
  · cases h; exact ok5
  · cases h; exact ok9
  · cases h; exact ok12
  · cases h; exact ok13
  · cases h; exact ok21
  · cases h; exact ok22
  · cases h; exact ok26
  · cases h; exact ok37
  · cases h; exact ok38
  · cases h; exact ok46
  · cases h; exact ok53
  · cases h; exact ok67
  · cases h; exact ok70
  · cases h; exact ok71
  · cases h; exact ok87
  · cases h
theorem mixed : Tryd.prog.follows .mixedOrders = true := by kernel_rfl
end Go.Proofs.YtjfakpogfakicaaDoor

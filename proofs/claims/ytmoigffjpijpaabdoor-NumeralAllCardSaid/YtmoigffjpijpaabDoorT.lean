/- The table of types that the walks over pure values look into. -/
import Derived.Test.YtmoigffjpijpaabDoorProg
import Derived.Test.YtmoigffjpijpaabDoorVC
namespace Go.Proofs.YtmoigffjpijpaabDoor
open Go Go.PV
def tt : Tab
  | 2 => some ⟨.int .i64, 1, 8, (.int .i64 0)⟩
  | 3 => some ⟨.int .i64, 1, 8, (.int .i64 0)⟩
  | 4 => some ⟨.bool, 1, 1, (.bool false)⟩
  | 5 => some ⟨.int .u8, 1, 1, (.int .u8 0)⟩
  | 9 => some ⟨.str, 1, 16, (.string ⟨#[]⟩)⟩
  | 12 => some ⟨.int .u64, 1, 8, (.int .u64 0)⟩
  | 13 => some ⟨.struct [(0, 1, false), (1, 1, false)], 2, 24, (.agg #[(.string ⟨#[]⟩), (.int .u64 0)])⟩
  | 21 => some ⟨.int .i32, 1, 4, (.int .i32 0)⟩
  | 22 => some ⟨.slice 27, 1, 24, (.slice none 0 0)⟩
  | 25 => some ⟨.slice 32, 1, 24, (.slice none 0 0)⟩
  | 26 => some ⟨.struct [(0, 1, false), (1, 1, false), (2, 1, false), (3, 1, false), (4, 1, false), (5, 1, false), (6, 1, false)], 7, 80, (.agg #[(.int .i64 0), (.slice none 0 0), (.string ⟨#[]⟩), (.int .i64 0), (.bool false), (.int .i64 0), (.bool false)])⟩
  | 27 => some ⟨.struct [(0, 1, false), (1, 1, false), (2, 1, false), (3, 1, false), (4, 1, false), (5, 1, false), (6, 1, false)], 7, 80, (.agg #[(.int .i64 0), (.slice none 0 0), (.string ⟨#[]⟩), (.int .i64 0), (.bool false), (.int .i64 0), (.bool false)])⟩
  | 29 => some ⟨.int .i64, 1, 8, (.int .i64 0)⟩
  | 32 => some ⟨.int .u64, 1, 8, (.int .u64 0)⟩
  | 45 => some ⟨.slice 5, 1, 24, (.slice none 0 0)⟩
  | 48 => some ⟨.ptr 50, 1, 8, (.pointer none)⟩
  | 49 => some ⟨.struct [(0, 1, false), (1, 1, false)], 2, 32, (.agg #[(.pointer none), (.slice none 0 0)])⟩
  | 50 => some ⟨.struct [(0, 1, false), (1, 1, false)], 2, 32, (.agg #[(.pointer none), (.slice none 0 0)])⟩
  | 61 => some ⟨.int .u64, 1, 8, (.int .u64 0)⟩
  | 67 => some ⟨.ptr 5, 1, 8, (.pointer none)⟩
  | 74 => some ⟨.ptr 70, 1, 8, (.pointer none)⟩
  | 83 => some ⟨.struct [(0, 1, false), (1, 1, false)], 2, 2, (.agg #[(.int .u8 0), (.int .u8 0)])⟩
  | 84 => some ⟨.struct [(0, 1, false), (1, 1, false)], 2, 2, (.agg #[(.int .u8 0), (.int .u8 0)])⟩
  | 97 => some ⟨.int .u32, 1, 4, (.int .u32 0)⟩
  | 105 => some ⟨.struct [(0, 1, false)], 1, 16, (.agg #[(.string ⟨#[]⟩)])⟩
  | _ => none

theorem tt2 : tt 2 = some ⟨.int .i64, 1, 8, (.int .i64 0)⟩ := rfl -- int64
theorem tt3 : tt 3 = some ⟨.int .i64, 1, 8, (.int .i64 0)⟩ := rfl -- int
theorem tt4 : tt 4 = some ⟨.bool, 1, 1, (.bool false)⟩ := rfl -- bool
theorem tt5 : tt 5 = some ⟨.int .u8, 1, 1, (.int .u8 0)⟩ := rfl -- uint8
theorem tt9 : tt 9 = some ⟨.str, 1, 16, (.string ⟨#[]⟩)⟩ := rfl -- string
theorem tt12 : tt 12 = some ⟨.int .u64, 1, 8, (.int .u64 0)⟩ := rfl -- uintptr
theorem tt13 : tt 13 = some ⟨.struct [(0, 1, false), (1, 1, false)], 2, 24, (.agg #[(.string ⟨#[]⟩), (.int .u64 0)])⟩ := rfl -- struct { msg string; addr uintptr }
theorem tt21 : tt 21 = some ⟨.int .i32, 1, 4, (.int .i32 0)⟩ := rfl -- int32
theorem tt22 : tt 22 = some ⟨.slice 27, 1, 24, (.slice none 0 0)⟩ := rfl -- []abacuslaw03.Op
theorem tt25 : tt 25 = some ⟨.slice 32, 1, 24, (.slice none 0 0)⟩ := rfl -- []uint64
theorem tt26 : tt 26 = some ⟨.struct [(0, 1, false), (1, 1, false), (2, 1, false), (3, 1, false), (4, 1, false), (5, 1, false), (6, 1, false)], 7, 80, (.agg #[(.int .i64 0), (.slice none 0 0), (.string ⟨#[]⟩), (.int .i64 0), (.bool false), (.int .i64 0), (.bool false)])⟩ := rfl -- struct { Kind int; A []uint64; S string; Base int; Upper bool; Keep int; More bool }
theorem tt27 : tt 27 = some ⟨.struct [(0, 1, false), (1, 1, false), (2, 1, false), (3, 1, false), (4, 1, false), (5, 1, false), (6, 1, false)], 7, 80, (.agg #[(.int .i64 0), (.slice none 0 0), (.string ⟨#[]⟩), (.int .i64 0), (.bool false), (.int .i64 0), (.bool false)])⟩ := rfl -- abacuslaw03.Op = abacus/abacuslaw03.Op
theorem tt29 : tt 29 = some ⟨.int .i64, 1, 8, (.int .i64 0)⟩ := rfl -- api.Errno = abacus/api.Errno
theorem tt32 : tt 32 = some ⟨.int .u64, 1, 8, (.int .u64 0)⟩ := rfl -- uint64
theorem tt45 : tt 45 = some ⟨.slice 5, 1, 24, (.slice none 0 0)⟩ := rfl -- []uint8
theorem tt48 : tt 48 = some ⟨.ptr 50, 1, 8, (.pointer none)⟩ := rfl -- *strings.Builder
theorem tt49 : tt 49 = some ⟨.struct [(0, 1, false), (1, 1, false)], 2, 32, (.agg #[(.pointer none), (.slice none 0 0)])⟩ := rfl -- struct { addr *strings.Builder; buf []uint8 }
theorem tt50 : tt 50 = some ⟨.struct [(0, 1, false), (1, 1, false)], 2, 32, (.agg #[(.pointer none), (.slice none 0 0)])⟩ := rfl -- strings.Builder
theorem tt61 : tt 61 = some ⟨.int .u64, 1, 8, (.int .u64 0)⟩ := rfl -- uint
theorem tt67 : tt 67 = some ⟨.ptr 5, 1, 8, (.pointer none)⟩ := rfl -- *uint8
theorem tt74 : tt 74 = some ⟨.ptr 70, 1, 8, (.pointer none)⟩ := rfl -- *strings.asciiSet
theorem tt83 : tt 83 = some ⟨.struct [(0, 1, false), (1, 1, false)], 2, 2, (.agg #[(.int .u8 0), (.int .u8 0)])⟩ := rfl -- struct { lo uint8; hi uint8 }
theorem tt84 : tt 84 = some ⟨.struct [(0, 1, false), (1, 1, false)], 2, 2, (.agg #[(.int .u8 0), (.int .u8 0)])⟩ := rfl -- utf8.acceptRange = unicode/utf8.acceptRange
theorem tt97 : tt 97 = some ⟨.int .u32, 1, 4, (.int .u32 0)⟩ := rfl -- uint32
theorem tt105 : tt 105 = some ⟨.struct [(0, 1, false)], 1, 16, (.agg #[(.string ⟨#[]⟩)])⟩ := rfl -- struct { s string }
theorem ok2 : TIOk Tryd.prog 2 ⟨.int .i64, 1, 8, (.int .i64 0)⟩ := ⟨by kernel_rfl, by kernel_rfl, by kernel_rfl⟩
theorem ok3 : TIOk Tryd.prog 3 ⟨.int .i64, 1, 8, (.int .i64 0)⟩ := ⟨by kernel_rfl, by kernel_rfl, by kernel_rfl⟩
theorem ok4 : TIOk Tryd.prog 4 ⟨.bool, 1, 1, (.bool false)⟩ := ⟨by kernel_rfl, by kernel_rfl, by kernel_rfl⟩
theorem ok5 : TIOk Tryd.prog 5 ⟨.int .u8, 1, 1, (.int .u8 0)⟩ := ⟨by kernel_rfl, by kernel_rfl, by kernel_rfl⟩
theorem ok9 : TIOk Tryd.prog 9 ⟨.str, 1, 16, (.string ⟨#[]⟩)⟩ := ⟨by kernel_rfl, by kernel_rfl, by kernel_rfl⟩
theorem ok12 : TIOk Tryd.prog 12 ⟨.int .u64, 1, 8, (.int .u64 0)⟩ := ⟨by kernel_rfl, by kernel_rfl, by kernel_rfl⟩
theorem ok13 : TIOk Tryd.prog 13 ⟨.struct [(0, 1, false), (1, 1, false)], 2, 24, (.agg #[(.string ⟨#[]⟩), (.int .u64 0)])⟩ := ⟨by kernel_rfl, by kernel_rfl, by kernel_rfl⟩
theorem ok21 : TIOk Tryd.prog 21 ⟨.int .i32, 1, 4, (.int .i32 0)⟩ := ⟨by kernel_rfl, by kernel_rfl, by kernel_rfl⟩
theorem ok22 : TIOk Tryd.prog 22 ⟨.slice 27, 1, 24, (.slice none 0 0)⟩ := ⟨by kernel_rfl, by kernel_rfl, by kernel_rfl⟩
theorem ok25 : TIOk Tryd.prog 25 ⟨.slice 32, 1, 24, (.slice none 0 0)⟩ := ⟨by kernel_rfl, by kernel_rfl, by kernel_rfl⟩
theorem ok26 : TIOk Tryd.prog 26 ⟨.struct [(0, 1, false), (1, 1, false), (2, 1, false), (3, 1, false), (4, 1, false), (5, 1, false), (6, 1, false)], 7, 80, (.agg #[(.int .i64 0), (.slice none 0 0), (.string ⟨#[]⟩), (.int .i64 0), (.bool false), (.int .i64 0), (.bool false)])⟩ := ⟨by kernel_rfl, by kernel_rfl, by kernel_rfl⟩
theorem ok27 : TIOk Tryd.prog 27 ⟨.struct [(0, 1, false), (1, 1, false), (2, 1, false), (3, 1, false), (4, 1, false), (5, 1, false), (6, 1, false)], 7, 80, (.agg #[(.int .i64 0), (.slice none 0 0), (.string ⟨#[]⟩), (.int .i64 0), (.bool false), (.int .i64 0), (.bool false)])⟩ := ⟨by kernel_rfl, by kernel_rfl, by kernel_rfl⟩
theorem ok29 : TIOk Tryd.prog 29 ⟨.int .i64, 1, 8, (.int .i64 0)⟩ := ⟨by kernel_rfl, by kernel_rfl, by kernel_rfl⟩
theorem ok32 : TIOk Tryd.prog 32 ⟨.int .u64, 1, 8, (.int .u64 0)⟩ := ⟨by kernel_rfl, by kernel_rfl, by kernel_rfl⟩
theorem ok45 : TIOk Tryd.prog 45 ⟨.slice 5, 1, 24, (.slice none 0 0)⟩ := ⟨by kernel_rfl, by kernel_rfl, by kernel_rfl⟩
theorem ok48 : TIOk Tryd.prog 48 ⟨.ptr 50, 1, 8, (.pointer none)⟩ := ⟨by kernel_rfl, by kernel_rfl, by kernel_rfl⟩
theorem ok49 : TIOk Tryd.prog 49 ⟨.struct [(0, 1, false), (1, 1, false)], 2, 32, (.agg #[(.pointer none), (.slice none 0 0)])⟩ := ⟨by kernel_rfl, by kernel_rfl, by kernel_rfl⟩
theorem ok50 : TIOk Tryd.prog 50 ⟨.struct [(0, 1, false), (1, 1, false)], 2, 32, (.agg #[(.pointer none), (.slice none 0 0)])⟩ := ⟨by kernel_rfl, by kernel_rfl, by kernel_rfl⟩
theorem ok61 : TIOk Tryd.prog 61 ⟨.int .u64, 1, 8, (.int .u64 0)⟩ := ⟨by kernel_rfl, by kernel_rfl, by kernel_rfl⟩
theorem ok67 : TIOk Tryd.prog 67 ⟨.ptr 5, 1, 8, (.pointer none)⟩ := ⟨by kernel_rfl, by kernel_rfl, by kernel_rfl⟩
theorem ok74 : TIOk Tryd.prog 74 ⟨.ptr 70, 1, 8, (.pointer none)⟩ := ⟨by kernel_rfl, by kernel_rfl, by kernel_rfl⟩
theorem ok83 : TIOk Tryd.prog 83 ⟨.struct [(0, 1, false), (1, 1, false)], 2, 2, (.agg #[(.int .u8 0), (.int .u8 0)])⟩ := ⟨by kernel_rfl, by kernel_rfl, by kernel_rfl⟩
theorem ok84 : TIOk Tryd.prog 84 ⟨.struct [(0, 1, false), (1, 1, false)], 2, 2, (.agg #[(.int .u8 0), (.int .u8 0)])⟩ := ⟨by kernel_rfl, by kernel_rfl, by kernel_rfl⟩
theorem ok97 : TIOk Tryd.prog 97 ⟨.int .u32, 1, 4, (.int .u32 0)⟩ := ⟨by kernel_rfl, by kernel_rfl, by kernel_rfl⟩
theorem ok105 : TIOk Tryd.prog 105 ⟨.struct [(0, 1, false)], 1, 16, (.agg #[(.string ⟨#[]⟩)])⟩ := ⟨by kernel_rfl, by kernel_rfl, by kernel_rfl⟩

theorem ttOk : TabOk Tryd.prog tt := by
  intro t ti h
  unfold tt at h
  split at h
  · cases h; exact ok2
  · cases h; exact ok3
  · cases h; exact ok4
  · cases h; exact ok5
  · cases h; exact ok9
  · cases h; exact ok12
  · cases h; exact ok13
  · cases h; exact ok21
  · cases h; exact ok22
  · cases h; exact ok25
  · cases h; exact ok26
  · cases h; exact ok27
  · cases h; exact ok29
  · cases h; exact ok32
  · cases h; exact ok45
  · cases h; exact ok48
  · cases h; exact ok49
  · cases h; exact ok50
  · cases h; exact ok61
  · cases h; exact ok67
  · cases h; exact ok74
  · cases h; exact ok83
  · cases h; exact ok84
  · cases h; exact ok97
  · cases h; exact ok105
  · cases h
theorem mixed : Tryd.prog.follows .mixedOrders = true := by kernel_rfl
end Go.Proofs.YtmoigffjpijpaabDoor

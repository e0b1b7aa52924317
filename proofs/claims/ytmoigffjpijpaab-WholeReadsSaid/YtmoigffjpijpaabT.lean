/- The table of types that the walks over pure values look into. -/
import Derived.Test.YtmoigffjpijpaabProg
import Derived.Test.YtmoigffjpijpaabVC
namespace Go.Proofs.Ytmoigffjpijpaab
open Go Go.PV
def tt : Tab
  | 2 => some ⟨.int .i64, 1, 8, (.int .i64 0)⟩
  | 3 => some ⟨.int .i64, 1, 8, (.int .i64 0)⟩
  | 4 => some ⟨.bool, 1, 1, (.bool false)⟩
  | 5 => some ⟨.int .u8, 1, 1, (.int .u8 0)⟩
  | 9 => some ⟨.str, 1, 16, (.string ⟨#[]⟩)⟩
  | 12 => some ⟨.int .u64, 1, 8, (.int .u64 0)⟩
  | 13 => some ⟨.struct [(0, 1, false), (1, 1, false)], 2, 24, (.agg #[(.string ⟨#[]⟩), (.int .u64 0)])⟩
  | 21 => some ⟨.int .i32, 1, 4, (.int .i32 0)⟩
  | 22 => some ⟨.struct [(0, 1, false), (1, 1, false), (2, 1, false), (3, 1, false)], 4, 32, (.agg #[(.int .u8 0), (.int .i64 0), (.int .i64 0), (.int .i64 0)])⟩
  | 23 => some ⟨.struct [(0, 1, false), (1, 1, false), (2, 1, false), (3, 1, false)], 4, 32, (.agg #[(.int .u8 0), (.int .i64 0), (.int .i64 0), (.int .i64 0)])⟩
  | 24 => some ⟨.slice 25, 1, 24, (.slice none 0 0)⟩
  | 25 => some ⟨.int .u64, 1, 8, (.int .u64 0)⟩
  | 26 => some ⟨.struct [(0, 4, true), (4, 1, false), (5, 1, false), (6, 1, false), (7, 1, false)], 8, 88, (.agg #[(.int .u8 0), (.int .i64 0), (.int .i64 0), (.int .i64 0), (.bool false), (.slice none 0 0), (.int .u64 0), (.string ⟨#[]⟩)])⟩
  | 27 => some ⟨.struct [(0, 4, true), (4, 1, false), (5, 1, false), (6, 1, false), (7, 1, false)], 8, 88, (.agg #[(.int .u8 0), (.int .i64 0), (.int .i64 0), (.int .i64 0), (.bool false), (.slice none 0 0), (.int .u64 0), (.string ⟨#[]⟩)])⟩
  | 31 => some ⟨.int .i64, 1, 8, (.int .i64 0)⟩
  | 39 => some ⟨.slice 3, 1, 24, (.slice none 0 0)⟩
  | 54 => some ⟨.slice 5, 1, 24, (.slice none 0 0)⟩
  | 66 => some ⟨.ptr 68, 1, 8, (.pointer none)⟩
  | 67 => some ⟨.struct [(0, 1, false), (1, 1, false)], 2, 32, (.agg #[(.pointer none), (.slice none 0 0)])⟩
  | 68 => some ⟨.struct [(0, 1, false), (1, 1, false)], 2, 32, (.agg #[(.pointer none), (.slice none 0 0)])⟩
  | 73 => some ⟨.int .u64, 1, 8, (.int .u64 0)⟩
  | 80 => some ⟨.ptr 5, 1, 8, (.pointer none)⟩
  | 81 => some ⟨.int .u32, 1, 4, (.int .u32 0)⟩
  | 100 => some ⟨.struct [(0, 1, false)], 1, 16, (.agg #[(.string ⟨#[]⟩)])⟩
  | _ => none

theorem tt2 : tt 2 = some ⟨.int .i64, 1, 8, (.int .i64 0)⟩ := rfl -- int64
theorem tt3 : tt 3 = some ⟨.int .i64, 1, 8, (.int .i64 0)⟩ := rfl -- int
theorem tt4 : tt 4 = some ⟨.bool, 1, 1, (.bool false)⟩ := rfl -- bool
theorem tt5 : tt 5 = some ⟨.int .u8, 1, 1, (.int .u8 0)⟩ := rfl -- uint8
theorem tt9 : tt 9 = some ⟨.str, 1, 16, (.string ⟨#[]⟩)⟩ := rfl -- string
theorem tt12 : tt 12 = some ⟨.int .u64, 1, 8, (.int .u64 0)⟩ := rfl -- uintptr
theorem tt13 : tt 13 = some ⟨.struct [(0, 1, false), (1, 1, false)], 2, 24, (.agg #[(.string ⟨#[]⟩), (.int .u64 0)])⟩ := rfl -- struct { msg string; addr uintptr }
theorem tt21 : tt 21 = some ⟨.int .i32, 1, 4, (.int .i32 0)⟩ := rfl -- int32
theorem tt22 : tt 22 = some ⟨.struct [(0, 1, false), (1, 1, false), (2, 1, false), (3, 1, false)], 4, 32, (.agg #[(.int .u8 0), (.int .i64 0), (.int .i64 0), (.int .i64 0)])⟩ := rfl -- struct { Verb uint8; Flags int; Width int; Prec int }
theorem tt23 : tt 23 = some ⟨.struct [(0, 1, false), (1, 1, false), (2, 1, false), (3, 1, false)], 4, 32, (.agg #[(.int .u8 0), (.int .i64 0), (.int .i64 0), (.int .i64 0)])⟩ := rfl -- api.Spec = abacus/api.Spec
theorem tt24 : tt 24 = some ⟨.slice 25, 1, 24, (.slice none 0 0)⟩ := rfl -- []uint64
theorem tt25 : tt 25 = some ⟨.int .u64, 1, 8, (.int .u64 0)⟩ := rfl -- uint64
theorem tt26 : tt 26 = some ⟨.struct [(0, 4, true), (4, 1, false), (5, 1, false), (6, 1, false), (7, 1, false)], 8, 88, (.agg #[(.int .u8 0), (.int .i64 0), (.int .i64 0), (.int .i64 0), (.bool false), (.slice none 0 0), (.int .u64 0), (.string ⟨#[]⟩)])⟩ := rfl -- struct { S api.Spec; Neg bool; N []uint64; U uint64; T string }
theorem tt27 : tt 27 = some ⟨.struct [(0, 4, true), (4, 1, false), (5, 1, false), (6, 1, false), (7, 1, false)], 8, 88, (.agg #[(.int .u8 0), (.int .i64 0), (.int .i64 0), (.int .i64 0), (.bool false), (.slice none 0 0), (.int .u64 0), (.string ⟨#[]⟩)])⟩ := rfl -- abacuslaw14.Ask = abacus/abacuslaw14.Ask
theorem tt31 : tt 31 = some ⟨.int .i64, 1, 8, (.int .i64 0)⟩ := rfl -- api.Errno = abacus/api.Errno
theorem tt39 : tt 39 = some ⟨.slice 3, 1, 24, (.slice none 0 0)⟩ := rfl -- []int
theorem tt54 : tt 54 = some ⟨.slice 5, 1, 24, (.slice none 0 0)⟩ := rfl -- []uint8
theorem tt66 : tt 66 = some ⟨.ptr 68, 1, 8, (.pointer none)⟩ := rfl -- *strings.Builder
theorem tt67 : tt 67 = some ⟨.struct [(0, 1, false), (1, 1, false)], 2, 32, (.agg #[(.pointer none), (.slice none 0 0)])⟩ := rfl -- struct { addr *strings.Builder; buf []uint8 }
theorem tt68 : tt 68 = some ⟨.struct [(0, 1, false), (1, 1, false)], 2, 32, (.agg #[(.pointer none), (.slice none 0 0)])⟩ := rfl -- strings.Builder
theorem tt73 : tt 73 = some ⟨.int .u64, 1, 8, (.int .u64 0)⟩ := rfl -- uint
theorem tt80 : tt 80 = some ⟨.ptr 5, 1, 8, (.pointer none)⟩ := rfl -- *uint8
theorem tt81 : tt 81 = some ⟨.int .u32, 1, 4, (.int .u32 0)⟩ := rfl -- uint32
theorem tt100 : tt 100 = some ⟨.struct [(0, 1, false)], 1, 16, (.agg #[(.string ⟨#[]⟩)])⟩ := rfl -- struct { s string }
theorem ok2 : TIOk Try.prog 2 ⟨.int .i64, 1, 8, (.int .i64 0)⟩ := ⟨by kernel_rfl, by kernel_rfl, by kernel_rfl⟩
theorem ok3 : TIOk Try.prog 3 ⟨.int .i64, 1, 8, (.int .i64 0)⟩ := ⟨by kernel_rfl, by kernel_rfl, by kernel_rfl⟩
theorem ok4 : TIOk Try.prog 4 ⟨.bool, 1, 1, (.bool false)⟩ := ⟨by kernel_rfl, by kernel_rfl, by kernel_rfl⟩
theorem ok5 : TIOk Try.prog 5 ⟨.int .u8, 1, 1, (.int .u8 0)⟩ := ⟨by kernel_rfl, by kernel_rfl, by kernel_rfl⟩
theorem ok9 : TIOk Try.prog 9 ⟨.str, 1, 16, (.string ⟨#[]⟩)⟩ := ⟨by kernel_rfl, by kernel_rfl, by kernel_rfl⟩
theorem ok12 : TIOk Try.prog 12 ⟨.int .u64, 1, 8, (.int .u64 0)⟩ := ⟨by kernel_rfl, by kernel_rfl, by kernel_rfl⟩
theorem ok13 : TIOk Try.prog 13 ⟨.struct [(0, 1, false), (1, 1, false)], 2, 24, (.agg #[(.string ⟨#[]⟩), (.int .u64 0)])⟩ := ⟨by kernel_rfl, by kernel_rfl, by kernel_rfl⟩
theorem ok21 : TIOk Try.prog 21 ⟨.int .i32, 1, 4, (.int .i32 0)⟩ := ⟨by kernel_rfl, by kernel_rfl, by kernel_rfl⟩
theorem ok22 : TIOk Try.prog 22 ⟨.struct [(0, 1, false), (1, 1, false), (2, 1, false), (3, 1, false)], 4, 32, (.agg #[(.int .u8 0), (.int .i64 0), (.int .i64 0), (.int .i64 0)])⟩ := ⟨by kernel_rfl, by kernel_rfl, by kernel_rfl⟩
theorem ok23 : TIOk Try.prog 23 ⟨.struct [(0, 1, false), (1, 1, false), (2, 1, false), (3, 1, false)], 4, 32, (.agg #[(.int .u8 0), (.int .i64 0), (.int .i64 0), (.int .i64 0)])⟩ := ⟨by kernel_rfl, by kernel_rfl, by kernel_rfl⟩
theorem ok24 : TIOk Try.prog 24 ⟨.slice 25, 1, 24, (.slice none 0 0)⟩ := ⟨by kernel_rfl, by kernel_rfl, by kernel_rfl⟩
theorem ok25 : TIOk Try.prog 25 ⟨.int .u64, 1, 8, (.int .u64 0)⟩ := ⟨by kernel_rfl, by kernel_rfl, by kernel_rfl⟩
theorem ok26 : TIOk Try.prog 26 ⟨.struct [(0, 4, true), (4, 1, false), (5, 1, false), (6, 1, false), (7, 1, false)], 8, 88, (.agg #[(.int .u8 0), (.int .i64 0), (.int .i64 0), (.int .i64 0), (.bool false), (.slice none 0 0), (.int .u64 0), (.string ⟨#[]⟩)])⟩ := ⟨by kernel_rfl, by kernel_rfl, by kernel_rfl⟩
theorem ok27 : TIOk Try.prog 27 ⟨.struct [(0, 4, true), (4, 1, false), (5, 1, false), (6, 1, false), (7, 1, false)], 8, 88, (.agg #[(.int .u8 0), (.int .i64 0), (.int .i64 0), (.int .i64 0), (.bool false), (.slice none 0 0), (.int .u64 0), (.string ⟨#[]⟩)])⟩ := ⟨by kernel_rfl, by kernel_rfl, by kernel_rfl⟩
theorem ok31 : TIOk Try.prog 31 ⟨.int .i64, 1, 8, (.int .i64 0)⟩ := ⟨by kernel_rfl, by kernel_rfl, by kernel_rfl⟩
theorem ok39 : TIOk Try.prog 39 ⟨.slice 3, 1, 24, (.slice none 0 0)⟩ := ⟨by kernel_rfl, by kernel_rfl, by kernel_rfl⟩
theorem ok54 : TIOk Try.prog 54 ⟨.slice 5, 1, 24, (.slice none 0 0)⟩ := ⟨by kernel_rfl, by kernel_rfl, by kernel_rfl⟩
theorem ok66 : TIOk Try.prog 66 ⟨.ptr 68, 1, 8, (.pointer none)⟩ := ⟨by kernel_rfl, by kernel_rfl, by kernel_rfl⟩
theorem ok67 : TIOk Try.prog 67 ⟨.struct [(0, 1, false), (1, 1, false)], 2, 32, (.agg #[(.pointer none), (.slice none 0 0)])⟩ := ⟨by kernel_rfl, by kernel_rfl, by kernel_rfl⟩
theorem ok68 : TIOk Try.prog 68 ⟨.struct [(0, 1, false), (1, 1, false)], 2, 32, (.agg #[(.pointer none), (.slice none 0 0)])⟩ := ⟨by kernel_rfl, by kernel_rfl, by kernel_rfl⟩
theorem ok73 : TIOk Try.prog 73 ⟨.int .u64, 1, 8, (.int .u64 0)⟩ := ⟨by kernel_rfl, by kernel_rfl, by kernel_rfl⟩
theorem ok80 : TIOk Try.prog 80 ⟨.ptr 5, 1, 8, (.pointer none)⟩ := ⟨by kernel_rfl, by kernel_rfl, by kernel_rfl⟩
theorem ok81 : TIOk Try.prog 81 ⟨.int .u32, 1, 4, (.int .u32 0)⟩ := ⟨by kernel_rfl, by kernel_rfl, by kernel_rfl⟩
theorem ok100 : TIOk Try.prog 100 ⟨.struct [(0, 1, false)], 1, 16, (.agg #[(.string ⟨#[]⟩)])⟩ := ⟨by kernel_rfl, by kernel_rfl, by kernel_rfl⟩

theorem ttOk : TabOk Try.prog tt := by
  intro t ti h
  unfold tt at h
  split at h
  · cases h; exact ok2
  · cases h; exact ok3
  · cases h; exact ok4
  · cases h; exact ok5
  · cases h; exact ok9
  · cases h; exact ok12
  · cases h; exact ok13
  · cases h; exact ok21
  · cases h; exact ok22
  · cases h; exact ok23
  · cases h; exact ok24
  · cases h; exact ok25
  · cases h; exact ok26
  · cases h; exact ok27
  · cases h; exact ok31
  · cases h; exact ok39
  · cases h; exact ok54
  · cases h; exact ok66
  · cases h; exact ok67
  · cases h; exact ok68
  · cases h; exact ok73
  · cases h; exact ok80
  · cases h; exact ok81
  · cases h; exact ok100
  · cases h
theorem mixed : Try.prog.follows .mixedOrders = true := by kernel_rfl
end Go.Proofs.Ytmoigffjpijpaab

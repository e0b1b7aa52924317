/- The table of types that the walks over pure values look into. -/
import Derived.Test.YtmoigffjpijpaaaProg
import Derived.Test.YtmoigffjpijpaaaVC
namespace Go.Proofs.Ytmoigffjpijpaaa
open Go Go.PV
def tt : Tab
  | 2 => some ⟨.int .i64, 1, 8, (.int .i64 0)⟩
  | 3 => some ⟨.int .i64, 1, 8, (.int .i64 0)⟩
  | 4 => some ⟨.bool, 1, 1, (.bool false)⟩
  | 5 => some ⟨.int .u8, 1, 1, (.int .u8 0)⟩
  | 9 => some ⟨.str, 1, 16, (.string ⟨#[]⟩)⟩
  | 12 => some ⟨.int .u64, 1, 8, (.int .u64 0)⟩
  | 13 => some ⟨.struct [(0, 1, false), (1, 1, false)], 2, 24, (.agg #[(.string ⟨#[]⟩), (.int .u64 0)])⟩
  | 21 => some ⟨.int .i32, 1, 4, (.int .i32 0)⟩
  | 25 => some ⟨.slice 79, 1, 24, (.slice none 0 0)⟩
  | 26 => some ⟨.struct [(0, 1, false)], 1, 24, (.agg #[(.slice none 0 0)])⟩
  | 27 => some ⟨.struct [(0, 1, false)], 1, 24, (.agg #[(.slice none 0 0)])⟩
  | 31 => some ⟨.struct [(0, 1, false), (1, 1, false), (2, 1, false), (3, 1, false)], 4, 32, (.agg #[(.int .u8 0), (.int .i64 0), (.int .i64 0), (.int .i64 0)])⟩
  | 32 => some ⟨.struct [(0, 1, false), (1, 1, false), (2, 1, false), (3, 1, false)], 4, 32, (.agg #[(.int .u8 0), (.int .i64 0), (.int .i64 0), (.int .i64 0)])⟩
  | 34 => some ⟨.int .i64, 1, 8, (.int .i64 0)⟩
  | 39 => some ⟨.slice 45, 1, 24, (.slice none 0 0)⟩
  | 42 => some ⟨.slice 43, 1, 24, (.slice none 0 0)⟩
  | 43 => some ⟨.int .u64, 1, 8, (.int .u64 0)⟩
  | 44 => some ⟨.struct [(0, 4, true), (4, 1, false), (5, 1, false), (6, 1, false), (7, 1, false)], 8, 88, (.agg #[(.int .u8 0), (.int .i64 0), (.int .i64 0), (.int .i64 0), (.bool false), (.slice none 0 0), (.int .u64 0), (.string ⟨#[]⟩)])⟩
  | 45 => some ⟨.struct [(0, 4, true), (4, 1, false), (5, 1, false), (6, 1, false), (7, 1, false)], 8, 88, (.agg #[(.int .u8 0), (.int .i64 0), (.int .i64 0), (.int .i64 0), (.bool false), (.slice none 0 0), (.int .u64 0), (.string ⟨#[]⟩)])⟩
  | 55 => some ⟨.slice 5, 1, 24, (.slice none 0 0)⟩
  | 56 => some ⟨.int .u64, 1, 8, (.int .u64 0)⟩
  | 64 => some ⟨.slice 42, 1, 24, (.slice none 0 0)⟩
  | 72 => some ⟨.slice 9, 1, 24, (.slice none 0 0)⟩
  | 78 => some ⟨.struct [(0, 1, false), (1, 1, false), (2, 1, false), (3, 1, false), (4, 1, false), (5, 1, false)], 6, 56, (.agg #[(.int .i64 0), (.int .i64 0), (.int .i64 0), (.int .i64 0), (.int .u64 0), (.string ⟨#[]⟩)])⟩
  | 79 => some ⟨.struct [(0, 1, false), (1, 1, false), (2, 1, false), (3, 1, false), (4, 1, false), (5, 1, false)], 6, 56, (.agg #[(.int .i64 0), (.int .i64 0), (.int .i64 0), (.int .i64 0), (.int .u64 0), (.string ⟨#[]⟩)])⟩
  | 86 => some ⟨.ptr 88, 1, 8, (.pointer none)⟩
  | 87 => some ⟨.struct [(0, 1, false), (1, 1, false)], 2, 32, (.agg #[(.pointer none), (.slice none 0 0)])⟩
  | 88 => some ⟨.struct [(0, 1, false), (1, 1, false)], 2, 32, (.agg #[(.pointer none), (.slice none 0 0)])⟩
  | 94 => some ⟨.slice 3, 1, 24, (.slice none 0 0)⟩
  | 118 => some ⟨.ptr 5, 1, 8, (.pointer none)⟩
  | 129 => some ⟨.slice 132, 1, 24, (.slice none 0 0)⟩
  | 131 => some ⟨.struct [(0, 1, false), (1, 1, false)], 2, 16, (.agg #[(.int .i64 0), (.int .i64 0)])⟩
  | 132 => some ⟨.struct [(0, 1, false), (1, 1, false)], 2, 16, (.agg #[(.int .i64 0), (.int .i64 0)])⟩
  | 133 => some ⟨.int .u32, 1, 4, (.int .u32 0)⟩
  | 163 => some ⟨.struct [(0, 1, false)], 1, 16, (.agg #[(.string ⟨#[]⟩)])⟩
  | _ => none

theorem tt2 : tt 2 = some ⟨.int .i64, 1, 8, (.int .i64 0)⟩ := rfl -- int64
theorem tt3 : tt 3 = some ⟨.int .i64, 1, 8, (.int .i64 0)⟩ := rfl -- int
theorem tt4 : tt 4 = some ⟨.bool, 1, 1, (.bool false)⟩ := rfl -- bool
theorem tt5 : tt 5 = some ⟨.int .u8, 1, 1, (.int .u8 0)⟩ := rfl -- uint8
theorem tt9 : tt 9 = some ⟨.str, 1, 16, (.string ⟨#[]⟩)⟩ := rfl -- string
theorem tt12 : tt 12 = some ⟨.int .u64, 1, 8, (.int .u64 0)⟩ := rfl -- uintptr
theorem tt13 : tt 13 = some ⟨.struct [(0, 1, false), (1, 1, false)], 2, 24, (.agg #[(.string ⟨#[]⟩), (.int .u64 0)])⟩ := rfl -- struct { msg string; addr uintptr }
theorem tt21 : tt 21 = some ⟨.int .i32, 1, 4, (.int .i32 0)⟩ := rfl -- int32
theorem tt25 : tt 25 = some ⟨.slice 79, 1, 24, (.slice none 0 0)⟩ := rfl -- []api.Node
theorem tt26 : tt 26 = some ⟨.struct [(0, 1, false)], 1, 24, (.agg #[(.slice none 0 0)])⟩ := rfl -- struct { Nodes []api.Node }
theorem tt27 : tt 27 = some ⟨.struct [(0, 1, false)], 1, 24, (.agg #[(.slice none 0 0)])⟩ := rfl -- api.Tree = abacus/api.Tree
theorem tt31 : tt 31 = some ⟨.struct [(0, 1, false), (1, 1, false), (2, 1, false), (3, 1, false)], 4, 32, (.agg #[(.int .u8 0), (.int .i64 0), (.int .i64 0), (.int .i64 0)])⟩ := rfl -- struct { Verb uint8; Flags int; Width int; Prec int }
theorem tt32 : tt 32 = some ⟨.struct [(0, 1, false), (1, 1, false), (2, 1, false), (3, 1, false)], 4, 32, (.agg #[(.int .u8 0), (.int .i64 0), (.int .i64 0), (.int .i64 0)])⟩ := rfl -- api.Spec = abacus/api.Spec
theorem tt34 : tt 34 = some ⟨.int .i64, 1, 8, (.int .i64 0)⟩ := rfl -- api.Errno = abacus/api.Errno
theorem tt39 : tt 39 = some ⟨.slice 45, 1, 24, (.slice none 0 0)⟩ := rfl -- []abacuslaw14.Ask
theorem tt42 : tt 42 = some ⟨.slice 43, 1, 24, (.slice none 0 0)⟩ := rfl -- []uint64
theorem tt43 : tt 43 = some ⟨.int .u64, 1, 8, (.int .u64 0)⟩ := rfl -- uint64
theorem tt44 : tt 44 = some ⟨.struct [(0, 4, true), (4, 1, false), (5, 1, false), (6, 1, false), (7, 1, false)], 8, 88, (.agg #[(.int .u8 0), (.int .i64 0), (.int .i64 0), (.int .i64 0), (.bool false), (.slice none 0 0), (.int .u64 0), (.string ⟨#[]⟩)])⟩ := rfl -- struct { S api.Spec; Neg bool; N []uint64; U uint64; T string }
theorem tt45 : tt 45 = some ⟨.struct [(0, 4, true), (4, 1, false), (5, 1, false), (6, 1, false), (7, 1, false)], 8, 88, (.agg #[(.int .u8 0), (.int .i64 0), (.int .i64 0), (.int .i64 0), (.bool false), (.slice none 0 0), (.int .u64 0), (.string ⟨#[]⟩)])⟩ := rfl -- abacuslaw14.Ask = abacus/abacuslaw14.Ask
theorem tt55 : tt 55 = some ⟨.slice 5, 1, 24, (.slice none 0 0)⟩ := rfl -- []uint8
theorem tt56 : tt 56 = some ⟨.int .u64, 1, 8, (.int .u64 0)⟩ := rfl -- uint
theorem tt64 : tt 64 = some ⟨.slice 42, 1, 24, (.slice none 0 0)⟩ := rfl -- [][]uint64
theorem tt72 : tt 72 = some ⟨.slice 9, 1, 24, (.slice none 0 0)⟩ := rfl -- []string
theorem tt78 : tt 78 = some ⟨.struct [(0, 1, false), (1, 1, false), (2, 1, false), (3, 1, false), (4, 1, false), (5, 1, false)], 6, 56, (.agg #[(.int .i64 0), (.int .i64 0), (.int .i64 0), (.int .i64 0), (.int .u64 0), (.string ⟨#[]⟩)])⟩ := rfl -- struct { Kind int; Op int; Ref int; N int; Num uint64; Str string }
theorem tt79 : tt 79 = some ⟨.struct [(0, 1, false), (1, 1, false), (2, 1, false), (3, 1, false), (4, 1, false), (5, 1, false)], 6, 56, (.agg #[(.int .i64 0), (.int .i64 0), (.int .i64 0), (.int .i64 0), (.int .u64 0), (.string ⟨#[]⟩)])⟩ := rfl -- api.Node = abacus/api.Node
theorem tt86 : tt 86 = some ⟨.ptr 88, 1, 8, (.pointer none)⟩ := rfl -- *strings.Builder
theorem tt87 : tt 87 = some ⟨.struct [(0, 1, false), (1, 1, false)], 2, 32, (.agg #[(.pointer none), (.slice none 0 0)])⟩ := rfl -- struct { addr *strings.Builder; buf []uint8 }
theorem tt88 : tt 88 = some ⟨.struct [(0, 1, false), (1, 1, false)], 2, 32, (.agg #[(.pointer none), (.slice none 0 0)])⟩ := rfl -- strings.Builder
theorem tt94 : tt 94 = some ⟨.slice 3, 1, 24, (.slice none 0 0)⟩ := rfl -- []int
theorem tt118 : tt 118 = some ⟨.ptr 5, 1, 8, (.pointer none)⟩ := rfl -- *uint8
theorem tt129 : tt 129 = some ⟨.slice 132, 1, 24, (.slice none 0 0)⟩ := rfl -- []tree.subtree
theorem tt131 : tt 131 = some ⟨.struct [(0, 1, false), (1, 1, false)], 2, 16, (.agg #[(.int .i64 0), (.int .i64 0)])⟩ := rfl -- struct { root int; depth int }
theorem tt132 : tt 132 = some ⟨.struct [(0, 1, false), (1, 1, false)], 2, 16, (.agg #[(.int .i64 0), (.int .i64 0)])⟩ := rfl -- tree.subtree = abacus/tree.subtree
theorem tt133 : tt 133 = some ⟨.int .u32, 1, 4, (.int .u32 0)⟩ := rfl -- uint32
theorem tt163 : tt 163 = some ⟨.struct [(0, 1, false)], 1, 16, (.agg #[(.string ⟨#[]⟩)])⟩ := rfl -- struct { s string }
theorem ok2 : TIOk Try.prog 2 ⟨.int .i64, 1, 8, (.int .i64 0)⟩ := ⟨by kernel_rfl, by kernel_rfl, by kernel_rfl⟩
theorem ok3 : TIOk Try.prog 3 ⟨.int .i64, 1, 8, (.int .i64 0)⟩ := ⟨by kernel_rfl, by kernel_rfl, by kernel_rfl⟩
theorem ok4 : TIOk Try.prog 4 ⟨.bool, 1, 1, (.bool false)⟩ := ⟨by kernel_rfl, by kernel_rfl, by kernel_rfl⟩
theorem ok5 : TIOk Try.prog 5 ⟨.int .u8, 1, 1, (.int .u8 0)⟩ := ⟨by kernel_rfl, by kernel_rfl, by kernel_rfl⟩
theorem ok9 : TIOk Try.prog 9 ⟨.str, 1, 16, (.string ⟨#[]⟩)⟩ := ⟨by kernel_rfl, by kernel_rfl, by kernel_rfl⟩
theorem ok12 : TIOk Try.prog 12 ⟨.int .u64, 1, 8, (.int .u64 0)⟩ := ⟨by kernel_rfl, by kernel_rfl, by kernel_rfl⟩
theorem ok13 : TIOk Try.prog 13 ⟨.struct [(0, 1, false), (1, 1, false)], 2, 24, (.agg #[(.string ⟨#[]⟩), (.int .u64 0)])⟩ := ⟨by kernel_rfl, by kernel_rfl, by kernel_rfl⟩
theorem ok21 : TIOk Try.prog 21 ⟨.int .i32, 1, 4, (.int .i32 0)⟩ := ⟨by kernel_rfl, by kernel_rfl, by kernel_rfl⟩
theorem ok25 : TIOk Try.prog 25 ⟨.slice 79, 1, 24, (.slice none 0 0)⟩ := ⟨by kernel_rfl, by kernel_rfl, by kernel_rfl⟩
theorem ok26 : TIOk Try.prog 26 ⟨.struct [(0, 1, false)], 1, 24, (.agg #[(.slice none 0 0)])⟩ := ⟨by kernel_rfl, by kernel_rfl, by kernel_rfl⟩
theorem ok27 : TIOk Try.prog 27 ⟨.struct [(0, 1, false)], 1, 24, (.agg #[(.slice none 0 0)])⟩ := ⟨by kernel_rfl, by kernel_rfl, by kernel_rfl⟩
theorem ok31 : TIOk Try.prog 31 ⟨.struct [(0, 1, false), (1, 1, false), (2, 1, false), (3, 1, false)], 4, 32, (.agg #[(.int .u8 0), (.int .i64 0), (.int .i64 0), (.int .i64 0)])⟩ := ⟨by kernel_rfl, by kernel_rfl, by kernel_rfl⟩
theorem ok32 : TIOk Try.prog 32 ⟨.struct [(0, 1, false), (1, 1, false), (2, 1, false), (3, 1, false)], 4, 32, (.agg #[(.int .u8 0), (.int .i64 0), (.int .i64 0), (.int .i64 0)])⟩ := ⟨by kernel_rfl, by kernel_rfl, by kernel_rfl⟩
theorem ok34 : TIOk Try.prog 34 ⟨.int .i64, 1, 8, (.int .i64 0)⟩ := ⟨by kernel_rfl, by kernel_rfl, by kernel_rfl⟩
theorem ok39 : TIOk Try.prog 39 ⟨.slice 45, 1, 24, (.slice none 0 0)⟩ := ⟨by kernel_rfl, by kernel_rfl, by kernel_rfl⟩
theorem ok42 : TIOk Try.prog 42 ⟨.slice 43, 1, 24, (.slice none 0 0)⟩ := ⟨by kernel_rfl, by kernel_rfl, by kernel_rfl⟩
theorem ok43 : TIOk Try.prog 43 ⟨.int .u64, 1, 8, (.int .u64 0)⟩ := ⟨by kernel_rfl, by kernel_rfl, by kernel_rfl⟩
theorem ok44 : TIOk Try.prog 44 ⟨.struct [(0, 4, true), (4, 1, false), (5, 1, false), (6, 1, false), (7, 1, false)], 8, 88, (.agg #[(.int .u8 0), (.int .i64 0), (.int .i64 0), (.int .i64 0), (.bool false), (.slice none 0 0), (.int .u64 0), (.string ⟨#[]⟩)])⟩ := ⟨by kernel_rfl, by kernel_rfl, by kernel_rfl⟩
theorem ok45 : TIOk Try.prog 45 ⟨.struct [(0, 4, true), (4, 1, false), (5, 1, false), (6, 1, false), (7, 1, false)], 8, 88, (.agg #[(.int .u8 0), (.int .i64 0), (.int .i64 0), (.int .i64 0), (.bool false), (.slice none 0 0), (.int .u64 0), (.string ⟨#[]⟩)])⟩ := ⟨by kernel_rfl, by kernel_rfl, by kernel_rfl⟩
theorem ok55 : TIOk Try.prog 55 ⟨.slice 5, 1, 24, (.slice none 0 0)⟩ := ⟨by kernel_rfl, by kernel_rfl, by kernel_rfl⟩
theorem ok56 : TIOk Try.prog 56 ⟨.int .u64, 1, 8, (.int .u64 0)⟩ := ⟨by kernel_rfl, by kernel_rfl, by kernel_rfl⟩
theorem ok64 : TIOk Try.prog 64 ⟨.slice 42, 1, 24, (.slice none 0 0)⟩ := ⟨by kernel_rfl, by kernel_rfl, by kernel_rfl⟩
theorem ok72 : TIOk Try.prog 72 ⟨.slice 9, 1, 24, (.slice none 0 0)⟩ := ⟨by kernel_rfl, by kernel_rfl, by kernel_rfl⟩
theorem ok78 : TIOk Try.prog 78 ⟨.struct [(0, 1, false), (1, 1, false), (2, 1, false), (3, 1, false), (4, 1, false), (5, 1, false)], 6, 56, (.agg #[(.int .i64 0), (.int .i64 0), (.int .i64 0), (.int .i64 0), (.int .u64 0), (.string ⟨#[]⟩)])⟩ := ⟨by kernel_rfl, by kernel_rfl, by kernel_rfl⟩
theorem ok79 : TIOk Try.prog 79 ⟨.struct [(0, 1, false), (1, 1, false), (2, 1, false), (3, 1, false), (4, 1, false), (5, 1, false)], 6, 56, (.agg #[(.int .i64 0), (.int .i64 0), (.int .i64 0), (.int .i64 0), (.int .u64 0), (.string ⟨#[]⟩)])⟩ := ⟨by kernel_rfl, by kernel_rfl, by kernel_rfl⟩
theorem ok86 : TIOk Try.prog 86 ⟨.ptr 88, 1, 8, (.pointer none)⟩ := ⟨by kernel_rfl, by kernel_rfl, by kernel_rfl⟩
theorem ok87 : TIOk Try.prog 87 ⟨.struct [(0, 1, false), (1, 1, false)], 2, 32, (.agg #[(.pointer none), (.slice none 0 0)])⟩ := ⟨by kernel_rfl, by kernel_rfl, by kernel_rfl⟩
theorem ok88 : TIOk Try.prog 88 ⟨.struct [(0, 1, false), (1, 1, false)], 2, 32, (.agg #[(.pointer none), (.slice none 0 0)])⟩ := ⟨by kernel_rfl, by kernel_rfl, by kernel_rfl⟩
theorem ok94 : TIOk Try.prog 94 ⟨.slice 3, 1, 24, (.slice none 0 0)⟩ := ⟨by kernel_rfl, by kernel_rfl, by kernel_rfl⟩
theorem ok118 : TIOk Try.prog 118 ⟨.ptr 5, 1, 8, (.pointer none)⟩ := ⟨by kernel_rfl, by kernel_rfl, by kernel_rfl⟩
theorem ok129 : TIOk Try.prog 129 ⟨.slice 132, 1, 24, (.slice none 0 0)⟩ := ⟨by kernel_rfl, by kernel_rfl, by kernel_rfl⟩
theorem ok131 : TIOk Try.prog 131 ⟨.struct [(0, 1, false), (1, 1, false)], 2, 16, (.agg #[(.int .i64 0), (.int .i64 0)])⟩ := ⟨by kernel_rfl, by kernel_rfl, by kernel_rfl⟩
theorem ok132 : TIOk Try.prog 132 ⟨.struct [(0, 1, false), (1, 1, false)], 2, 16, (.agg #[(.int .i64 0), (.int .i64 0)])⟩ := ⟨by kernel_rfl, by kernel_rfl, by kernel_rfl⟩
theorem ok133 : TIOk Try.prog 133 ⟨.int .u32, 1, 4, (.int .u32 0)⟩ := ⟨by kernel_rfl, by kernel_rfl, by kernel_rfl⟩
theorem ok163 : TIOk Try.prog 163 ⟨.struct [(0, 1, false)], 1, 16, (.agg #[(.string ⟨#[]⟩)])⟩ := ⟨by kernel_rfl, by kernel_rfl, by kernel_rfl⟩

theorem ttOk : TabOk Try.prog tt := by
  intro t ti h
  unfold tt at h
  split at h
  · cases h; exact ok2
  · cases h; exact ok3
  · cases h; exact ok4
  · cases h; exact ok5
  · cases h; exact ok9
  · cases h; exact ok12
  · cases h; exact ok13
  · cases h; exact ok21
  · cases h; exact ok25
  · cases h; exact ok26
  · cases h; exact ok27
  · cases h; exact ok31
  · cases h; exact ok32
  · cases h; exact ok34
  · cases h; exact ok39
  · cases h; exact ok42
  · cases h; exact ok43
  · cases h; exact ok44
  · cases h; exact ok45
  · cases h; exact ok55
  · cases h; exact ok56
  · cases h; exact ok64
  · cases h; exact ok72
  · cases h; exact ok78
  · cases h; exact ok79
  · cases h; exact ok86
  · cases h; exact ok87
  · cases h; exact ok88
  · cases h; exact ok94
  · cases h; exact ok118
  · cases h; exact ok129
  · cases h; exact ok131
  · cases h; exact ok132
  · cases h; exact ok133
  · cases h; exact ok163
  · cases h
theorem mixed : Try.prog.follows .mixedOrders = true := by kernel_rfl
end Go.Proofs.Ytmoigffjpijpaaa

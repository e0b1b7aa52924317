/- Contracts and laws that the row leans on, part 4: texts that were built one by one, laid together. -/
import Derived.Test.YtbmhnjghpjkjpaaGreatDoorProg
import Derived.Test.YtbmhnjghpjkjpaaGreatDoorPart3
import Derived.Shelf.RegionOpenPlain
import Derived.Lib.Strings
import Derived.Lib.Slices
import Derived.Lib.Walk
import Derived.Lib.Builder
import Derived.Lib.UnsafeStr
import Derived.WalkKit
import Derived.Laws.Externs
namespace Go.Proofs.YtbmhnjghpjkjpaaGreatDoor
open Go Go.PV
def tt : Tab
  | 2 => some ⟨.int .i64, 1, 8, (.int .i64 0), []⟩
  | 3 => some ⟨.int .i64, 1, 8, (.int .i64 0), []⟩
  | 4 => some ⟨.bool, 1, 1, (.bool false), []⟩
  | 5 => some ⟨.int .u8, 1, 1, (.int .u8 0), []⟩
  | 9 => some ⟨.str, 1, 16, (.string ⟨#[]⟩), []⟩
  | 12 => some ⟨.int .u64, 1, 8, (.int .u64 0), []⟩
  | 13 => some ⟨.struct [(0, 1, false), (1, 1, false)], 2, 24, (.agg #[(.string ⟨#[]⟩), (.int .u64 0)]), []⟩
  | 20 => some ⟨.iface, 1, 16, .nilIface, []⟩
  | 21 => some ⟨.int .i32, 1, 4, (.int .i32 0), []⟩
  | 23 => some ⟨.slice 5, 1, 24, (.slice none 0 0), []⟩
  | 24 => some ⟨.struct [(0, 1, false), (1, 1, false), (2, 1, false), (3, 1, false), (4, 1, false)], 5, 56, (.agg #[(.bool false), (.slice none 0 0), (.int .i64 0), (.int .i64 0), (.bool false)]), []⟩
  | 25 => some ⟨.struct [(0, 1, false), (1, 1, false), (2, 1, false), (3, 1, false), (4, 1, false)], 5, 56, (.agg #[(.bool false), (.slice none 0 0), (.int .i64 0), (.int .i64 0), (.bool false)]), []⟩
  | 27 => some ⟨.int .u64, 1, 8, (.int .u64 0), []⟩
  | 30 => some ⟨.int .u64, 1, 8, (.int .u64 0), []⟩
  | 34 => some ⟨.struct [(0, 1, false), (1, 1, false), (2, 1, false)], 3, 32, (.agg #[(.bool false), (.string ⟨#[]⟩), (.int .i64 0)]), [.b, .s, .i]⟩
  | 35 => some ⟨.struct [(0, 1, false), (1, 1, false), (2, 1, false)], 3, 32, (.agg #[(.bool false), (.string ⟨#[]⟩), (.int .i64 0)]), [.b, .s, .i]⟩
  | 38 => some ⟨.int .i64, 1, 8, (.int .i64 0), []⟩
  | 43 => some ⟨.slice 93, 1, 24, (.slice none 0 0), []⟩
  | 54 => some ⟨.slice 27, 1, 24, (.slice none 0 0), []⟩
  | 59 => some ⟨.struct [(0, 1, false), (1, 1, false), (2, 1, false), (3, 1, false)], 4, 32, (.agg #[(.bool false), (.int .i64 0), (.int .u64 0), (.int .i64 0)]), [.b, .i, .i, .i]⟩
  | 60 => some ⟨.struct [(0, 1, false), (1, 1, false), (2, 1, false), (3, 1, false)], 4, 32, (.agg #[(.bool false), (.int .i64 0), (.int .u64 0), (.int .i64 0)]), [.b, .i, .i, .i]⟩
  | 63 => some ⟨.slice 65, 1, 24, (.slice none 0 0), []⟩
  | 64 => some ⟨.struct [(0, 1, false), (1, 3, true), (4, 1, false)], 5, 56, (.agg #[(.int .i64 0), (.bool false), (.string ⟨#[]⟩), (.int .i64 0), (.string ⟨#[]⟩)]), []⟩
  | 65 => some ⟨.struct [(0, 1, false), (1, 3, true), (4, 1, false)], 5, 56, (.agg #[(.int .i64 0), (.bool false), (.string ⟨#[]⟩), (.int .i64 0), (.string ⟨#[]⟩)]), []⟩
  | 68 => some ⟨.int .u16, 1, 2, (.int .u16 0), []⟩
  | 88 => some ⟨.struct [], 0, 0, (.agg #[]), []⟩
  | 89 => some ⟨.struct [], 0, 0, (.agg #[]), []⟩
  | 90 => some ⟨.struct [], 0, 0, (.agg #[]), []⟩
  | 92 => some ⟨.struct [(0, 1, false), (1, 1, false), (2, 1, false), (3, 3, true)], 6, 56, (.agg #[(.int .i64 0), (.int .u64 0), (.int .i64 0), (.bool false), (.string ⟨#[]⟩), (.int .i64 0)]), []⟩
  | 93 => some ⟨.struct [(0, 1, false), (1, 1, false), (2, 1, false), (3, 3, true)], 6, 56, (.agg #[(.int .i64 0), (.int .u64 0), (.int .i64 0), (.bool false), (.string ⟨#[]⟩), (.int .i64 0)]), []⟩
  | 125 => some ⟨.slice 127, 1, 24, (.slice none 0 0), []⟩
  | 126 => some ⟨.iface, 1, 16, .nilIface, []⟩
  | 127 => some ⟨.iface, 1, 16, .nilIface, []⟩
  | 131 => some ⟨.arr 2 27 [(0, 1, false), (1, 1, false)], 2, 16, (.agg #[(.int .u64 0), (.int .u64 0)]), [.i, .i]⟩
  | 132 => some ⟨.arr 2 27 [(0, 1, false), (1, 1, false)], 2, 16, (.agg #[(.int .u64 0), (.int .u64 0)]), [.i, .i]⟩
  | 157 => some ⟨.ptr 153, 1, 8, (.pointer none), []⟩
  | 158 => some ⟨.arr 20 27 [(0, 1, false), (1, 1, false), (2, 1, false), (3, 1, false), (4, 1, false), (5, 1, false), (6, 1, false), (7, 1, false), (8, 1, false), (9, 1, false), (10, 1, false), (11, 1, false), (12, 1, false), (13, 1, false), (14, 1, false), (15, 1, false), (16, 1, false), (17, 1, false), (18, 1, false), (19, 1, false)], 20, 160, (.agg #[(.int .u64 0), (.int .u64 0), (.int .u64 0), (.int .u64 0), (.int .u64 0), (.int .u64 0), (.int .u64 0), (.int .u64 0), (.int .u64 0), (.int .u64 0), (.int .u64 0), (.int .u64 0), (.int .u64 0), (.int .u64 0), (.int .u64 0), (.int .u64 0), (.int .u64 0), (.int .u64 0), (.int .u64 0), (.int .u64 0)]), [.i, .i, .i, .i, .i, .i, .i, .i, .i, .i, .i, .i, .i, .i, .i, .i, .i, .i, .i, .i]⟩
  | 175 => some ⟨.ptr 177, 1, 8, (.pointer none), []⟩
  | 176 => some ⟨.struct [(0, 1, false), (1, 1, false)], 2, 32, (.agg #[(.pointer none), (.slice none 0 0)]), []⟩
  | 177 => some ⟨.struct [(0, 1, false), (1, 1, false)], 2, 32, (.agg #[(.pointer none), (.slice none 0 0)]), []⟩
  | 178 => some ⟨.iface, 1, 16, .nilIface, []⟩
  | 179 => some ⟨.iface, 1, 16, .nilIface, []⟩
  | 189 => some ⟨.ptr 5, 1, 8, (.pointer none), []⟩
  | 192 => some ⟨.struct [(0, 1, false), (1, 1, false), (2, 1, false)], 3, 40, (.agg #[(.bool false), (.slice none 0 0), (.int .i64 0)]), []⟩
  | 193 => some ⟨.struct [(0, 1, false), (1, 1, false), (2, 1, false)], 3, 40, (.agg #[(.bool false), (.slice none 0 0), (.int .i64 0)]), []⟩
  | 195 => some ⟨.struct [(0, 1, false), (1, 1, false), (2, 1, false), (3, 1, false)], 4, 64, (.agg #[(.bool false), (.slice none 0 0), (.slice none 0 0), (.int .i64 0)]), []⟩
  | 196 => some ⟨.struct [(0, 1, false), (1, 1, false), (2, 1, false), (3, 1, false)], 4, 64, (.agg #[(.bool false), (.slice none 0 0), (.slice none 0 0), (.int .i64 0)]), []⟩
  | 203 => some ⟨.int .u32, 1, 4, (.int .u32 0), []⟩
  | 204 => some ⟨.arr 5 3 [(0, 1, false), (1, 1, false), (2, 1, false), (3, 1, false), (4, 1, false)], 5, 40, (.agg #[(.int .i64 0), (.int .i64 0), (.int .i64 0), (.int .i64 0), (.int .i64 0)]), [.i, .i, .i, .i, .i]⟩
  | 205 => some ⟨.arr 9 204 [(0, 5, true), (5, 5, true), (10, 5, true), (15, 5, true), (20, 5, true), (25, 5, true), (30, 5, true), (35, 5, true), (40, 5, true)], 45, 360, (.agg #[(.int .i64 0), (.int .i64 0), (.int .i64 0), (.int .i64 0), (.int .i64 0), (.int .i64 0), (.int .i64 0), (.int .i64 0), (.int .i64 0), (.int .i64 0), (.int .i64 0), (.int .i64 0), (.int .i64 0), (.int .i64 0), (.int .i64 0), (.int .i64 0), (.int .i64 0), (.int .i64 0), (.int .i64 0), (.int .i64 0), (.int .i64 0), (.int .i64 0), (.int .i64 0), (.int .i64 0), (.int .i64 0), (.int .i64 0), (.int .i64 0), (.int .i64 0), (.int .i64 0), (.int .i64 0), (.int .i64 0), (.int .i64 0), (.int .i64 0), (.int .i64 0), (.int .i64 0), (.int .i64 0), (.int .i64 0), (.int .i64 0), (.int .i64 0), (.int .i64 0), (.int .i64 0), (.int .i64 0), (.int .i64 0), (.int .i64 0), (.int .i64 0)]), []⟩
  | 213 => some ⟨.slice 54, 1, 24, (.slice none 0 0), []⟩
  | 220 => some ⟨.struct [(0, 1, false), (1, 1, false)], 2, 2, (.agg #[(.int .u8 0), (.int .u8 0)]), [.i, .i]⟩
  | 221 => some ⟨.struct [(0, 1, false), (1, 1, false)], 2, 2, (.agg #[(.int .u8 0), (.int .u8 0)]), [.i, .i]⟩
  | 222 => some ⟨.arr 16 221 [(0, 2, true), (2, 2, true), (4, 2, true), (6, 2, true), (8, 2, true), (10, 2, true), (12, 2, true), (14, 2, true), (16, 2, true), (18, 2, true), (20, 2, true), (22, 2, true), (24, 2, true), (26, 2, true), (28, 2, true), (30, 2, true)], 32, 32, (.agg #[(.int .u8 0), (.int .u8 0), (.int .u8 0), (.int .u8 0), (.int .u8 0), (.int .u8 0), (.int .u8 0), (.int .u8 0), (.int .u8 0), (.int .u8 0), (.int .u8 0), (.int .u8 0), (.int .u8 0), (.int .u8 0), (.int .u8 0), (.int .u8 0), (.int .u8 0), (.int .u8 0), (.int .u8 0), (.int .u8 0), (.int .u8 0), (.int .u8 0), (.int .u8 0), (.int .u8 0), (.int .u8 0), (.int .u8 0), (.int .u8 0), (.int .u8 0), (.int .u8 0), (.int .u8 0), (.int .u8 0), (.int .u8 0)]), []⟩
  | 240 => some ⟨.struct [(0, 1, false)], 1, 16, (.agg #[(.string ⟨#[]⟩)]), [.s]⟩
  | _ => none
theorem ok2 : TIOk Tryz.prog 2 ⟨.int .i64, 1, 8, (.int .i64 0), []⟩ := ⟨by kernel_rfl, by kernel_rfl, by kernel_rfl, by kernel_rfl⟩
theorem ok3 : TIOk Tryz.prog 3 ⟨.int .i64, 1, 8, (.int .i64 0), []⟩ := ⟨by kernel_rfl, by kernel_rfl, by kernel_rfl, by kernel_rfl⟩
theorem ok4 : TIOk Tryz.prog 4 ⟨.bool, 1, 1, (.bool false), []⟩ := ⟨by kernel_rfl, by kernel_rfl, by kernel_rfl, by kernel_rfl⟩
theorem ok5 : TIOk Tryz.prog 5 ⟨.int .u8, 1, 1, (.int .u8 0), []⟩ := ⟨by kernel_rfl, by kernel_rfl, by kernel_rfl, by kernel_rfl⟩
theorem ok9 : TIOk Tryz.prog 9 ⟨.str, 1, 16, (.string ⟨#[]⟩), []⟩ := ⟨by kernel_rfl, by kernel_rfl, by kernel_rfl, by kernel_rfl⟩
theorem ok12 : TIOk Tryz.prog 12 ⟨.int .u64, 1, 8, (.int .u64 0), []⟩ := ⟨by kernel_rfl, by kernel_rfl, by kernel_rfl, by kernel_rfl⟩
theorem ok13 : TIOk Tryz.prog 13 ⟨.struct [(0, 1, false), (1, 1, false)], 2, 24, (.agg #[(.string ⟨#[]⟩), (.int .u64 0)]), []⟩ := ⟨by kernel_rfl, by kernel_rfl, by kernel_rfl, by kernel_rfl⟩
theorem ok20 : TIOk Tryz.prog 20 ⟨.iface, 1, 16, .nilIface, []⟩ := ⟨by kernel_rfl, by kernel_rfl, by kernel_rfl, by kernel_rfl⟩
theorem ok21 : TIOk Tryz.prog 21 ⟨.int .i32, 1, 4, (.int .i32 0), []⟩ := ⟨by kernel_rfl, by kernel_rfl, by kernel_rfl, by kernel_rfl⟩
theorem ok23 : TIOk Tryz.prog 23 ⟨.slice 5, 1, 24, (.slice none 0 0), []⟩ := ⟨by kernel_rfl, by kernel_rfl, by kernel_rfl, by kernel_rfl⟩
theorem ok24 : TIOk Tryz.prog 24 ⟨.struct [(0, 1, false), (1, 1, false), (2, 1, false), (3, 1, false), (4, 1, false)], 5, 56, (.agg #[(.bool false), (.slice none 0 0), (.int .i64 0), (.int .i64 0), (.bool false)]), []⟩ := ⟨by kernel_rfl, by kernel_rfl, by kernel_rfl, by kernel_rfl⟩
theorem ok25 : TIOk Tryz.prog 25 ⟨.struct [(0, 1, false), (1, 1, false), (2, 1, false), (3, 1, false), (4, 1, false)], 5, 56, (.agg #[(.bool false), (.slice none 0 0), (.int .i64 0), (.int .i64 0), (.bool false)]), []⟩ := ⟨by kernel_rfl, by kernel_rfl, by kernel_rfl, by kernel_rfl⟩
theorem ok27 : TIOk Tryz.prog 27 ⟨.int .u64, 1, 8, (.int .u64 0), []⟩ := ⟨by kernel_rfl, by kernel_rfl, by kernel_rfl, by kernel_rfl⟩
theorem ok30 : TIOk Tryz.prog 30 ⟨.int .u64, 1, 8, (.int .u64 0), []⟩ := ⟨by kernel_rfl, by kernel_rfl, by kernel_rfl, by kernel_rfl⟩
theorem ok34 : TIOk Tryz.prog 34 ⟨.struct [(0, 1, false), (1, 1, false), (2, 1, false)], 3, 32, (.agg #[(.bool false), (.string ⟨#[]⟩), (.int .i64 0)]), [.b, .s, .i]⟩ := ⟨by kernel_rfl, by kernel_rfl, by kernel_rfl, by kernel_rfl⟩
theorem ok35 : TIOk Tryz.prog 35 ⟨.struct [(0, 1, false), (1, 1, false), (2, 1, false)], 3, 32, (.agg #[(.bool false), (.string ⟨#[]⟩), (.int .i64 0)]), [.b, .s, .i]⟩ := ⟨by kernel_rfl, by kernel_rfl, by kernel_rfl, by kernel_rfl⟩
theorem ok38 : TIOk Tryz.prog 38 ⟨.int .i64, 1, 8, (.int .i64 0), []⟩ := ⟨by kernel_rfl, by kernel_rfl, by kernel_rfl, by kernel_rfl⟩
theorem ok43 : TIOk Tryz.prog 43 ⟨.slice 93, 1, 24, (.slice none 0 0), []⟩ := ⟨by kernel_rfl, by kernel_rfl, by kernel_rfl, by kernel_rfl⟩
theorem ok54 : TIOk Tryz.prog 54 ⟨.slice 27, 1, 24, (.slice none 0 0), []⟩ := ⟨by kernel_rfl, by kernel_rfl, by kernel_rfl, by kernel_rfl⟩
theorem ok59 : TIOk Tryz.prog 59 ⟨.struct [(0, 1, false), (1, 1, false), (2, 1, false), (3, 1, false)], 4, 32, (.agg #[(.bool false), (.int .i64 0), (.int .u64 0), (.int .i64 0)]), [.b, .i, .i, .i]⟩ := ⟨by kernel_rfl, by kernel_rfl, by kernel_rfl, by kernel_rfl⟩
theorem ok60 : TIOk Tryz.prog 60 ⟨.struct [(0, 1, false), (1, 1, false), (2, 1, false), (3, 1, false)], 4, 32, (.agg #[(.bool false), (.int .i64 0), (.int .u64 0), (.int .i64 0)]), [.b, .i, .i, .i]⟩ := ⟨by kernel_rfl, by kernel_rfl, by kernel_rfl, by kernel_rfl⟩
theorem ok63 : TIOk Tryz.prog 63 ⟨.slice 65, 1, 24, (.slice none 0 0), []⟩ := ⟨by kernel_rfl, by kernel_rfl, by kernel_rfl, by kernel_rfl⟩
theorem ok64 : TIOk Tryz.prog 64 ⟨.struct [(0, 1, false), (1, 3, true), (4, 1, false)], 5, 56, (.agg #[(.int .i64 0), (.bool false), (.string ⟨#[]⟩), (.int .i64 0), (.string ⟨#[]⟩)]), []⟩ := ⟨by kernel_rfl, by kernel_rfl, by kernel_rfl, by kernel_rfl⟩
theorem ok65 : TIOk Tryz.prog 65 ⟨.struct [(0, 1, false), (1, 3, true), (4, 1, false)], 5, 56, (.agg #[(.int .i64 0), (.bool false), (.string ⟨#[]⟩), (.int .i64 0), (.string ⟨#[]⟩)]), []⟩ := ⟨by kernel_rfl, by kernel_rfl, by kernel_rfl, by kernel_rfl⟩
theorem ok68 : TIOk Tryz.prog 68 ⟨.int .u16, 1, 2, (.int .u16 0), []⟩ := ⟨by kernel_rfl, by kernel_rfl, by kernel_rfl, by kernel_rfl⟩
theorem ok88 : TIOk Tryz.prog 88 ⟨.struct [], 0, 0, (.agg #[]), []⟩ := ⟨by kernel_rfl, by kernel_rfl, by kernel_rfl, by kernel_rfl⟩
theorem ok89 : TIOk Tryz.prog 89 ⟨.struct [], 0, 0, (.agg #[]), []⟩ := ⟨by kernel_rfl, by kernel_rfl, by kernel_rfl, by kernel_rfl⟩
theorem ok90 : TIOk Tryz.prog 90 ⟨.struct [], 0, 0, (.agg #[]), []⟩ := ⟨by kernel_rfl, by kernel_rfl, by kernel_rfl, by kernel_rfl⟩
theorem ok92 : TIOk Tryz.prog 92 ⟨.struct [(0, 1, false), (1, 1, false), (2, 1, false), (3, 3, true)], 6, 56, (.agg #[(.int .i64 0), (.int .u64 0), (.int .i64 0), (.bool false), (.string ⟨#[]⟩), (.int .i64 0)]), []⟩ := ⟨by kernel_rfl, by kernel_rfl, by kernel_rfl, by kernel_rfl⟩
theorem ok93 : TIOk Tryz.prog 93 ⟨.struct [(0, 1, false), (1, 1, false), (2, 1, false), (3, 3, true)], 6, 56, (.agg #[(.int .i64 0), (.int .u64 0), (.int .i64 0), (.bool false), (.string ⟨#[]⟩), (.int .i64 0)]), []⟩ := ⟨by kernel_rfl, by kernel_rfl, by kernel_rfl, by kernel_rfl⟩
theorem ok125 : TIOk Tryz.prog 125 ⟨.slice 127, 1, 24, (.slice none 0 0), []⟩ := ⟨by kernel_rfl, by kernel_rfl, by kernel_rfl, by kernel_rfl⟩
theorem ok126 : TIOk Tryz.prog 126 ⟨.iface, 1, 16, .nilIface, []⟩ := ⟨by kernel_rfl, by kernel_rfl, by kernel_rfl, by kernel_rfl⟩
theorem ok127 : TIOk Tryz.prog 127 ⟨.iface, 1, 16, .nilIface, []⟩ := ⟨by kernel_rfl, by kernel_rfl, by kernel_rfl, by kernel_rfl⟩
theorem ok131 : TIOk Tryz.prog 131 ⟨.arr 2 27 [(0, 1, false), (1, 1, false)], 2, 16, (.agg #[(.int .u64 0), (.int .u64 0)]), [.i, .i]⟩ := ⟨by kernel_rfl, by kernel_rfl, by kernel_rfl, by kernel_rfl⟩
theorem ok132 : TIOk Tryz.prog 132 ⟨.arr 2 27 [(0, 1, false), (1, 1, false)], 2, 16, (.agg #[(.int .u64 0), (.int .u64 0)]), [.i, .i]⟩ := ⟨by kernel_rfl, by kernel_rfl, by kernel_rfl, by kernel_rfl⟩
theorem ok157 : TIOk Tryz.prog 157 ⟨.ptr 153, 1, 8, (.pointer none), []⟩ := ⟨by kernel_rfl, by kernel_rfl, by kernel_rfl, by kernel_rfl⟩
theorem ok158 : TIOk Tryz.prog 158 ⟨.arr 20 27 [(0, 1, false), (1, 1, false), (2, 1, false), (3, 1, false), (4, 1, false), (5, 1, false), (6, 1, false), (7, 1, false), (8, 1, false), (9, 1, false), (10, 1, false), (11, 1, false), (12, 1, false), (13, 1, false), (14, 1, false), (15, 1, false), (16, 1, false), (17, 1, false), (18, 1, false), (19, 1, false)], 20, 160, (.agg #[(.int .u64 0), (.int .u64 0), (.int .u64 0), (.int .u64 0), (.int .u64 0), (.int .u64 0), (.int .u64 0), (.int .u64 0), (.int .u64 0), (.int .u64 0), (.int .u64 0), (.int .u64 0), (.int .u64 0), (.int .u64 0), (.int .u64 0), (.int .u64 0), (.int .u64 0), (.int .u64 0), (.int .u64 0), (.int .u64 0)]), [.i, .i, .i, .i, .i, .i, .i, .i, .i, .i, .i, .i, .i, .i, .i, .i, .i, .i, .i, .i]⟩ := ⟨by kernel_rfl, by kernel_rfl, by kernel_rfl, by kernel_rfl⟩
theorem ok175 : TIOk Tryz.prog 175 ⟨.ptr 177, 1, 8, (.pointer none), []⟩ := ⟨by kernel_rfl, by kernel_rfl, by kernel_rfl, by kernel_rfl⟩
theorem ok176 : TIOk Tryz.prog 176 ⟨.struct [(0, 1, false), (1, 1, false)], 2, 32, (.agg #[(.pointer none), (.slice none 0 0)]), []⟩ := ⟨by kernel_rfl, by kernel_rfl, by kernel_rfl, by kernel_rfl⟩
theorem ok177 : TIOk Tryz.prog 177 ⟨.struct [(0, 1, false), (1, 1, false)], 2, 32, (.agg #[(.pointer none), (.slice none 0 0)]), []⟩ := ⟨by kernel_rfl, by kernel_rfl, by kernel_rfl, by kernel_rfl⟩
theorem ok178 : TIOk Tryz.prog 178 ⟨.iface, 1, 16, .nilIface, []⟩ := ⟨by kernel_rfl, by kernel_rfl, by kernel_rfl, by kernel_rfl⟩
theorem ok179 : TIOk Tryz.prog 179 ⟨.iface, 1, 16, .nilIface, []⟩ := ⟨by kernel_rfl, by kernel_rfl, by kernel_rfl, by kernel_rfl⟩
theorem ok189 : TIOk Tryz.prog 189 ⟨.ptr 5, 1, 8, (.pointer none), []⟩ := ⟨by kernel_rfl, by kernel_rfl, by kernel_rfl, by kernel_rfl⟩
theorem ok192 : TIOk Tryz.prog 192 ⟨.struct [(0, 1, false), (1, 1, false), (2, 1, false)], 3, 40, (.agg #[(.bool false), (.slice none 0 0), (.int .i64 0)]), []⟩ := ⟨by kernel_rfl, by kernel_rfl, by kernel_rfl, by kernel_rfl⟩
theorem ok193 : TIOk Tryz.prog 193 ⟨.struct [(0, 1, false), (1, 1, false), (2, 1, false)], 3, 40, (.agg #[(.bool false), (.slice none 0 0), (.int .i64 0)]), []⟩ := ⟨by kernel_rfl, by kernel_rfl, by kernel_rfl, by kernel_rfl⟩
theorem ok195 : TIOk Tryz.prog 195 ⟨.struct [(0, 1, false), (1, 1, false), (2, 1, false), (3, 1, false)], 4, 64, (.agg #[(.bool false), (.slice none 0 0), (.slice none 0 0), (.int .i64 0)]), []⟩ := ⟨by kernel_rfl, by kernel_rfl, by kernel_rfl, by kernel_rfl⟩
theorem ok196 : TIOk Tryz.prog 196 ⟨.struct [(0, 1, false), (1, 1, false), (2, 1, false), (3, 1, false)], 4, 64, (.agg #[(.bool false), (.slice none 0 0), (.slice none 0 0), (.int .i64 0)]), []⟩ := ⟨by kernel_rfl, by kernel_rfl, by kernel_rfl, by kernel_rfl⟩
theorem ok203 : TIOk Tryz.prog 203 ⟨.int .u32, 1, 4, (.int .u32 0), []⟩ := ⟨by kernel_rfl, by kernel_rfl, by kernel_rfl, by kernel_rfl⟩
theorem ok204 : TIOk Tryz.prog 204 ⟨.arr 5 3 [(0, 1, false), (1, 1, false), (2, 1, false), (3, 1, false), (4, 1, false)], 5, 40, (.agg #[(.int .i64 0), (.int .i64 0), (.int .i64 0), (.int .i64 0), (.int .i64 0)]), [.i, .i, .i, .i, .i]⟩ := ⟨by kernel_rfl, by kernel_rfl, by kernel_rfl, by kernel_rfl⟩
theorem ok205 : TIOk Tryz.prog 205 ⟨.arr 9 204 [(0, 5, true), (5, 5, true), (10, 5, true), (15, 5, true), (20, 5, true), (25, 5, true), (30, 5, true), (35, 5, true), (40, 5, true)], 45, 360, (.agg #[(.int .i64 0), (.int .i64 0), (.int .i64 0), (.int .i64 0), (.int .i64 0), (.int .i64 0), (.int .i64 0), (.int .i64 0), (.int .i64 0), (.int .i64 0), (.int .i64 0), (.int .i64 0), (.int .i64 0), (.int .i64 0), (.int .i64 0), (.int .i64 0), (.int .i64 0), (.int .i64 0), (.int .i64 0), (.int .i64 0), (.int .i64 0), (.int .i64 0), (.int .i64 0), (.int .i64 0), (.int .i64 0), (.int .i64 0), (.int .i64 0), (.int .i64 0), (.int .i64 0), (.int .i64 0), (.int .i64 0), (.int .i64 0), (.int .i64 0), (.int .i64 0), (.int .i64 0), (.int .i64 0), (.int .i64 0), (.int .i64 0), (.int .i64 0), (.int .i64 0), (.int .i64 0), (.int .i64 0), (.int .i64 0), (.int .i64 0), (.int .i64 0)]), []⟩ := ⟨by kernel_rfl, by kernel_rfl, by kernel_rfl, by kernel_rfl⟩
theorem ok213 : TIOk Tryz.prog 213 ⟨.slice 54, 1, 24, (.slice none 0 0), []⟩ := ⟨by kernel_rfl, by kernel_rfl, by kernel_rfl, by kernel_rfl⟩
theorem ok220 : TIOk Tryz.prog 220 ⟨.struct [(0, 1, false), (1, 1, false)], 2, 2, (.agg #[(.int .u8 0), (.int .u8 0)]), [.i, .i]⟩ := ⟨by kernel_rfl, by kernel_rfl, by kernel_rfl, by kernel_rfl⟩
theorem ok221 : TIOk Tryz.prog 221 ⟨.struct [(0, 1, false), (1, 1, false)], 2, 2, (.agg #[(.int .u8 0), (.int .u8 0)]), [.i, .i]⟩ := ⟨by kernel_rfl, by kernel_rfl, by kernel_rfl, by kernel_rfl⟩
theorem ok222 : TIOk Tryz.prog 222 ⟨.arr 16 221 [(0, 2, true), (2, 2, true), (4, 2, true), (6, 2, true), (8, 2, true), (10, 2, true), (12, 2, true), (14, 2, true), (16, 2, true), (18, 2, true), (20, 2, true), (22, 2, true), (24, 2, true), (26, 2, true), (28, 2, true), (30, 2, true)], 32, 32, (.agg #[(.int .u8 0), (.int .u8 0), (.int .u8 0), (.int .u8 0), (.int .u8 0), (.int .u8 0), (.int .u8 0), (.int .u8 0), (.int .u8 0), (.int .u8 0), (.int .u8 0), (.int .u8 0), (.int .u8 0), (.int .u8 0), (.int .u8 0), (.int .u8 0), (.int .u8 0), (.int .u8 0), (.int .u8 0), (.int .u8 0), (.int .u8 0), (.int .u8 0), (.int .u8 0), (.int .u8 0), (.int .u8 0), (.int .u8 0), (.int .u8 0), (.int .u8 0), (.int .u8 0), (.int .u8 0), (.int .u8 0), (.int .u8 0)]), []⟩ := ⟨by kernel_rfl, by kernel_rfl, by kernel_rfl, by kernel_rfl⟩
theorem ok240 : TIOk Tryz.prog 240 ⟨.struct [(0, 1, false)], 1, 16, (.agg #[(.string ⟨#[]⟩)]), [.s]⟩ := ⟨by kernel_rfl, by kernel_rfl, by kernel_rfl, by kernel_rfl⟩
theorem ttOk : TabOk Tryz.prog tt := by
  intro t ti h
  unfold tt at h
  split at h
  · cases h; exact ok2
  · cases h; exact ok3
  · cases h; exact ok4
  · cases h; exact ok5
  · cases h; exact ok9
  · cases h; exact ok12
  · cases h; exact ok13
  · cases h; exact ok20
  · cases h; exact ok21
  · cases h; exact ok23
  · cases h; exact ok24
  · cases h; exact ok25
  · cases h; exact ok27
  · cases h; exact ok30
  · cases h; exact ok34
  · cases h; exact ok35
  · cases h; exact ok38
  · cases h; exact ok43
  · cases h; exact ok54
  · cases h; exact ok59
  · cases h; exact ok60
  · cases h; exact ok63
  · cases h; exact ok64
  · cases h; exact ok65
  · cases h; exact ok68
  · cases h; exact ok88
  · cases h; exact ok89
  · cases h; exact ok90
  · cases h; exact ok92
  · cases h; exact ok93
  · cases h; exact ok125
  · cases h; exact ok126
  · cases h; exact ok127
  · cases h; exact ok131
  · cases h; exact ok132
  · cases h; exact ok157
  · cases h; exact ok158
  · cases h; exact ok175
  · cases h; exact ok176
  · cases h; exact ok177
  · cases h; exact ok178
  · cases h; exact ok179
  · cases h; exact ok189
  · cases h; exact ok192
  · cases h; exact ok193
  · cases h; exact ok195
  · cases h; exact ok196
  · cases h; exact ok203
  · cases h; exact ok204
  · cases h; exact ok205
  · cases h; exact ok213
  · cases h; exact ok220
  · cases h; exact ok221
  · cases h; exact ok222
  · cases h; exact ok240
  · cases h
theorem mixed : Tryz.prog.follows .mixedOrders = true := by kernel_rfl
theorem tabsOk {laid : List (String × DataW Unit)} {w : World} (h : laidMetH Tryz.prog laid w) (hm : ("math/bits.deBruijn64tab", DataW.agg (Lib.deBruijn64tab.map fun k : Nat => .lit (.int .u8 (k : Int)))) ∈ laid) : Tabs Tryz.prog w :=
  tabs_laid h 5 225 5 (by kernel_rfl) (by kernel_rfl) (by kernel_rfl) (by kernel_rfl) (by kernel_rfl) (by kernel_rfl) (by kernel_rfl) hm
end Go.Proofs.YtbmhnjghpjkjpaaGreatDoor
set_option maxHeartbeats 4000000
set_option maxRecDepth 4000
set_option exponentiation.threshold 300000
set_option linter.unusedVariables false
set_option linter.unusedSimpArgs false
namespace Go.Proofs.YtbmhnjghpjkjpaaGreatDoor
open Go Go.PV
def sizeN (l : List Int) : Nat → Nat
  | 0 => 0
  | n + 1 => if l.getD n 0 = 0 then sizeN l n else n + 1
theorem sizeN_le (l : List Int) : ∀ n, sizeN l n ≤ n
  | 0 => Nat.le_refl _
  | n + 1 => by have := sizeN_le l n; unfold sizeN; split <;> omega
def size (l : List Int) : Nat := sizeN l l.length
theorem size_le (l : List Int) : size l ≤ l.length := sizeN_le l l.length
def trim (l : List Int) : List Int := l.take (size l)
theorem nat_size (l : List Int) (hl : l.length ≤ 9223372036854775807) : Meets Tryz.prog 77 [.ints .u64 l] (.int .i64 (size l)) := by
  refine meets_by ttOk Tryz.func77 Tryz.ntmps77 Tryz.results77 (by kernel_rfl) (c := _) rfl rfl rfl fun E => ?_
  simp only [argsFrame]
  repeat' first
    | (with_reducible first | refine PW.seq ?_ | refine PW.block ?_ | refine PW.fork ?_ | refine PW.skip ?_ | refine PW.exit ?_ | refine PW.ret ?_ | refine PW.scope ?_ | refine PW.label ?_ | refine PW.goto ?_)
    | (with_reducible refine PW.region ttOk ?_ ?_
       · rfl)
    | (with_reducible refine PW.regionD ttOk mixed ?_ ?_ ?_
       · rfl
       · rfl)
    | (with_reducible refine ifW_dec (fun g => ?_) (fun g => ?_) <;> first | (exfalso; omega) | (simp -dsimp only [g, wkI]))
    | (with_reducible refine condE_dec (fun g => ?_) (fun g => ?_) <;> try (exfalso; omega))
    | (with_reducible refine condE_not (fun g => ?_) (fun g => ?_) <;> try (exfalso; omega))
    | (simp -dsimp only [↓wkA, ↓wkE, ↓wkJ, wkB, ↓tt, Nat.reduceBEq, Nat.reduceEqDiff, ↓reduceIte, Nat.reduceLT, Array.toList, Nat.reduceAdd, Nat.reduceMul, Int.reduceToNat, Int.reducePow, UInt8.reduceToNat])
    | (simp -dsimp (disch := first | assumption | omega) only [dec_t, dec_f])
    | (refine And.intro ?_ ?_
       · first | omega | decide | (simp (disch := omega) only [wkW, Int.reduceToNat, Int.reducePow] <;> omega) | (simp <;> omega))
    | (simp (disch := omega) only [wkW, Int.reduceToNat, Int.reducePow])
    | fail
  refine PW.loopA (fun n F H => n ≤ l.length ∧ sizeN l n = size l ∧ F = [(3, .int .i64 n), (0, .ints .u64 l)] ∧ H = ⟨0, [], [], []⟩) l.length [(3, .int .i64 l.length), (0, .ints .u64 l)] ⟨0, [], [], []⟩ (Sub.frame ⟨rfl, rfl, trivial⟩) ⟨Nat.le_refl _, rfl, rfl, rfl⟩ ?_
  rintro n F H ⟨hn, hs, rfl, rfl⟩
  cases n with
  | zero =>
    repeat' first
      | (with_reducible first | refine PW.seq ?_ | refine PW.block ?_ | refine PW.fork ?_ | refine PW.skip ?_ | refine PW.exit ?_ | refine PW.ret ?_ | refine PW.scope ?_ | refine PW.label ?_ | refine PW.goto ?_)
      | (with_reducible refine PW.region ttOk ?_ ?_
         · rfl)
      | (with_reducible refine PW.regionD ttOk mixed ?_ ?_ ?_
         · rfl
         · rfl)
      | (with_reducible refine ifW_dec (fun g => ?_) (fun g => ?_) <;> first | (exfalso; omega) | (simp -dsimp only [g, wkI]))
      | (with_reducible refine condE_dec (fun g => ?_) (fun g => ?_) <;> try (exfalso; omega))
      | (with_reducible refine condE_not (fun g => ?_) (fun g => ?_) <;> try (exfalso; omega))
      | (simp -dsimp only [↓wkA, ↓wkE, ↓wkJ, wkB, ↓tt, Nat.reduceBEq, Nat.reduceEqDiff, ↓reduceIte, Nat.reduceLT, Array.toList, Nat.reduceAdd, Nat.reduceMul, Int.reduceToNat, Int.reducePow, UInt8.reduceToNat])
      | (simp -dsimp (disch := first | assumption | omega) only [dec_t, dec_f])
      | (refine And.intro ?_ ?_
         · first | omega | decide | (simp (disch := omega) only [wkW, Int.reduceToNat, Int.reducePow] <;> omega) | (simp <;> omega))
      | (simp (disch := omega) only [wkW, Int.reduceToNat, Int.reducePow])
      | fail
    rw [← hs]; rfl
  | succ n =>
    have e1 : (((n + 1 : Nat) : Int) - 1) = n := by omega
    repeat' first
      | (with_reducible first | refine PW.seq ?_ | refine PW.block ?_ | refine PW.fork ?_ | refine PW.skip ?_ | refine PW.exit ?_ | refine PW.ret ?_ | refine PW.scope ?_ | refine PW.label ?_ | refine PW.goto ?_)
      | (with_reducible refine PW.region ttOk ?_ ?_
         · rfl)
      | (with_reducible refine PW.regionD ttOk mixed ?_ ?_ ?_
         · rfl
         · rfl)
      | (with_reducible refine ifW_dec (fun g => ?_) (fun g => ?_) <;> first | (exfalso; omega) | (simp -dsimp only [g, wkI]))
      | (with_reducible refine condE_dec (fun g => ?_) (fun g => ?_) <;> try (exfalso; omega))
      | (with_reducible refine condE_not (fun g => ?_) (fun g => ?_) <;> try (exfalso; omega))
      | (simp -dsimp only [↓wkA, ↓wkE, ↓wkJ, wkB, ↓tt, Nat.reduceBEq, Nat.reduceEqDiff, ↓reduceIte, Nat.reduceLT, Array.toList, Nat.reduceAdd, Nat.reduceMul, Int.reduceToNat, Int.reducePow, UInt8.reduceToNat])
      | (simp -dsimp (disch := first | assumption | omega) only [dec_t, dec_f])
      | (refine And.intro ?_ ?_
         · first | omega | decide | (simp (disch := omega) only [wkW, Int.reduceToNat, Int.reducePow] <;> omega) | (simp <;> omega))
      | (simp (disch := omega) only [wkW, Int.reduceToNat, Int.reducePow])
      | fail
    all_goals simp (disch := omega) only [e1, Int.toNat_natCast, wkW, Int.reduceToNat, Int.reducePow] at *
    · have h2 : sizeN l n = size l := by rw [← hs, sizeN, if_pos (by assumption)]
      exact Again.mk n [(3, .int .i64 n), (0, .ints .u64 l)] ⟨0, [], [], []⟩ (by omega) (Sub.frame ⟨rfl, rfl, trivial⟩) ⟨by omega, h2, rfl, rfl⟩
    · rw [← hs, sizeN, if_neg (by assumption)]
theorem nat_big (l : List Int) (hl : l.length ≤ 9223372036854775807) : Meets Tryz.prog 76 [.ints .u64 l] (.bool (decide (4096 < size l))) := by
  refine meets_by ttOk Tryz.func76 Tryz.ntmps76 Tryz.results76 (by kernel_rfl) (c := _) rfl rfl rfl fun E => ?_
  simp only [argsFrame]
  repeat' first
    | (with_reducible first | refine PW.seq ?_ | refine PW.block ?_ | refine PW.fork ?_ | refine PW.skip ?_ | refine PW.exit ?_ | refine PW.ret ?_ | refine PW.scope ?_ | refine PW.label ?_ | refine PW.goto ?_)
    | (with_reducible refine PW.region ttOk ?_ ?_
       · rfl)
    | (with_reducible refine PW.regionD ttOk mixed ?_ ?_ ?_
       · rfl
       · rfl)
    | (with_reducible refine ifW_dec (fun g => ?_) (fun g => ?_) <;> first | (exfalso; omega) | (simp -dsimp only [g, wkI]))
    | (with_reducible refine condE_dec (fun g => ?_) (fun g => ?_) <;> try (exfalso; omega))
    | (with_reducible refine condE_not (fun g => ?_) (fun g => ?_) <;> try (exfalso; omega))
    | (simp -dsimp only [↓wkA, ↓wkE, ↓wkJ, wkB, ↓tt, Nat.reduceBEq, Nat.reduceEqDiff, ↓reduceIte, Nat.reduceLT, Array.toList, Nat.reduceAdd, Nat.reduceMul, Int.reduceToNat, Int.reducePow, UInt8.reduceToNat])
    | (refine call_by (nat_size _ (by first | assumption | omega)) (views_data rfl) ⟨trivial, trivial⟩ rfl ?_)
    | (simp -dsimp (disch := first | assumption | omega) only [dec_t, dec_f])
    | (refine And.intro ?_ ?_
       · first | omega | decide | (simp (disch := omega) only [wkW, Int.reduceToNat, Int.reducePow] <;> omega) | (simp <;> omega))
    | (simp (disch := omega) only [wkW, Int.reduceToNat, Int.reducePow])
    | fail
  simp only [PV.bool.injEq, decide_eq_decide]; omega
theorem nat_cut (l : List Int) (hl : l.length ≤ 9223372036854775807) : Meets Tryz.prog 79 [.ints .u64 l] (.tup (if 4096 < size l then [.nil, .int .i64 2] else [.ints .u64 (trim l), .int .i64 0])) := by
  refine meets_by ttOk Tryz.func79 Tryz.ntmps79 Tryz.results79 (by kernel_rfl) (c := _) rfl rfl rfl fun E => ?_
  simp only [argsFrame]
  have hsz := size_le l
  repeat' first
    | (with_reducible first | refine PW.seq ?_ | refine PW.block ?_ | refine PW.fork ?_ | refine PW.skip ?_ | refine PW.exit ?_ | refine PW.ret ?_ | refine PW.scope ?_ | refine PW.label ?_ | refine PW.goto ?_)
    | (with_reducible refine PW.region ttOk ?_ ?_
       · rfl)
    | (with_reducible refine PW.regionD ttOk mixed ?_ ?_ ?_
       · rfl
       · rfl)
    | (with_reducible refine ifW_dec (fun g => ?_) (fun g => ?_) <;> first | (exfalso; omega) | (simp -dsimp only [g, wkI]))
    | (with_reducible refine condE_dec (fun g => ?_) (fun g => ?_) <;> try (exfalso; omega))
    | (with_reducible refine condE_not (fun g => ?_) (fun g => ?_) <;> try (exfalso; omega))
    | (simp -dsimp only [↓wkA, ↓wkE, ↓wkJ, wkB, ↓tt, Nat.reduceBEq, Nat.reduceEqDiff, ↓reduceIte, Nat.reduceLT, Array.toList, Nat.reduceAdd, Nat.reduceMul, Int.reduceToNat, Int.reducePow, UInt8.reduceToNat])
    | (refine call_by (nat_size _ (by first | assumption | omega)) (views_data rfl) ⟨trivial, trivial⟩ rfl ?_)
    | (simp -dsimp (disch := first | assumption | omega) only [dec_t, dec_f])
    | (refine And.intro ?_ ?_
       · first | omega | decide | (simp (disch := omega) only [wkW, Int.reduceToNat, Int.reducePow] <;> omega) | (simp <;> omega))
    | (simp (disch := omega) only [wkW, Int.reduceToNat, Int.reducePow])
    | fail
  · rw [if_pos (by omega)]
  · rw [if_neg (by omega)]; rfl
theorem nat_trim (l : List Int) (hl : l.length ≤ 17592186043904) : Meets Tryz.prog 162 [.ints .u64 l] (.ints .u64 (trim l)) := by
  refine meets_by ttOk Tryz.func162 Tryz.ntmps162 Tryz.results162 (by kernel_rfl) (c := _) rfl rfl rfl fun E => ?_
  simp only [argsFrame]
  have hsz := size_le l
  repeat' first
    | (with_reducible first | refine PW.seq ?_ | refine PW.block ?_ | refine PW.fork ?_ | refine PW.skip ?_ | refine PW.exit ?_ | refine PW.ret ?_ | refine PW.scope ?_ | refine PW.label ?_ | refine PW.goto ?_)
    | (with_reducible refine PW.region ttOk ?_ ?_
       · rfl)
    | (with_reducible refine PW.regionD ttOk mixed ?_ ?_ ?_
       · rfl
       · rfl)
    | (with_reducible refine ifW_dec (fun g => ?_) (fun g => ?_) <;> first | (exfalso; omega) | (simp -dsimp only [g, wkI]))
    | (with_reducible refine condE_dec (fun g => ?_) (fun g => ?_) <;> try (exfalso; omega))
    | (with_reducible refine condE_not (fun g => ?_) (fun g => ?_) <;> try (exfalso; omega))
    | (simp -dsimp only [↓wkA, ↓wkE, ↓wkJ, wkB, ↓tt, Nat.reduceBEq, Nat.reduceEqDiff, ↓reduceIte, Nat.reduceLT, Array.toList, Nat.reduceAdd, Nat.reduceMul, Int.reduceToNat, Int.reducePow, UInt8.reduceToNat])
    | (refine call_by (nat_size _ (by first | assumption | omega)) (views_data rfl) ⟨trivial, trivial⟩ rfl ?_)
    | (simp -dsimp (disch := first | assumption | omega) only [dec_t, dec_f])
    | (refine And.intro ?_ ?_
       · first | omega | decide | (simp (disch := omega) only [wkW, Int.reduceToNat, Int.reducePow] <;> omega) | (simp <;> omega))
    | (simp (disch := omega) only [wkW, Int.reduceToNat, Int.reducePow])
    | fail
  rw [List.length_take, Nat.min_eq_left (by omega : size l ≤ l.length), Nat.min_self, List.take_take, Nat.min_self, List.drop_of_length_le (by simp), List.append_nil, List.take_take, Nat.min_self]
  rfl
def Limbs (l : List Int) : Prop := ∀ x ∈ l, 0 ≤ x ∧ x < 18446744073709551616
abbrev B64 : Int := 18446744073709551616
theorem getD_limb {l : List Int} (hb : Limbs l) (i : Nat) : 0 ≤ l.getD i 0 ∧ l.getD i 0 < B64 := by
  rw [List.getD_eq_getElem?_getD]
  cases h : l[i]? with
  | none => simp [B64]
  | some x => exact hb x (List.mem_of_getElem? h)
def vt (l : List Int) : Nat → Int
  | 0 => 0
  | n + 1 => vt l n + B64 ^ n * l.getD n 0
def val (l : List Int) : Int := vt l l.length
theorem pow_pos64 (n : Nat) : (0 : Int) < B64 ^ n := Int.pow_pos (by decide)
theorem pow_mono64 {m n : Nat} (h : m ≤ n) : B64 ^ m ≤ B64 ^ n := by
  have e : B64 = ((18446744073709551616 : Nat) : Int) := rfl
  rw [e, ← Int.natCast_pow, ← Int.natCast_pow]
  exact Int.ofNat_le.2 (Nat.pow_le_pow_right (by decide) h)
theorem vt_bound {l : List Int} (hb : Limbs l) : ∀ n, 0 ≤ vt l n ∧ vt l n < B64 ^ n
  | 0 => by simp [vt]
  | n + 1 => by
    have ih := vt_bound hb n
    have hd := getD_limb hb n
    have hp := pow_pos64 n
    have h1 : 0 ≤ B64 ^ n * l.getD n 0 := Int.mul_nonneg (Int.le_of_lt hp) hd.1
    have h2 : B64 ^ n * l.getD n 0 ≤ B64 ^ n * (B64 - 1) := Int.mul_le_mul_of_nonneg_left (by omega) (Int.le_of_lt hp)
    have h3 : B64 ^ (n + 1) = B64 ^ n * (B64 - 1) + B64 ^ n := by rw [Int.pow_succ]; simp only [B64]; omega
    simp only [vt]
    rw [h3]
    constructor <;> omega
theorem vt_sizeN (l : List Int) : ∀ n, vt l (sizeN l n) = vt l n
  | 0 => rfl
  | n + 1 => by
    unfold sizeN
    split
    · rename_i h
      rw [vt_sizeN l n]; simp only [vt, h]; omega
    · rfl
theorem vt_size (l : List Int) : vt l (size l) = val l := vt_sizeN l l.length
theorem vt_top {a b : List Int} (ha : Limbs a) (hb : Limbs b) {i : Nat} (h : a.getD i 0 < b.getD i 0) : ∀ n, i < n → (∀ j, i < j → j < n → a.getD j 0 = b.getD j 0) → vt a n < vt b n
  | 0, hi, _ => by omega
  | n + 1, hi, he => by
    by_cases hin : i = n
    · subst hin
      have h1 := vt_bound ha i
      have h2 := vt_bound hb i
      have hp := pow_pos64 i
      have h3 : B64 ^ i * (a.getD i 0 + 1) ≤ B64 ^ i * b.getD i 0 := Int.mul_le_mul_of_nonneg_left (by omega) (Int.le_of_lt hp)
      have h4 : B64 ^ i * (a.getD i 0 + 1) = B64 ^ i * a.getD i 0 + B64 ^ i := by rw [Int.mul_add, Int.mul_one]
      simp only [vt]
      omega
    · have := vt_top ha hb h n (by omega) fun j h1 h2 => he j h1 (by omega)
      simp only [vt, he n (by omega) (by omega)]
      omega
theorem sizeN_top (l : List Int) : ∀ n, sizeN l n ≠ 0 → l.getD (sizeN l n - 1) 0 ≠ 0
  | 0, h => absurd rfl h
  | n + 1, h => by
    unfold sizeN at h ⊢
    split
    · rename_i h0
      rw [if_pos h0] at h
      exact sizeN_top l n h
    · rename_i h0
      simpa using h0
theorem size_lt_val {a b : List Int} (ha : Limbs a) (hb : Limbs b) (h : size a < size b) : val a < val b := by
  rw [← vt_size a, ← vt_size b]
  obtain ⟨m, hm⟩ : ∃ m, size b = m + 1 := ⟨size b - 1, by omega⟩
  have h1 := (vt_bound ha (size a)).2
  have h2 := (vt_bound hb m).1
  have htop := sizeN_top b b.length (by have : size b ≠ 0 := by omega
                                        exact this)
  have htop' : b.getD m 0 ≠ 0 := by
    have : sizeN b b.length - 1 = m := by have : size b = m + 1 := hm; unfold size at this; omega
    rwa [this] at htop
  have hd := getD_limb hb m
  have hle : B64 ^ size a ≤ B64 ^ m := pow_mono64 (by omega)
  have hp := pow_pos64 m
  have h5 : B64 ^ m * 1 ≤ B64 ^ m * b.getD m 0 := Int.mul_le_mul_of_nonneg_left (by omega) (Int.le_of_lt hp)
  rw [hm]
  simp only [vt]
  omega
def cmpN (a b : List Int) : Int := if val a < val b then -1 else if val b < val a then 1 else 0
theorem vt_same {a b : List Int} : ∀ n, (∀ j, j < n → a.getD j 0 = b.getD j 0) → vt a n = vt b n
  | 0, _ => rfl
  | n + 1, h => by simp only [vt]; rw [vt_same n fun j hj => h j (by omega), h n (by omega)]
theorem nat_cmp (a b : List Int) (ha : Limbs a) (hb : Limbs b) (hla : a.length ≤ 9223372036854775807) (hlb : b.length ≤ 9223372036854775807) : Meets Tryz.prog 62 [.ints .u64 a, .ints .u64 b] (.int .i64 (cmpN a b)) := by
  refine meets_by ttOk Tryz.func62 Tryz.ntmps62 Tryz.results62 (by kernel_rfl) (c := _) rfl rfl rfl fun E => ?_
  simp only [argsFrame]
  have hsa := size_le a
  have hsb := size_le b
  repeat' first
    | (with_reducible first | refine PW.seq ?_ | refine PW.block ?_ | refine PW.fork ?_ | refine PW.skip ?_ | refine PW.exit ?_ | refine PW.ret ?_ | refine PW.scope ?_ | refine PW.label ?_ | refine PW.goto ?_)
    | (with_reducible refine PW.region ttOk ?_ ?_
       · rfl)
    | (with_reducible refine PW.regionD ttOk mixed ?_ ?_ ?_
       · rfl
       · rfl)
    | (with_reducible refine ifW_dec (fun g => ?_) (fun g => ?_) <;> first | (exfalso; omega) | (simp -dsimp only [g, wkI]))
    | (with_reducible refine condE_dec (fun g => ?_) (fun g => ?_) <;> try (exfalso; omega))
    | (with_reducible refine condE_not (fun g => ?_) (fun g => ?_) <;> try (exfalso; omega))
    | (simp -dsimp only [↓wkA, ↓wkE, ↓wkJ, wkB, ↓tt, Nat.reduceBEq, Nat.reduceEqDiff, ↓reduceIte, Nat.reduceLT, Array.toList, Nat.reduceAdd, Nat.reduceMul, Int.reduceToNat, Int.reducePow, UInt8.reduceToNat])
    | (refine call_by (nat_size _ (by first | assumption | omega)) (views_data rfl) ⟨trivial, trivial⟩ rfl ?_)
    | (simp -dsimp (disch := first | assumption | omega) only [dec_t, dec_f])
    | (refine And.intro ?_ ?_
       · first | omega | decide | (simp (disch := omega) only [wkW, Int.reduceToNat, Int.reducePow] <;> omega) | (simp <;> omega))
    | (simp (disch := omega) only [wkW, Int.reduceToNat, Int.reducePow])
    | fail
  · rw [cmpN, if_pos (size_lt_val ha hb (by omega))]
  · rw [cmpN, if_neg (by have := size_lt_val hb ha (by omega); omega), if_pos (size_lt_val hb ha (by omega))]
  have hss : size a = size b := by omega
  refine PW.loopA (fun n F H => n ≤ size a ∧ (∀ j, n ≤ j → j < size a → a.getD j 0 = b.getD j 0) ∧ F = [(7, .int .i64 ((n : Int) - 1)), (1, .ints .u64 b), (0, .ints .u64 a)] ∧ H = ⟨0, [], [], []⟩) (size a) [(7, .int .i64 ((size a : Nat) - 1 : Int)), (1, .ints .u64 b), (0, .ints .u64 a)] ⟨0, [], [], []⟩ (Sub.frame ⟨?_, rfl, rfl, trivial⟩) ⟨Nat.le_refl _, fun j h1 h2 => by omega, rfl, rfl⟩ ?_
  · simp (disch := omega) only [↓wkA, ↓wkE, ↓wkJ, wkB, ↓tt, Nat.reduceBEq, Nat.reduceEqDiff, ↓reduceIte, Nat.reduceLT, Array.toList, Nat.reduceAdd, Nat.reduceMul, Int.reduceToNat, Int.reducePow, UInt8.reduceToNat, wkW, Int.reduceToNat, Int.reducePow]
  rintro n F H ⟨hn, he, rfl, rfl⟩
  cases n with
  | zero =>
    have : vt a (size a) = vt b (size a) := vt_same _ fun j hj => he j (by omega) hj
    have hv : val a = val b := by rw [← vt_size a, ← vt_size b, ← hss, this]
    repeat' first
      | (with_reducible first | refine PW.seq ?_ | refine PW.block ?_ | refine PW.fork ?_ | refine PW.skip ?_ | refine PW.exit ?_ | refine PW.ret ?_ | refine PW.scope ?_ | refine PW.label ?_ | refine PW.goto ?_)
      | (with_reducible refine PW.region ttOk ?_ ?_
         · rfl)
      | (with_reducible refine PW.regionD ttOk mixed ?_ ?_ ?_
         · rfl
         · rfl)
      | (with_reducible refine ifW_dec (fun g => ?_) (fun g => ?_) <;> first | (exfalso; omega) | (simp -dsimp only [g, wkI]))
      | (with_reducible refine condE_dec (fun g => ?_) (fun g => ?_) <;> try (exfalso; omega))
      | (with_reducible refine condE_not (fun g => ?_) (fun g => ?_) <;> try (exfalso; omega))
      | (simp -dsimp only [↓wkA, ↓wkE, ↓wkJ, wkB, ↓tt, Nat.reduceBEq, Nat.reduceEqDiff, ↓reduceIte, Nat.reduceLT, Array.toList, Nat.reduceAdd, Nat.reduceMul, Int.reduceToNat, Int.reducePow, UInt8.reduceToNat])
      | (simp -dsimp (disch := first | assumption | omega) only [dec_t, dec_f])
      | (refine And.intro ?_ ?_
         · first | omega | decide | (simp (disch := omega) only [wkW, Int.reduceToNat, Int.reducePow] <;> omega) | (simp <;> omega))
      | (simp (disch := omega) only [wkW, Int.reduceToNat, Int.reducePow])
      | fail
    rw [cmpN, hv]; simp
  | succ n =>
    have e1 : (((n + 1 : Nat) : Int) - 1) = n := by omega
    rw [e1]
    repeat' first
      | (with_reducible first | refine PW.seq ?_ | refine PW.block ?_ | refine PW.fork ?_ | refine PW.skip ?_ | refine PW.exit ?_ | refine PW.ret ?_ | refine PW.scope ?_ | refine PW.label ?_ | refine PW.goto ?_)
      | (with_reducible refine PW.region ttOk ?_ ?_
         · rfl)
      | (with_reducible refine PW.regionD ttOk mixed ?_ ?_ ?_
         · rfl
         · rfl)
      | (with_reducible refine ifW_dec (fun g => ?_) (fun g => ?_) <;> first | (exfalso; omega) | (simp -dsimp only [g, wkI]))
      | (with_reducible refine condE_dec (fun g => ?_) (fun g => ?_) <;> try (exfalso; omega))
      | (with_reducible refine condE_not (fun g => ?_) (fun g => ?_) <;> try (exfalso; omega))
      | (simp -dsimp only [↓wkA, ↓wkE, ↓wkJ, wkB, ↓tt, Nat.reduceBEq, Nat.reduceEqDiff, ↓reduceIte, Nat.reduceLT, Array.toList, Nat.reduceAdd, Nat.reduceMul, Int.reduceToNat, Int.reducePow, UInt8.reduceToNat])
      | (simp -dsimp (disch := first | assumption | omega) only [dec_t, dec_f])
      | (refine And.intro ?_ ?_
         · first | omega | decide | (simp (disch := omega) only [wkW, Int.reduceToNat, Int.reducePow] <;> omega) | (simp <;> omega))
      | (simp (disch := omega) only [wkW, Int.reduceToNat, Int.reducePow])
      | fail
    · have h1 := vt_top ha hb (by assumption) (size a) (by omega) fun j h1 h2 => he j (by omega) h2
      rw [cmpN, if_pos (by rw [← vt_size a, ← vt_size b, ← hss]; exact h1)]
    · have h1 := vt_top hb ha (i := n) (by omega) (size a) (by omega) fun j h1 h2 => (he j (by omega) h2).symm
      have h2 : val b < val a := by rw [← vt_size a, ← vt_size b, ← hss]; exact h1
      rw [cmpN, if_neg (by omega), if_pos h2]
    · try simp (disch := omega) only [wkW, Int.reduceToNat, Int.reducePow]
      exact Again.mk n [(7, .int .i64 ((n : Int) - 1)), (1, .ints .u64 b), (0, .ints .u64 a)] ⟨0, [], [], []⟩ (by omega) (Sub.frame ⟨rfl, rfl, rfl, trivial⟩) ⟨by omega, fun j h1 h2 => by
        by_cases hj : j = n
        · subst hj; assumption
        · exact he j (by omega) h2, rfl, rfl⟩
theorem and32 {a : Int} (ha : 0 ≤ a ∧ a ≤ 18446744073709551615) : ibits .and .u64 a 4294967295 = a % 4294967296 := by
  rw [ibits_and_u64 ha (by omega)]
  have h := and_mask (a := a.toNat) 32
  simp only [Nat.reducePow, Nat.reduceSub] at h
  rw [show (4294967295 : Int).toNat = 4294967295 from rfl, h]
  omega
theorem fdiv32 (a : Int) : a.fdiv (2 ^ min 32 64) = a / 4294967296 := by
  have : (2 : Int) ^ min 32 64 = 4294967296 := by decide
  rw [this]; exact fdiv_pos (by decide)
theorem mul64 (x y : Int) (hx : 0 ≤ x ∧ x < B64) (hy : 0 ≤ y ∧ y < B64) : Meets Tryz.prog 78 [.int .u64 x, .int .u64 y] (.tup [.int .u64 (x * y / B64), .int .u64 (x * y % B64)]) := by
  refine meets_by ttOk Tryz.func78 Tryz.ntmps78 Tryz.results78 (by kernel_rfl) (c := _) rfl rfl rfl fun E => ?_
  simp only [argsFrame]
  repeat' first
    | (with_reducible first | refine PW.seq ?_ | refine PW.block ?_ | refine PW.fork ?_ | refine PW.skip ?_ | refine PW.exit ?_ | refine PW.ret ?_ | refine PW.scope ?_ | refine PW.label ?_ | refine PW.goto ?_)
    | (with_reducible refine PW.region ttOk ?_ ?_
       · rfl)
    | (with_reducible refine PW.regionD ttOk mixed ?_ ?_ ?_
       · rfl
       · rfl)
    | (with_reducible refine ifW_dec (fun g => ?_) (fun g => ?_) <;> first | (exfalso; omega) | (simp -dsimp only [g, wkI]))
    | (with_reducible refine condE_dec (fun g => ?_) (fun g => ?_) <;> try (exfalso; omega))
    | (with_reducible refine condE_not (fun g => ?_) (fun g => ?_) <;> try (exfalso; omega))
    | (simp -dsimp only [↓wkA, ↓wkE, ↓wkJ, wkB, ↓tt, Nat.reduceBEq, Nat.reduceEqDiff, ↓reduceIte, Nat.reduceLT, Array.toList, Nat.reduceAdd, Nat.reduceMul, Int.reduceToNat, Int.reducePow, UInt8.reduceToNat])
    | (simp -dsimp (disch := first | assumption | omega) only [dec_t, dec_f])
    | (refine And.intro ?_ ?_
       · first | omega | decide | (simp (disch := omega) only [wkW, Int.reduceToNat, Int.reducePow] <;> omega) | (simp <;> omega))
    | (simp (disch := omega) only [wkW, Int.reduceToNat, Int.reducePow])
    | fail
  have hx0 : 0 ≤ x % 4294967296 ∧ x % 4294967296 ≤ 4294967295 := by omega
  have hx1 : 0 ≤ x / 4294967296 ∧ x / 4294967296 ≤ 4294967295 := by simp only [B64] at hx; omega
  have hy0 : 0 ≤ y % 4294967296 ∧ y % 4294967296 ≤ 4294967295 := by omega
  have hy1 : 0 ≤ y / 4294967296 ∧ y / 4294967296 ≤ 4294967295 := by simp only [B64] at hy; omega
  have ex : x = 4294967296 * (x / 4294967296) + x % 4294967296 := by omega
  have ey : y = 4294967296 * (y / 4294967296) + y % 4294967296 := by omega
  simp only [fdiv32, and32 (a := x) (by simp only [B64] at hx; omega), and32 (a := y) (by simp only [B64] at hy; omega)]
  generalize x % 4294967296 = x0 at *
  generalize x / 4294967296 = x1 at *
  generalize y % 4294967296 = y0 at *
  generalize y / 4294967296 = y1 at *
  have hm : x * y = 18446744073709551616 * (x1 * y1) + 4294967296 * (x1 * y0) + 4294967296 * (x0 * y1) + x0 * y0 := by
    rw [ex, ey]; grind
  have bd : ∀ u v : Int, 0 ≤ u ∧ u ≤ 4294967295 → 0 ≤ v ∧ v ≤ 4294967295 → 0 ≤ u * v ∧ u * v ≤ 18446744065119617025 := fun u v hu hv =>
    ⟨Int.mul_nonneg hu.1 hv.1, Int.le_trans (Int.mul_le_mul hu.2 hv.2 hv.1 (by omega)) (by decide)⟩
  have b00 := bd x0 y0 hx0 hy0
  have b10 := bd x1 y0 hx1 hy0
  have b01 := bd x0 y1 hx0 hy1
  have b11 := bd x1 y1 hx1 hy1
  rw [wrap_u64' (x * y), hm]
  generalize x0 * y0 = p00 at *
  generalize x1 * y0 = p10 at *
  generalize x0 * y1 = p01 at *
  generalize x1 * y1 = p11 at *
  have w00 : IntKind.wrap .u64 p00 = p00 := wrap_u64 (by omega)
  have w10 : IntKind.wrap .u64 p10 = p10 := wrap_u64 (by omega)
  have w01 : IntKind.wrap .u64 p01 = p01 := wrap_u64 (by omega)
  have w11 : IntKind.wrap .u64 p11 = p11 := wrap_u64 (by omega)
  have wt : IntKind.wrap .u64 (p10 + p00 / 4294967296) = p10 + p00 / 4294967296 := wrap_u64 (by omega)
  rw [w00, w10, w01, w11, wt, and32 (by omega)]
  have ww : IntKind.wrap .u64 ((p10 + p00 / 4294967296) % 4294967296 + p01) = (p10 + p00 / 4294967296) % 4294967296 + p01 := wrap_u64 (by omega)
  rw [ww, wrap_u64 (n := p11 + (p10 + p00 / 4294967296) / 4294967296) (by omega)]
  rw [wrap_u64 (by omega)]
  have e1 : (18446744073709551616 * p11 + 4294967296 * p10 + 4294967296 * p01 + p00) / B64 = p11 + (p10 + p00 / 4294967296) / 4294967296 + ((p10 + p00 / 4294967296) % 4294967296 + p01) / 4294967296 := by simp only [B64]; omega
  rw [e1]
theorem add64 {x y c : Int} (hx : 0 ≤ x) (hy : 0 ≤ y) (hc : 0 ≤ c ∧ c ≤ 1) : Meets Tryz.prog 81 [.int .u64 x, .int .u64 y, .int .u64 c] (.tup [.int .u64 ((x + y + c) % 18446744073709551616), .int .u64 ((x + y + c) / 18446744073709551616)]) :=
  add64_meets Tryz.func81 (by kernel_rfl) (by kernel_rfl) (by kernel_rfl) (by kernel_rfl) hx hy hc
theorem getD_set (l : List Int) (k j : Nat) (v : Int) (hk : k < l.length) : (l.set k v).getD j 0 = if j = k then v else l.getD j 0 := by
  simp only [List.getD_eq_getElem?_getD, List.getElem?_set]
  by_cases h : k = j
  · subst h; simp [hk]
  · rw [if_neg h, if_neg (fun e => h e.symm)]
theorem vt_set_ge (l : List Int) (k n : Nat) (v : Int) (hk : k < l.length) (h : n ≤ k) : vt (l.set k v) n = vt l n :=
  vt_same n fun j hj => by rw [getD_set l k j v hk, if_neg (by omega)]
theorem limbs_set {l : List Int} (h : Limbs l) (k : Nat) {v : Int} (hv : 0 ≤ v ∧ v < B64) : Limbs (l.set k v) := fun x hx => by
  rcases List.mem_or_eq_of_mem_set hx with h1 | h1
  · exact h x h1
  · subst h1; exact hv
theorem limbs_take {l : List Int} (h : Limbs l) (n : Nat) : Limbs (l.take n) := fun x hx => h x (List.mem_of_mem_take hx)
structure MulIn (a b o0 o : List Int) (i j : Nat) (c : Int) : Prop where
  len : o.length = a.length + b.length
  lim : Limbs o
  car : 0 ≤ c ∧ c < B64
  eq : vt o (i + j) + B64 ^ (i + j) * c = vt o0 (i + j) + B64 ^ i * (a.getD i 0 * vt b j)
  rest : ∀ k, i + j ≤ k → o.getD k 0 = o0.getD k 0
structure MulOut (a b o : List Int) (i : Nat) : Prop where
  len : o.length = a.length + b.length
  lim : Limbs o
  eq : vt o (i + b.length) = vt a i * vt b b.length
  rest : ∀ k, i + b.length ≤ k → o.getD k 0 = 0
theorem MulIn.start {a b o : List Int} {i : Nat} (h : MulOut a b o i) : MulIn a b o o i 0 0 :=
  ⟨h.len, h.lim, by decide, by simp [vt], fun _ _ => rfl⟩
theorem mul_bound {x y : Int} (hx : 0 ≤ x ∧ x < B64) (hy : 0 ≤ y ∧ y < B64) : 0 ≤ x * y ∧ x * y ≤ 340282366920938463426481119284349108225 :=
  ⟨Int.mul_nonneg hx.1 hy.1, Int.le_trans (Int.mul_le_mul (c := 18446744073709551615) (d := 18446744073709551615) (by simp only [B64] at hx; omega) (by simp only [B64] at hy; omega) hy.1 (by omega)) (by decide)⟩
theorem MulIn.step {a b o0 o : List Int} {i j : Nat} {c s : Int} (h : MulIn a b o0 o i j c) (hi : i < a.length) (hj : j < b.length) (hs : s = a.getD i 0 * b.getD j 0 + o.getD (i + j) 0 + c) (hr : 0 ≤ s / B64 ∧ s / B64 < B64) :
    MulIn a b o0 (o.set (i + j) (s % B64)) i (j + 1) (s / B64) := by
  have hlt : i + j < o.length := by rw [h.len]; omega
  have hmod : 0 ≤ s % B64 ∧ s % B64 < B64 := ⟨Int.emod_nonneg _ (by decide), Int.emod_lt_of_pos _ (by decide)⟩
  refine ⟨by rw [List.length_set, h.len], limbs_set h.lim _ hmod, hr, ?_, fun k hk => ?_⟩
  · have e0 : i + (j + 1) = (i + j) + 1 := by omega
    rw [e0]
    simp only [vt]
    rw [vt_set_ge _ _ _ _ hlt (Nat.le_refl _), getD_set _ _ _ _ hlt, if_pos rfl, Int.pow_succ]
    have hsum : B64 * (s / B64) + s % B64 = s := Int.mul_ediv_add_emod s B64
    have h1 := h.eq
    have h2 := h.rest (i + j) (Nat.le_refl _)
    have e1 : B64 ^ (i + j) = B64 ^ i * B64 ^ j := Int.pow_add _ _ _
    rw [← h2]
    generalize s / B64 = q at *
    generalize s % B64 = r at *
    generalize vt o (i + j) = A at *
    generalize vt o0 (i + j) = A0 at *
    generalize o.getD (i + j) 0 = d at *
    generalize a.getD i 0 = x at *
    generalize b.getD j 0 = y at *
    generalize vt b j = V at *
    rw [e1] at *
    generalize B64 ^ i = p at *
    generalize B64 ^ j = t at *
    generalize B64 = B at *
    grind
  · rw [getD_set _ _ _ _ hlt, if_neg (by omega)]
    exact h.rest k (by omega)
theorem MulIn.fin {a b o0 o : List Int} {i : Nat} {c : Int} (h0 : MulOut a b o0 i) (h : MulIn a b o0 o i b.length c) (hi : i < a.length) : MulOut a b (o.set (i + b.length) c) (i + 1) := by
  have hlt : i + b.length < o.length := by rw [h.len]; omega
  refine ⟨by rw [List.length_set, h.len], limbs_set h.lim _ h.car, ?_, fun k hk => ?_⟩
  · have e0 : i + 1 + b.length = (i + b.length) + 1 := by omega
    rw [e0]
    simp only [vt]
    rw [vt_set_ge _ _ _ _ hlt (Nat.le_refl _), getD_set _ _ _ _ hlt, if_pos rfl]
    have h1 := h.eq
    have h2 := h0.eq
    rw [h1, h2]
    generalize B64 ^ i = p at *
    generalize a.getD i 0 = x at *
    generalize vt a i = A at *
    generalize vt b b.length = V at *
    grind
  · rw [getD_set _ _ _ _ hlt, if_neg (by omega), h.rest k (by omega)]
    exact h0.rest k (by omega)
theorem vt_inj {a b : List Int} (ha : Limbs a) (hb : Limbs b) : ∀ n, vt a n = vt b n → ∀ j, j < n → a.getD j 0 = b.getD j 0
  | 0, _, j, h => by omega
  | n + 1, h, j, hj => by
    have e : a.getD n 0 = b.getD n 0 := by
      rcases Int.lt_trichotomy (a.getD n 0) (b.getD n 0) with h1 | h1 | h1
      · have := vt_top ha hb h1 (n + 1) (by omega) fun j h1 h2 => by omega
        omega
      · exact h1
      · have := vt_top hb ha h1 (n + 1) (by omega) fun j h1 h2 => by omega
        omega
    by_cases hjn : j = n
    · subst hjn; exact e
    · simp only [vt, e] at h
      exact vt_inj ha hb n (by omega) j (by omega)
theorem val_inj {a b : List Int} (ha : Limbs a) (hb : Limbs b) (hl : a.length = b.length) (h : val a = val b) : a = b := by
  refine List.ext_getElem hl fun i h1 h2 => ?_
  have := vt_inj ha hb a.length (by unfold val at h; rw [h, hl]) i h1
  simpa [List.getD_eq_getElem?_getD, List.getElem?_eq_getElem h1, List.getElem?_eq_getElem h2] using this
def limbsOf (n v : Nat) : List Int := (List.range n).map fun i => ((v / 18446744073709551616 ^ i % 18446744073709551616 : Nat) : Int)
theorem limbsOf_length (n v : Nat) : (limbsOf n v).length = n := by simp [limbsOf]
theorem limbsOf_limbs (n v : Nat) : Limbs (limbsOf n v) := by
  intro x hx
  obtain ⟨i, _, rfl⟩ := List.mem_map.1 hx
  have := Nat.mod_lt (v / 18446744073709551616 ^ i) (show 18446744073709551616 > 0 by decide)
  omega
theorem limbsOf_getD {n v i : Nat} (h : i < n) : (limbsOf n v).getD i 0 = ((v / 18446744073709551616 ^ i % 18446744073709551616 : Nat) : Int) := by
  unfold limbsOf; rw [List.getD_eq_getElem?_getD, List.getElem?_map, List.getElem?_range h]; simp only [Option.map_some, Option.getD_some]
theorem limbsOf_vt (n v : Nat) : ∀ k, k ≤ n → vt (limbsOf n v) k = ((v % 18446744073709551616 ^ k : Nat) : Int)
  | 0, _ => by simp [vt, Nat.mod_one]
  | k + 1, h => by
    simp only [vt]
    rw [limbsOf_vt n v k (by omega), limbsOf_getD (by omega), Nat.pow_succ, Nat.mod_mul]
    have e : B64 ^ k = ((18446744073709551616 ^ k : Nat) : Int) := by rw [Int.natCast_pow]; rfl
    rw [e]
    generalize 18446744073709551616 ^ k = q
    generalize v / q % 18446744073709551616 = d
    rw [Int.natCast_add, Int.natCast_mul]
theorem limbsOf_val {n v : Nat} (h : v < 18446744073709551616 ^ n) : val (limbsOf n v) = v := by
  unfold val
  rw [limbsOf_length, limbsOf_vt n v n (Nat.le_refl _), Nat.mod_eq_of_lt h]
def MulO (a b : List Int) (n : Nat) (F : PV.Frame) (H : PV.Heap) : Prop :=
  ∃ (i : Nat) (o : List Int), i + n = a.length ∧ MulOut a b o i ∧ F = [(52, .int .i64 i), (51, .int .i64 a.length), (50, .ints .u64 a), (6, .sl 0 0 (a.length + b.length) true), (1, .ints .u64 b), (0, .ints .u64 a)] ∧ H = ⟨1, [(0, .ints .u64 o)], [], []⟩
def MulI (a b o0 : List Int) (i : Nat) (n : Nat) (F : PV.Frame) (H : PV.Heap) : Prop :=
  ∃ (j : Nat) (o : List Int) (c : Int), j + n = b.length ∧ MulIn a b o0 o i j c ∧ F = [(59, .int .i64 j), (58, .int .i64 b.length), (57, .ints .u64 b), (9, .int .u64 c), (8, .int .u64 (a.getD i 0)), (7, .int .i64 i), (52, .int .i64 i), (51, .int .i64 a.length), (50, .ints .u64 a), (6, .sl 0 0 (a.length + b.length) true), (1, .ints .u64 b), (0, .ints .u64 a)] ∧ H = ⟨1, [(0, .ints .u64 o)], [], []⟩
theorem vt_zeros (n : Nat) : ∀ k, vt (List.replicate n 0) k = 0
  | 0 => rfl
  | k + 1 => by
    simp only [vt]
    rw [vt_zeros n k]
    have : (List.replicate n (0 : Int)).getD k 0 = 0 := by simp [List.getD_eq_getElem?_getD, List.getElem?_replicate]; split <;> rfl
    rw [this]; simp
theorem mul_begin (a b : List Int) : MulOut a b (List.replicate (a.length + b.length) 0) 0 :=
  ⟨by simp, fun x hx => by have := List.eq_of_mem_replicate hx; subst this; decide, by rw [vt_zeros]; simp [vt], fun k _ => by simp [List.getD_eq_getElem?_getD, List.getElem?_replicate]; split <;> rfl⟩
set_option maxHeartbeats 4000000 in
theorem nat_mul (a0 b0 : List Int) (ha0 : Limbs a0) (hb0 : Limbs b0) (hla : a0.length ≤ 9223372036854775807) (hlb : b0.length ≤ 9223372036854775807) (hsa : size a0 ≤ 4096) (hsb : size b0 ≤ 4096) (h0a : 0 < size a0) (h0b : 0 < size b0) (hsum : size a0 + size b0 ≤ 4097)
    (p : List Int) (hp : p = limbsOf (size a0 + size b0) (val a0 * val b0).toNat) : Meets Tryz.prog 61 [.ints .u64 a0, .ints .u64 b0] (.tup (if 4096 < size p then [.nil, .int .i64 2] else [.ints .u64 (trim p), .int .i64 0])) := by
  refine meets_by ttOk Tryz.func61 Tryz.ntmps61 Tryz.results61 (by kernel_rfl) (c := _) rfl rfl rfl fun E => ?_
  simp only [argsFrame]
  have hsa' := size_le a0
  have hsb' := size_le b0
  have hba : decide (4096 < size a0) = false := by simp; omega
  have hbb : decide (4096 < size b0) = false := by simp; omega
  have hal : (List.take (size a0) a0).length = size a0 := by simp; omega
  have hbl : (List.take (size b0) b0).length = size b0 := by simp; omega
  have hva : vt (List.take (size a0) a0) (size a0) = val a0 := by
    rw [← vt_size a0]; exact vt_same _ fun j hj => by simp [List.getD_eq_getElem?_getD, List.getElem?_take, hj]
  have hvb : vt (List.take (size b0) b0) (size b0) = val b0 := by
    rw [← vt_size b0]; exact vt_same _ fun j hj => by simp [List.getD_eq_getElem?_getD, List.getElem?_take, hj]
  have ha := limbs_take ha0 (size a0)
  have hb := limbs_take hb0 (size b0)
  repeat' first
    | (with_reducible first | refine PW.seq ?_ | refine PW.block ?_ | refine PW.fork ?_ | refine PW.skip ?_ | refine PW.exit ?_ | refine PW.ret ?_ | refine PW.scope ?_ | refine PW.label ?_ | refine PW.goto ?_)
    | (with_reducible refine PW.region ttOk ?_ ?_
       · rfl)
    | (with_reducible refine PW.regionD ttOk mixed ?_ ?_ ?_
       · rfl
       · rfl)
    | (with_reducible refine ifW_dec (fun g => ?_) (fun g => ?_) <;> first | (exfalso; omega) | (simp -dsimp only [g, wkI]))
    | (with_reducible refine condE_dec (fun g => ?_) (fun g => ?_) <;> try (exfalso; omega))
    | (with_reducible refine condE_not (fun g => ?_) (fun g => ?_) <;> try (exfalso; omega))
    | (simp -dsimp only [↓wkA, ↓wkE, ↓wkJ, wkB, ↓tt, Nat.reduceBEq, Nat.reduceEqDiff, ↓reduceIte, Nat.reduceLT, Array.toList, Nat.reduceAdd, Nat.reduceMul, Int.reduceToNat, Int.reducePow, UInt8.reduceToNat])
    | (refine call_by (nat_big _ (by first | assumption | omega)) (views_data rfl) ⟨trivial, trivial⟩ rfl ?_)
    | (refine callD_by (nat_size _ (by first | assumption | omega)) (views_data rfl) ⟨trivial, trivial⟩ rfl ?_)
    | (simp -dsimp only [hba, hbb])
    | (simp -dsimp (disch := first | assumption | omega) only [dec_t, dec_f])
    | (refine And.intro ?_ ?_
       · first | omega | decide | (simp (disch := omega) only [wkW, Int.reduceToNat, Int.reducePow] <;> omega) | (simp <;> omega))
    | (simp (disch := omega) only [wkW, Int.reduceToNat, Int.reducePow])
    | fail
  · exfalso; simp (disch := omega) only [wkW, Int.reduceToNat, Int.reducePow] at *; omega
  generalize List.take (size a0) a0 = a at *
  generalize List.take (size b0) b0 = b at *
  refine PW.loopA (MulO a b) a.length [(52, .int .i64 (0 : Nat)), (51, .int .i64 a.length), (50, .ints .u64 a), (6, .sl 0 0 (a.length + b.length) true), (1, .ints .u64 b), (0, .ints .u64 a)] ⟨1, [(0, .ints .u64 (List.replicate (a.length + b.length) 0))], [], []⟩ (Sub.norm ⟨rfl, rfl, rfl, ?_, rfl, rfl, trivial⟩ ⟨?_, trivial⟩ (by simp) rfl rfl rfl rfl) ⟨0, _, by omega, mul_begin a b, rfl, rfl⟩ ?_
  · simp (disch := omega) only [↓wkA, ↓wkE, ↓wkJ, wkB, ↓tt, Nat.reduceBEq, Nat.reduceEqDiff, ↓reduceIte, Nat.reduceLT, Array.toList, Nat.reduceAdd, Nat.reduceMul, Int.reduceToNat, Int.reducePow, UInt8.reduceToNat, wkW, Int.reduceToNat, Int.reducePow]
  · simp (disch := omega) only [↓wkA, ↓wkE, ↓wkJ, wkB, ↓tt, Nat.reduceBEq, Nat.reduceEqDiff, ↓reduceIte, Nat.reduceLT, Array.toList, Nat.reduceAdd, Nat.reduceMul, Int.reduceToNat, Int.reducePow, UInt8.reduceToNat, wkW, Int.reduceToNat, Int.reducePow]
  rintro n F H ⟨i, o, hn, ho, rfl, rfl⟩
  have hol := ho.len
  by_cases hi : i < a.length
  · skip
    repeat' first
      | (with_reducible first | refine PW.seq ?_ | refine PW.block ?_ | refine PW.fork ?_ | refine PW.skip ?_ | refine PW.exit ?_ | refine PW.ret ?_ | refine PW.scope ?_ | refine PW.label ?_ | refine PW.goto ?_)
      | (with_reducible refine PW.region ttOk ?_ ?_
         · rfl)
      | (with_reducible refine PW.regionD ttOk mixed ?_ ?_ ?_
         · rfl
         · rfl)
      | (with_reducible refine ifW_dec (fun g => ?_) (fun g => ?_) <;> first | (exfalso; omega) | (simp -dsimp only [g, wkI]))
      | (with_reducible refine condE_dec (fun g => ?_) (fun g => ?_) <;> try (exfalso; omega))
      | (with_reducible refine condE_not (fun g => ?_) (fun g => ?_) <;> try (exfalso; omega))
      | (simp -dsimp only [↓wkA, ↓wkE, ↓wkJ, wkB, ↓tt, Nat.reduceBEq, Nat.reduceEqDiff, ↓reduceIte, Nat.reduceLT, Array.toList, Nat.reduceAdd, Nat.reduceMul, Int.reduceToNat, Int.reducePow, UInt8.reduceToNat])
      | (simp -dsimp (disch := first | assumption | omega) only [dec_t, dec_f])
      | (refine And.intro ?_ ?_
         · first | omega | decide | (simp (disch := omega) only [wkW, Int.reduceToNat, Int.reducePow] <;> omega) | (simp <;> omega))
      | (simp (disch := omega) only [wkW, Int.reduceToNat, Int.reducePow])
      | fail
    refine PW.loopA (MulI a b o i) b.length [(59, .int .i64 (0 : Nat)), (58, .int .i64 b.length), (57, .ints .u64 b), (9, .int .u64 0), (8, .int .u64 (a.getD i 0)), (7, .int .i64 i), (52, .int .i64 i), (51, .int .i64 a.length), (50, .ints .u64 a), (6, .sl 0 0 (a.length + b.length) true), (1, .ints .u64 b), (0, .ints .u64 a)] ⟨1, [(0, .ints .u64 o)], [], []⟩ (Sub.norm ⟨rfl, rfl, rfl, rfl, rfl, rfl, rfl, rfl, rfl, rfl, rfl, rfl, trivial⟩ ⟨rfl, trivial⟩ (Nat.le_refl _) rfl rfl rfl rfl) ⟨0, o, 0, by omega, MulIn.start ho, rfl, rfl⟩ ?_
    rintro m F H ⟨j, q, c, hm, hq, rfl, rfl⟩
    have hql := hq.len
    have hc := hq.car
    by_cases hj : j < b.length
    · have hx := getD_limb ha i
      have hy := getD_limb hb j
      have hd := getD_limb hq.lim (i + j)
      have hxy := mul_bound hx hy
      simp only [B64] at hc hx hy hd
      repeat' first
        | (with_reducible first | refine PW.seq ?_ | refine PW.block ?_ | refine PW.fork ?_ | refine PW.skip ?_ | refine PW.exit ?_ | refine PW.ret ?_ | refine PW.scope ?_ | refine PW.label ?_ | refine PW.goto ?_)
        | (with_reducible refine PW.region ttOk ?_ ?_
           · rfl)
        | (with_reducible refine PW.regionD ttOk mixed ?_ ?_ ?_
           · rfl
           · rfl)
        | (with_reducible refine ifW_dec (fun g => ?_) (fun g => ?_) <;> first | (exfalso; omega) | (simp -dsimp only [g, wkI]))
        | (with_reducible refine condE_dec (fun g => ?_) (fun g => ?_) <;> try (exfalso; omega))
        | (with_reducible refine condE_not (fun g => ?_) (fun g => ?_) <;> try (exfalso; omega))
        | (simp -dsimp only [↓wkA, ↓wkE, ↓wkJ, wkB, ↓tt, Nat.reduceBEq, Nat.reduceEqDiff, ↓reduceIte, Nat.reduceLT, Array.toList, Nat.reduceAdd, Nat.reduceMul, Int.reduceToNat, Int.reducePow, UInt8.reduceToNat])
        | (refine call_by (mul64 _ _ (by assumption) (by assumption)) (views_data rfl) ⟨trivial, trivial, trivial⟩ rfl ?_)
        | (refine call_by (add64 (by omega) (by omega) (by omega)) (views_data rfl) ⟨trivial, trivial, trivial, trivial⟩ rfl ?_)
        | (simp -dsimp only [B64])
        | (simp -dsimp (disch := first | assumption | omega) only [dec_t, dec_f])
        | (refine And.intro ?_ ?_
           · first | omega | decide | (simp (disch := omega) only [wkW, Int.reduceToNat, Int.reducePow] <;> omega) | (simp <;> omega))
        | (simp (disch := omega) only [wkW, Int.reduceToNat, Int.reducePow])
        | fail
      have hs1 : a.getD i 0 * b.getD j 0 / 18446744073709551616 + (a.getD i 0 * b.getD j 0 % 18446744073709551616 + q.getD (i + j) 0 + 0) / 18446744073709551616 + ((a.getD i 0 * b.getD j 0 % 18446744073709551616 + q.getD (i + j) 0 + 0) % 18446744073709551616 + c + 0) / 18446744073709551616 = (a.getD i 0 * b.getD j 0 + q.getD (i + j) 0 + c) / B64 := by
        simp only [B64]; omega
      have hs2 : ((a.getD i 0 * b.getD j 0 % 18446744073709551616 + q.getD (i + j) 0 + 0) % 18446744073709551616 + c + 0) % 18446744073709551616 = (a.getD i 0 * b.getD j 0 + q.getD (i + j) 0 + c) % B64 := by
        simp only [B64]; omega
      have hstep := hq.step hi hj (s := a.getD i 0 * b.getD j 0 + q.getD (i + j) 0 + c) rfl (by simp only [B64]; omega)
      rw [hs1, hs2]
      exact Again.mk (m - 1) [(59, .int .i64 (j + 1 : Nat)), (58, .int .i64 b.length), (57, .ints .u64 b), (9, .int .u64 ((a.getD i 0 * b.getD j 0 + q.getD (i + j) 0 + c) / B64)), (8, .int .u64 (a.getD i 0)), (7, .int .i64 i), (52, .int .i64 i), (51, .int .i64 a.length), (50, .ints .u64 a), (6, .sl 0 0 (a.length + b.length) true), (1, .ints .u64 b), (0, .ints .u64 a)] ⟨1, [(0, .ints .u64 (q.set (i + j) ((a.getD i 0 * b.getD j 0 + q.getD (i + j) 0 + c) % B64)))], [], []⟩ (by omega) (Sub.norm ⟨rfl, rfl, rfl, rfl, rfl, rfl, rfl, rfl, rfl, rfl, rfl, rfl, trivial⟩ ⟨rfl, trivial⟩ (Nat.le_refl _) rfl rfl rfl rfl) ⟨j + 1, _, _, by omega, hstep, rfl, rfl⟩
    · obtain rfl : j = b.length := by omega
      repeat' first
        | (with_reducible first | refine PW.seq ?_ | refine PW.block ?_ | refine PW.fork ?_ | refine PW.skip ?_ | refine PW.exit ?_ | refine PW.ret ?_ | refine PW.scope ?_ | refine PW.label ?_ | refine PW.goto ?_)
        | (with_reducible refine PW.region ttOk ?_ ?_
           · rfl)
        | (with_reducible refine PW.regionD ttOk mixed ?_ ?_ ?_
           · rfl
           · rfl)
        | (with_reducible refine ifW_dec (fun g => ?_) (fun g => ?_) <;> first | (exfalso; omega) | (simp -dsimp only [g, wkI]))
        | (with_reducible refine condE_dec (fun g => ?_) (fun g => ?_) <;> try (exfalso; omega))
        | (with_reducible refine condE_not (fun g => ?_) (fun g => ?_) <;> try (exfalso; omega))
        | (simp -dsimp only [↓wkA, ↓wkE, ↓wkJ, wkB, ↓tt, Nat.reduceBEq, Nat.reduceEqDiff, ↓reduceIte, Nat.reduceLT, Array.toList, Nat.reduceAdd, Nat.reduceMul, Int.reduceToNat, Int.reducePow, UInt8.reduceToNat])
        | (simp -dsimp (disch := first | assumption | omega) only [dec_t, dec_f])
        | (refine And.intro ?_ ?_
           · first | omega | decide | (simp (disch := omega) only [wkW, Int.reduceToNat, Int.reducePow] <;> omega) | (simp <;> omega))
        | (simp (disch := omega) only [wkW, Int.reduceToNat, Int.reducePow])
        | fail
      exact Again.mk (n - 1) [(52, .int .i64 (i + 1 : Nat)), (51, .int .i64 a.length), (50, .ints .u64 a), (6, .sl 0 0 (a.length + b.length) true), (1, .ints .u64 b), (0, .ints .u64 a)] ⟨1, [(0, .ints .u64 (q.set (i + b.length) c))], [], []⟩ (by omega) (Sub.norm ⟨rfl, rfl, rfl, rfl, rfl, rfl, trivial⟩ ⟨rfl, trivial⟩ (Nat.le_refl _) rfl rfl rfl rfl) ⟨i + 1, _, by omega, hq.fin ho hi, rfl, rfl⟩
  · obtain rfl : i = a.length := by omega
    have hpo : p = o := by
      have hlt := Int.mul_nonneg (vt_bound ha (size a0)).1 (vt_bound hb (size b0)).1
      have hval : val o = val a0 * val b0 := by unfold val; rw [hol, ho.eq, hal, hbl, hva, hvb]; rfl
      rw [hva, hvb] at hlt
      have hup := (vt_bound ho.lim o.length).2
      refine hp.trans (val_inj (limbsOf_limbs _ _) ho.lim (by rw [limbsOf_length, hol, hal, hbl]) ?_)
      rw [limbsOf_val, Int.toNat_of_nonneg hlt, hval]
      have h2 : val o < B64 ^ o.length := hup
      rw [hval, hol, hal, hbl] at h2
      have e : B64 ^ (size a0 + size b0) = ((18446744073709551616 ^ (size a0 + size b0) : Nat) : Int) := by rw [Int.natCast_pow]; rfl
      rw [e] at h2
      omega
    subst hpo
    have hcut := nat_cut p (by omega)
    by_cases hbig : 4096 < size p
    · rw [if_pos hbig] at hcut ⊢
      repeat' first
        | (with_reducible first | refine PW.seq ?_ | refine PW.block ?_ | refine PW.fork ?_ | refine PW.skip ?_ | refine PW.exit ?_ | refine PW.ret ?_ | refine PW.scope ?_ | refine PW.label ?_ | refine PW.goto ?_)
        | (with_reducible refine PW.region ttOk ?_ ?_
           · rfl)
        | (with_reducible refine PW.regionD ttOk mixed ?_ ?_ ?_
           · rfl
           · rfl)
        | (with_reducible refine ifW_dec (fun g => ?_) (fun g => ?_) <;> first | (exfalso; omega) | (simp -dsimp only [g, wkI]))
        | (with_reducible refine condE_dec (fun g => ?_) (fun g => ?_) <;> try (exfalso; omega))
        | (with_reducible refine condE_not (fun g => ?_) (fun g => ?_) <;> try (exfalso; omega))
        | (simp -dsimp only [↓wkA, ↓wkE, ↓wkJ, wkB, ↓tt, Nat.reduceBEq, Nat.reduceEqDiff, ↓reduceIte, Nat.reduceLT, Array.toList, Nat.reduceAdd, Nat.reduceMul, Int.reduceToNat, Int.reducePow, UInt8.reduceToNat])
        | (refine call_by' (args' := [.ints .u64 p]) (by simp -dsimp only [↓wkA, ↓wkE, ↓wkJ, wkB, ↓tt, Nat.reduceBEq, Nat.reduceEqDiff, ↓reduceIte, Nat.reduceLT, Array.toList, Nat.reduceAdd, Nat.reduceMul, Int.reduceToNat, Int.reducePow, UInt8.reduceToNat] <;> rw [List.take_of_length_le (by omega)]) hcut (by simp -dsimp only [okViews, ↓wkA, ↓wkE, ↓wkJ, wkB, ↓tt, Nat.reduceBEq, Nat.reduceEqDiff, ↓reduceIte, Nat.reduceLT, Array.toList, Nat.reduceAdd, Nat.reduceMul, Int.reduceToNat, Int.reducePow, UInt8.reduceToNat] <;> omega) rfl ?_)
        | (simp -dsimp (disch := first | assumption | omega) only [dec_t, dec_f])
        | (refine And.intro ?_ ?_
           · first | omega | decide | (simp (disch := omega) only [wkW, Int.reduceToNat, Int.reducePow] <;> omega) | (simp <;> omega))
        | (simp (disch := omega) only [wkW, Int.reduceToNat, Int.reducePow])
        | fail
    · rw [if_neg hbig] at hcut ⊢
      repeat' first
        | (with_reducible first | refine PW.seq ?_ | refine PW.block ?_ | refine PW.fork ?_ | refine PW.skip ?_ | refine PW.exit ?_ | refine PW.ret ?_ | refine PW.scope ?_ | refine PW.label ?_ | refine PW.goto ?_)
        | (with_reducible refine PW.region ttOk ?_ ?_
           · rfl)
        | (with_reducible refine PW.regionD ttOk mixed ?_ ?_ ?_
           · rfl
           · rfl)
        | (with_reducible refine ifW_dec (fun g => ?_) (fun g => ?_) <;> first | (exfalso; omega) | (simp -dsimp only [g, wkI]))
        | (with_reducible refine condE_dec (fun g => ?_) (fun g => ?_) <;> try (exfalso; omega))
        | (with_reducible refine condE_not (fun g => ?_) (fun g => ?_) <;> try (exfalso; omega))
        | (simp -dsimp only [↓wkA, ↓wkE, ↓wkJ, wkB, ↓tt, Nat.reduceBEq, Nat.reduceEqDiff, ↓reduceIte, Nat.reduceLT, Array.toList, Nat.reduceAdd, Nat.reduceMul, Int.reduceToNat, Int.reducePow, UInt8.reduceToNat])
        | (refine call_drop (args' := [.ints .u64 p]) (by simp -dsimp only [↓wkA, ↓wkE, ↓wkJ, wkB, ↓tt, Nat.reduceBEq, Nat.reduceEqDiff, ↓reduceIte, Nat.reduceLT, Array.toList, Nat.reduceAdd, Nat.reduceMul, Int.reduceToNat, Int.reducePow, UInt8.reduceToNat] <;> rw [List.take_of_length_le (by omega)]) hcut (by simp -dsimp only [okViews, ↓wkA, ↓wkE, ↓wkJ, wkB, ↓tt, Nat.reduceBEq, Nat.reduceEqDiff, ↓reduceIte, Nat.reduceLT, Array.toList, Nat.reduceAdd, Nat.reduceMul, Int.reduceToNat, Int.reducePow, UInt8.reduceToNat] <;> omega) rfl ?_)
        | (simp -dsimp (disch := first | assumption | omega) only [dec_t, dec_f])
        | (refine And.intro ?_ ?_
           · first | omega | decide | (simp (disch := omega) only [wkW, Int.reduceToNat, Int.reducePow] <;> omega) | (simp <;> omega))
        | (simp (disch := omega) only [wkW, Int.reduceToNat, Int.reducePow])
        | fail
def bitlen (n : Nat) : Nat := if n = 0 then 0 else n.log2 + 1
theorem bitlen_eq {n k : Nat} (h1 : 2 ^ k ≤ n) (h2 : n < 2 ^ (k + 1)) : bitlen n = k + 1 := by
  have h0 : n ≠ 0 := by have := Nat.two_pow_pos k; omega
  unfold bitlen
  rw [if_neg h0, (Nat.log2_eq_iff h0).2 ⟨h1, h2⟩]
theorem bitlen_spec {n : Nat} (h : n ≠ 0) : ∃ k, bitlen n = k + 1 ∧ 2 ^ k ≤ n ∧ n < 2 ^ (k + 1) := by
  refine ⟨n.log2, by simp [bitlen, h], ?_⟩
  exact (Nat.log2_eq_iff h).1 rfl
theorem bitlen_div {n : Nat} (m : Nat) (h : 2 ^ m ≤ n) : bitlen n = bitlen (n / 2 ^ m) + m := by
  have hp := Nat.two_pow_pos m
  have h0 : n / 2 ^ m ≠ 0 := by
    have := Nat.div_pos h hp; omega
  obtain ⟨k, hk, h1, h2⟩ := bitlen_spec h0
  rw [hk]
  have h3 : 2 ^ (k + m) ≤ n := by
    rw [Nat.pow_add]; exact (Nat.le_div_iff_mul_le hp).1 h1
  have h4 : n < 2 ^ (k + m + 1) := by
    rw [show k + m + 1 = (k + 1) + m by omega, Nat.pow_add]
    exact (Nat.div_lt_iff_lt_mul hp).1 h2
  rw [bitlen_eq h3 h4]; omega
def len8 : List Int := (List.range 256).map fun k => ((bitlen k : Nat) : Int)
theorem len8_at (L : List Int) (hL : L = len8) (k : Nat) (hk : k < 256) : L.getD k 0 = ((bitlen k : Nat) : Int) := by
  subst hL
  simp [len8, hk]
theorem len8_len (L : List Int) (hL : L = len8) : L.length = 256 := by subst hL; simp [len8]
theorem u64_shr (x : Int) (hx : 0 ≤ x) (k : Nat) : (x / 2 ^ k).toNat = x.toNat / 2 ^ k := by
  obtain ⟨n, rfl⟩ := Int.eq_ofNat_of_zero_le hx
  have : ((n : Int) / 2 ^ k) = ((n / 2 ^ k : Nat) : Int) := by simp
  rw [this, Int.toNat_natCast, Int.toNat_natCast]
theorem bl_step (x : Int) (m : Nat) (M : Int) (hM : M = 2 ^ m) (hx : M ≤ x) : ((bitlen x.toNat : Nat) : Int) = ((bitlen (x / M).toNat : Nat) : Int) + m := by
  subst hM
  have hp : (0 : Int) < 2 ^ m := Int.pow_pos (by decide)
  rw [u64_shr x (by omega), bitlen_div m (n := x.toNat) (by
    have : ((2 ^ m : Nat) : Int) ≤ x := by simpa using hx
    omega)]
  omega
theorem bitlen_le {n : Nat} {k : Nat} (h : n < 2 ^ k) : bitlen n ≤ k := by
  by_cases h0 : n = 0
  · subst h0; simp [bitlen]
  · obtain ⟨j, hj, h1, _⟩ := bitlen_spec h0
    rw [hj]
    have : 2 ^ j < 2 ^ k := Nat.lt_of_le_of_lt h1 h
    have := (Nat.pow_lt_pow_iff_right (by decide)).1 this
    omega
theorem wrapbl (y : Int) (h : 0 ≤ y ∧ y < 256) : IntKind.wrap .i64 ((bitlen y.toNat : Nat) : Int) = ((bitlen y.toNat : Nat) : Int) := by
  have := bitlen_le (n := y.toNat) (k := 8) (by simp only [Nat.reducePow]; omega)
  exact wrap_i64 (by omega)
theorem wrapbl2 (c y : Int) (hc : 0 ≤ c ∧ c ≤ 100) (h : 0 ≤ y ∧ y < 256) : IntKind.wrap .i64 (c + ((bitlen y.toNat : Nat) : Int)) = c + ((bitlen y.toNat : Nat) : Int) := by
  have := bitlen_le (n := y.toNat) (k := 8) (by simp only [Nat.reducePow]; omega)
  exact wrap_i64 (by omega)
set_option maxRecDepth 100000 in
set_option maxHeartbeats 2000000 in
theorem len64 (x : Int) (hx : 0 ≤ x ∧ x < B64) : Meets Tryz.prog 184 [.int .u64 x] (.int .i64 ((bitlen x.toNat : Nat) : Int)) := by
  refine meets_by ttOk Tryz.func184 Tryz.ntmps184 Tryz.results184 (by kernel_rfl) (c := _) rfl rfl rfl fun E => ?_
  simp only [B64] at hx
  simp only [argsFrame]
  have h32 := fun h : 4294967296 ≤ x => bl_step x 32 4294967296 (by decide) h
  have h16 := fun (y : Int) (h : 65536 ≤ y) => bl_step y 16 65536 (by decide) h
  have h8 := fun (y : Int) (h : 256 ≤ y) => bl_step y 8 256 (by decide) h
  have bound := fun (y : Int) (h : 0 ≤ y) (h2 : y < 256) => bitlen_le (n := y.toNat) (k := 8) (by simp only [Nat.reducePow]; omega)
  repeat' first
    | (simp (disch := omega) only [wkW, Int.reduceToNat, Int.reducePow])
    | (with_reducible first | refine PW.seq ?_ | refine PW.block ?_ | refine PW.fork ?_ | refine PW.skip ?_ | refine PW.exit ?_ | refine PW.ret ?_ | refine PW.scope ?_ | refine PW.label ?_ | refine PW.goto ?_)
    | (with_reducible refine PW.region ttOk ?_ ?_
       · rfl)
    | (with_reducible refine PW.regionD ttOk mixed ?_ ?_ ?_
       · rfl
       · rfl)
    | (with_reducible refine ifW_dec (fun g => ?_) (fun g => ?_) <;> first | (exfalso; omega) | (simp -dsimp only [g, wkI]))
    | (with_reducible refine condE_dec (fun g => ?_) (fun g => ?_) <;> try (exfalso; omega))
    | (with_reducible refine condE_not (fun g => ?_) (fun g => ?_) <;> try (exfalso; omega))
    | (simp -dsimp only [↓wkA, ↓wkE, ↓wkJ, wkB, ↓tt, Nat.reduceBEq, Nat.reduceEqDiff, ↓reduceIte, Nat.reduceLT, Array.toList, Nat.reduceAdd, Nat.reduceMul, Int.reduceToNat, Int.reducePow, UInt8.reduceToNat])
    | (rw [len8_len _ (by decide +kernel)])
    | (simp -dsimp (disch := first | assumption | omega) only [dec_t, dec_f])
    | (refine And.intro ?_ ?_
       · first | omega | decide | (simp (disch := omega) only [wkW, Int.reduceToNat, Int.reducePow] <;> omega) | (simp <;> omega))
    | (simp (disch := omega) only [wkW, Int.reduceToNat, Int.reducePow])
    | fail
  all_goals
    rw [len8_at _ (by decide +kernel) _ (by omega)]
    refine congrArg _ ?_
    try rw [h32 (by assumption)]
    try rw [h16 _ (by assumption)]
    try rw [h8 _ (by assumption)]
    simp (disch := omega) only [wrapbl, wrapbl2]
    omega
theorem leading (x : Int) (hx : 0 < x ∧ x < B64) : ∃ s : Nat, s ≤ 63 ∧ 9223372036854775808 ≤ x * 2 ^ s ∧ x * 2 ^ s < B64 ∧ Meets Tryz.prog 194 [.int .u64 x] (.int .i64 (s : Int)) := by
  simp only [B64] at hx
  obtain ⟨k, hk, h1, h2⟩ := bitlen_spec (n := x.toNat) (by omega)
  have hle : bitlen x.toNat ≤ 64 := bitlen_le (by simp only [Nat.reducePow]; omega)
  have hm := len64 x ⟨by omega, by simp only [B64]; omega⟩
  have e1 : ((2 ^ k : Nat) : Int) ≤ x := by omega
  have e2 : x < ((2 ^ (k + 1) : Nat) : Int) := by omega
  have hs : ((2 : Int) ^ (63 - k)) = ((2 ^ (63 - k) : Nat) : Int) := by simp
  have hp : (0 : Int) < ((2 ^ (63 - k) : Nat) : Int) := by have := Nat.two_pow_pos (63 - k); omega
  refine ⟨63 - k, by omega, ?_, ?_, ?_⟩
  · have h3 : ((2 ^ k : Nat) : Int) * ((2 ^ (63 - k) : Nat) : Int) = 9223372036854775808 := by
      rw [← Int.natCast_mul, ← Nat.pow_add, show k + (63 - k) = 63 by omega]; rfl
    rw [hs, ← h3]
    exact Int.mul_le_mul_of_nonneg_right e1 (by omega)
  · have h3 : ((2 ^ (k + 1) : Nat) : Int) * ((2 ^ (63 - k) : Nat) : Int) = B64 := by
      rw [← Int.natCast_mul, ← Nat.pow_add, show k + 1 + (63 - k) = 64 by omega]; rfl
    rw [hs, ← h3]
    exact Int.mul_lt_mul_of_pos_right e2 hp
  · refine meets_by ttOk Tryz.func194 Tryz.ntmps194 Tryz.results194 (by kernel_rfl) (c := _) rfl rfl rfl fun E => ?_
    simp only [argsFrame]
    repeat' first
      | (with_reducible first | refine PW.seq ?_ | refine PW.block ?_ | refine PW.fork ?_ | refine PW.skip ?_ | refine PW.exit ?_ | refine PW.ret ?_ | refine PW.scope ?_ | refine PW.label ?_ | refine PW.goto ?_)
      | (with_reducible refine PW.region ttOk ?_ ?_
         · rfl)
      | (with_reducible refine PW.regionD ttOk mixed ?_ ?_ ?_
         · rfl
         · rfl)
      | (with_reducible refine ifW_dec (fun g => ?_) (fun g => ?_) <;> first | (exfalso; omega) | (simp -dsimp only [g, wkI]))
      | (with_reducible refine condE_dec (fun g => ?_) (fun g => ?_) <;> try (exfalso; omega))
      | (with_reducible refine condE_not (fun g => ?_) (fun g => ?_) <;> try (exfalso; omega))
      | (simp -dsimp only [↓wkA, ↓wkE, ↓wkJ, wkB, ↓tt, Nat.reduceBEq, Nat.reduceEqDiff, ↓reduceIte, Nat.reduceLT, Array.toList, Nat.reduceAdd, Nat.reduceMul, Int.reduceToNat, Int.reducePow, UInt8.reduceToNat])
      | (refine call_by hm (views_data rfl) ⟨trivial, trivial⟩ rfl ?_)
      | (simp -dsimp (disch := first | assumption | omega) only [dec_t, dec_f])
      | (refine And.intro ?_ ?_
         · first | omega | decide | (simp (disch := omega) only [wkW, Int.reduceToNat, Int.reducePow] <;> omega) | (simp <;> omega))
      | (simp (disch := omega) only [wkW, Int.reduceToNat, Int.reducePow])
      | fail
    refine congrArg _ ?_
    omega
structure Half (u y1 y0 m : Int) : Prop where
  hy1 : 2147483648 ≤ y1 ∧ y1 < 4294967296
  hy0 : 0 ≤ y0 ∧ y0 < 4294967296
  hm : 0 ≤ m ∧ m < 4294967296
  hu : 0 ≤ u ∧ u < y1 * 4294967296 + y0
abbrev halfQ (u y1 y0 m : Int) : Int := (u * 4294967296 + m) / (y1 * 4294967296 + y0)
structure Est (u y1 y0 m q r : Int) : Prop where
  he : q * y1 + r = u
  hr : 0 ≤ r
  lo : halfQ u y1 y0 m ≤ q
  hi : q ≤ 4294967297
  q0 : 0 ≤ q
section
variable {u y1 y0 m q r : Int}
theorem half_ring (q y1 y0 : Int) : q * (y1 * 4294967296 + y0) = (q * y1) * 4294967296 + q * y0 := by grind
theorem half_le (h : Half u y1 y0 m) (he : q * y1 + r = u) (hq : q * y0 ≤ r * 4294967296 + m) : q ≤ halfQ u y1 y0 m := by
  have := h.hy1; have := h.hy0
  rw [halfQ, Int.le_ediv_iff_mul_le (by omega), half_ring]
  omega
theorem half_lt (h : Half u y1 y0 m) (he : q * y1 + r = u) (hq : r * 4294967296 + m < q * y0) : halfQ u y1 y0 m < q := by
  have := h.hy1; have := h.hy0
  rw [halfQ, Int.ediv_lt_iff_lt_mul (by omega), half_ring]
  omega
theorem half_top (h : Half u y1 y0 m) : halfQ u y1 y0 m < 4294967296 := by
  have := h.hy1; have := h.hy0; have := h.hm; have := h.hu
  rw [halfQ, Int.ediv_lt_iff_lt_mul (by omega)]
  omega
theorem half_nonneg (h : Half u y1 y0 m) : 0 ≤ halfQ u y1 y0 m := by
  have := h.hy1; have := h.hy0; have := h.hm; have := h.hu
  exact Int.ediv_nonneg (by omega) (by omega)
theorem est_init (h : Half u y1 y0 m) : Est u y1 y0 m (u / y1) (u - u / y1 * y1) ∧ u - u / y1 * y1 < y1 := by
  have h1 := h.hy1; have h2 := h.hy0; have h3 := h.hm; have h4 := h.hu
  have e := Int.emod_add_mul_ediv u y1
  have e1 := Int.emod_nonneg u (show y1 ≠ 0 by omega)
  have e2 := Int.emod_lt_of_pos u (show 0 < y1 by omega)
  have e3 : y1 * (u / y1) = u / y1 * y1 := Int.mul_comm _ _
  refine ⟨⟨by omega, by omega, ?_, ?_, Int.ediv_nonneg (by omega) (by omega)⟩, by omega⟩
  · rw [Int.le_ediv_iff_mul_le (by omega)]
    have h5 := Int.ediv_mul_le (u * 4294967296 + m) (show y1 * 4294967296 + y0 ≠ 0 by omega)
    rw [half_ring] at h5
    have h6 : 0 ≤ halfQ u y1 y0 m * y0 := Int.mul_nonneg (half_nonneg h) h2.1
    simp only [halfQ] at h6 ⊢
    omega
  · have : u / y1 < 4294967298 := by
      rw [Int.ediv_lt_iff_lt_mul (by omega)]
      omega
    omega
theorem est_prod (h : Half u y1 y0 m) (e : Est u y1 y0 m q r) : 0 ≤ q * y0 ∧ q * y0 ≤ 18446744078004518911 ∧ (q ≤ 4294967296 → q * y0 ≤ 18446744069414584320) ∧ (q < 4294967296 → q * y0 ≤ 18446744065119617025) := by
  have h2 := h.hy0
  refine ⟨Int.mul_nonneg e.q0 h2.1, ?_, fun hq => ?_, fun hq => ?_⟩
  · exact Int.le_trans (Int.mul_le_mul e.hi (show y0 ≤ 4294967295 by omega) h2.1 (by omega)) (by decide)
  · exact Int.le_trans (Int.mul_le_mul hq (show y0 ≤ 4294967295 by omega) h2.1 (by omega)) (by decide)
  · exact Int.le_trans (Int.mul_le_mul (show q ≤ 4294967295 by omega) (show y0 ≤ 4294967295 by omega) h2.1 (by omega)) (by decide)
theorem est_dec (h : Half u y1 y0 m) (e : Est u y1 y0 m q r) (hc : 4294967296 ≤ q ∨ r * 4294967296 + m < q * y0) : Est u y1 y0 m (q - 1) (r + y1) ∧ 1 ≤ q := by
  have h1 := h.hy1
  have hlt : halfQ u y1 y0 m < q := by
    rcases hc with hc | hc
    · have := half_top h; omega
    · exact half_lt h e.he hc
  have := half_nonneg h
  have e1 := e.he; have e2 := e.hr; have e3 := e.hi
  exact ⟨⟨by rw [Int.sub_mul]; omega, by omega, by omega, by omega, by omega⟩, by omega⟩
theorem est_stop (h : Half u y1 y0 m) (e : Est u y1 y0 m q r) (hc : q * y0 ≤ r * 4294967296 + m) : q = halfQ u y1 y0 m := by
  have := half_le h e.he hc
  have := e.lo
  omega
theorem est_over (h : Half u y1 y0 m) (e : Est u y1 y0 m q r) (hq : q ≤ 4294967296) (hr : 4294967296 ≤ r) : q = halfQ u y1 y0 m := by
  refine est_stop h e ?_
  have := (est_prod h e).2.2.1 hq
  have := h.hm
  omega
end
theorem or_low (x z : Int) (s : Nat) (hx : 0 ≤ x) (hz : 0 ≤ z ∧ z < 2 ^ s) (hs : x * 2 ^ s + z ≤ 18446744073709551615) : ibits .or .u64 (x * 2 ^ s) z = x * 2 ^ s + z := by
  obtain ⟨a, rfl⟩ := Int.eq_ofNat_of_zero_le hx
  obtain ⟨c, rfl⟩ := Int.eq_ofNat_of_zero_le hz.1
  have e1 : ((a : Int) * 2 ^ s) = ((a * 2 ^ s : Nat) : Int) := by simp
  have hc : c < 2 ^ s := by
    have : (c : Int) < ((2 ^ s : Nat) : Int) := by simpa using hz.2
    omega
  rw [e1] at hs ⊢
  change IntKind.wrap .u64 (((BitVec.ofInt 64 ((a * 2 ^ s : Nat) : Int) ||| BitVec.ofInt 64 (c : Int)).toNat : Nat) : Int) = _
  rw [BitVec.toNat_or, BitVec.toNat_ofInt, BitVec.toNat_ofInt]
  have e2 : ((((a * 2 ^ s : Nat) : Int)) % ((2 ^ 64 : Nat) : Int)).toNat = a * 2 ^ s := by rw [Int.emod_eq_of_lt (by omega) (by simp only [Nat.reducePow]; omega), Int.toNat_natCast]
  have e3 : ((c : Int) % ((2 ^ 64 : Nat) : Int)).toNat = c := by rw [Int.emod_eq_of_lt (by omega) (by simp only [Nat.reducePow]; omega), Int.toNat_natCast]
  rw [e2, e3]
  have e4 : a * 2 ^ s ||| c = a * 2 ^ s + c := by
    rw [← Nat.shiftLeft_eq, ← Nat.shiftLeft_add_eq_or_of_lt hc]
  rw [e4, wrap_u64 (by omega)]
  simp
theorem and32' {a : Int} (ha : 0 ≤ a ∧ a ≤ 18446744073709551615) : ibits .and .u64 a 4294967295 = a % 4294967296 := and32 ha
abbrev fA (Y y1 y0 u m1 m0 s q r : Int) : PV.Frame := [(15, .int .u64 q), (16, .int .u64 r), (2, .int .u64 Y), (9, .int .u64 y1), (10, .int .u64 y0), (11, .int .u64 u), (13, .int .u64 m1), (14, .int .u64 m0), (8, .int .u64 s)]
abbrev fA' (Y y1 y0 u m1 m0 s : Int) : PV.Frame := [(15, .int .u64 (halfQ u y1 y0 m1)), (2, .int .u64 Y), (9, .int .u64 y1), (10, .int .u64 y0), (11, .int .u64 u), (13, .int .u64 m1), (14, .int .u64 m0), (8, .int .u64 s)]
abbrev fB (Y y1 y0 q1 u m0 s q r : Int) : PV.Frame := [(18, .int .u64 q), (16, .int .u64 r), (2, .int .u64 Y), (9, .int .u64 y1), (10, .int .u64 y0), (17, .int .u64 u), (15, .int .u64 q1), (14, .int .u64 m0), (8, .int .u64 s)]
abbrev fB' (Y y1 y0 q1 u m0 s : Int) : PV.Frame := [(18, .int .u64 (halfQ u y1 y0 m0)), (2, .int .u64 Y), (17, .int .u64 u), (15, .int .u64 q1), (14, .int .u64 m0), (8, .int .u64 s)]
def DivA (Y y1 y0 u m1 m0 s : Int) (n : Nat) (F : PV.Frame) (H : PV.Heap) : Prop :=
  ∃ q r, Est u y1 y0 m1 q r ∧ r < 4294967296 ∧ q.toNat = n ∧ F = [(15, .int .u64 q), (16, .int .u64 r), (2, .int .u64 Y), (9, .int .u64 y1), (10, .int .u64 y0), (11, .int .u64 u), (13, .int .u64 m1), (14, .int .u64 m0), (8, .int .u64 s)] ∧ H = ⟨0, [], [], []⟩
def DivA' (Y y1 y0 u m1 m0 s : Int) (F : PV.Frame) (H : PV.Heap) : Prop :=
  F = [(15, .int .u64 (halfQ u y1 y0 m1)), (2, .int .u64 Y), (9, .int .u64 y1), (10, .int .u64 y0), (11, .int .u64 u), (13, .int .u64 m1), (14, .int .u64 m0), (8, .int .u64 s)] ∧ H = ⟨0, [], [], []⟩
def DivB (Y y1 y0 q1 u m0 s : Int) (n : Nat) (F : PV.Frame) (H : PV.Heap) : Prop :=
  ∃ q r, Est u y1 y0 m0 q r ∧ r < 4294967296 ∧ q.toNat = n ∧ F = [(18, .int .u64 q), (16, .int .u64 r), (2, .int .u64 Y), (9, .int .u64 y1), (10, .int .u64 y0), (17, .int .u64 u), (15, .int .u64 q1), (14, .int .u64 m0), (8, .int .u64 s)] ∧ H = ⟨0, [], [], []⟩
def DivB' (Y y1 y0 q1 u m0 s : Int) (F : PV.Frame) (H : PV.Heap) : Prop :=
  F = [(18, .int .u64 (halfQ u y1 y0 m0)), (2, .int .u64 Y), (17, .int .u64 u), (15, .int .u64 q1), (14, .int .u64 m0), (8, .int .u64 s)] ∧ H = ⟨0, [], [], []⟩
set_option maxHeartbeats 2000000 in
theorem div64 (hi lo y : Int) (hy : 0 < y ∧ y < B64) (hh : 0 ≤ hi ∧ hi < y) (hl : 0 ≤ lo ∧ lo < B64) : Meets Tryz.prog 163 [.int .u64 hi, .int .u64 lo, .int .u64 y] (.tup [.int .u64 ((hi * B64 + lo) / y), .int .u64 ((hi * B64 + lo) % y)]) := by
  obtain ⟨s, hs, hn1, hn2, hm⟩ := leading y hy
  simp only [B64] at *
  have hs1 : ((s : Int)).toNat = s := Int.toNat_natCast s
  have hs2 : min s 64 = s := by omega
  have hs3 : (64 - (s : Int)).toNat = 64 - s := by omega
  have hs4 : min (64 - s) 64 = 64 - s := by omega
  have hBC : (2 : Int) ^ (64 - s) * 2 ^ s = 18446744073709551616 := by
    rw [← Int.pow_add, show 64 - s + s = 64 by omega]; rfl
  have hor := or_low hi
  obtain ⟨B, hB'⟩ : ∃ B, (2 : Int) ^ s = B := ⟨_, rfl⟩
  obtain ⟨C, hC⟩ : ∃ C, (2 : Int) ^ (64 - s) = C := ⟨_, rfl⟩
  have hB0 : 0 < B := by rw [← hB']; exact Int.pow_pos (by decide)
  have hC0 : 0 < C := by rw [← hC]; exact Int.pow_pos (by decide)
  have hor := fun z => hor z s hh.1
  rw [hB'] at hn1 hn2 hBC
  simp only [hB'] at hor
  rw [hC] at hBC
  have hd1 : 0 ≤ lo / C := Int.ediv_nonneg hl.1 (by omega)
  have hd2 : lo / C < B := by
    rw [Int.ediv_lt_iff_lt_mul hC0, Int.mul_comm]; omega
  have hhB : 0 ≤ hi * B := Int.mul_nonneg hh.1 (by omega)
  have hhB2 : (hi + 1) * B ≤ y * B := Int.mul_le_mul_of_nonneg_right (by omega) (by omega)
  have hhB3 : (hi + 1) * B = hi * B + B := by grind
  have hfd : lo.fdiv C = lo / C := fdiv_pos (by omega)
  have hwB : IntKind.wrap .u64 (hi * B) = hi * B := wrap_u64 (by omega)
  have hwY : IntKind.wrap .u64 (y * B) = y * B := wrap_u64 (by omega)
  have hoU := hor (lo / C) ⟨hd1, hd2⟩ (by omega)
  have hL : IntKind.wrap .u64 (lo * B) = lo % C * B := by
    rw [wrap_u64']
    have e1 := Int.emod_add_mul_ediv lo C
    have e2 : lo * B = lo % C * B + 18446744073709551616 * (lo / C) := by
      have e3 : lo * B = (lo % C + C * (lo / C)) * B := by rw [e1]
      rw [e3, ← hBC]; grind
    have e4 := Int.emod_nonneg lo (show C ≠ 0 by omega)
    have e5 := Int.emod_lt_of_pos lo hC0
    have e6 : 0 ≤ lo % C * B := Int.mul_nonneg e4 (by omega)
    have e7 : (lo % C + 1) * B ≤ C * B := Int.mul_le_mul_of_nonneg_right (by omega) (by omega)
    have e8 : (lo % C + 1) * B = lo % C * B + B := by grind
    rw [e2]; omega
  have hL0 : 0 ≤ lo % C * B ∧ lo % C * B < 18446744073709551616 := by rw [← hL, wrap_u64']; omega
  have hN : (hi * 18446744073709551616 + lo) * B = (hi * B + lo / C) * 18446744073709551616 + lo % C * B := by
    have e1 := Int.emod_add_mul_ediv lo C
    have e3 : lo * B = (lo % C + C * (lo / C)) * B := by rw [e1]
    have e4 : (hi * 18446744073709551616 + lo) * B = hi * B * 18446744073709551616 + lo * B := by grind
    rw [e4, e3, ← hBC]; grind
  have hU0 : 0 ≤ hi * B + lo / C ∧ hi * B + lo / C < y * B := by omega
  obtain ⟨U, hU⟩ : ∃ U, hi * B + lo / C = U := ⟨_, rfl⟩
  obtain ⟨L, hLL⟩ : ∃ L, lo % C * B = L := ⟨_, rfl⟩
  obtain ⟨Y, hY⟩ : ∃ Y, y * B = Y := ⟨_, rfl⟩
  rw [hU] at hoU hN hU0
  rw [hLL] at hL hL0 hN
  rw [hY] at hn1 hn2 hwY hU0
  obtain ⟨y1, hy1⟩ : ∃ v, Y / 4294967296 = v := ⟨_, rfl⟩
  obtain ⟨y0, hy0⟩ : ∃ v, Y % 4294967296 = v := ⟨_, rfl⟩
  obtain ⟨m1, hm1⟩ : ∃ v, L / 4294967296 = v := ⟨_, rfl⟩
  obtain ⟨m0, hm0⟩ : ∃ v, L % 4294967296 = v := ⟨_, rfl⟩
  have hYe : Y = y1 * 4294967296 + y0 := by omega
  have hA : Half U y1 y0 m1 := ⟨by omega, by omega, by omega, by omega⟩
  obtain ⟨hi1, hi2⟩ := est_init hA
  have hwq : IntKind.wrap .u64 (U.tdiv y1) = U / y1 := by
    have := hi1.hi; have := hi1.q0
    rw [tdiv_pos hU0.1]; exact wrap_u64 (by omega)
  have hwp : IntKind.wrap .u64 (U / y1 * y1) = U / y1 * y1 := by
    have := hi1.he; have := hi1.hr
    have h1 : 0 ≤ U / y1 * y1 := Int.mul_nonneg hi1.q0 (by omega)
    exact wrap_u64 (by omega)
  have hwr : IntKind.wrap .u64 (U - U / y1 * y1) = U - U / y1 * y1 := by
    have := hi1.hr
    exact wrap_u64 (by omega)
  have hay : ibits .and .u64 Y 4294967295 = y0 := by rw [and32' (by omega), hy0]
  have haL : ibits .and .u64 L 4294967295 = m0 := by rw [and32' (by omega), hm0]
  refine meets_by ttOk Tryz.func163 Tryz.ntmps163 Tryz.results163 (by kernel_rfl) (c := _) rfl rfl rfl fun E => ?_
  simp only [argsFrame]
  repeat' first
    | (simp only [hs1, hs2, hs3, hs4, hB', hC, hwB, hfd, hoU, hL, hY, hwY, hay, haL, hy1, hm1, hwq, hwp, hwr])
    | (simp (disch := omega) only [hs1, hs2, hs3, hs4, wkW, Int.reduceToNat, Int.reducePow])
    | (with_reducible first | refine PW.seq ?_ | refine PW.block ?_ | refine PW.fork ?_ | refine PW.skip ?_ | refine PW.exit ?_ | refine PW.ret ?_ | refine PW.scope ?_ | refine PW.label ?_ | refine PW.goto ?_)
    | (with_reducible refine PW.region ttOk ?_ ?_
       · rfl)
    | (with_reducible refine PW.regionD ttOk mixed ?_ ?_ ?_
       · rfl
       · rfl)
    | (with_reducible refine ifW_dec (fun g => ?_) (fun g => ?_) <;> first | (exfalso; omega) | (simp -dsimp only [g, wkI]))
    | (with_reducible refine condE_dec (fun g => ?_) (fun g => ?_) <;> try (exfalso; omega))
    | (with_reducible refine condE_not (fun g => ?_) (fun g => ?_) <;> try (exfalso; omega))
    | (simp -dsimp only [↓wkA, ↓wkE, ↓wkJ, wkB, ↓tt, Nat.reduceBEq, Nat.reduceEqDiff, ↓reduceIte, Nat.reduceLT, Array.toList, Nat.reduceAdd, Nat.reduceMul, Int.reduceToNat, Int.reducePow, UInt8.reduceToNat])
    | (refine call_by hm (views_data rfl) ⟨trivial, trivial⟩ rfl ?_)
    | (simp -dsimp (disch := first | assumption | omega) only [dec_t, dec_f])
    | (refine And.intro ?_ ?_
       · first | omega | decide | (simp (disch := omega) only [wkW, Int.reduceToNat, Int.reducePow] <;> omega) | (simp <;> omega))
    | (simp (disch := omega) only [wkW, Int.reduceToNat, Int.reducePow])
    | fail
  · subst g
    have h1 : 0 ≤ lo / y := Int.ediv_nonneg hl.1 (by omega)
    have h2 : lo / y ≤ lo := Int.ediv_le_self _ hl.1
    simp (disch := omega) only [wkW, Int.reduceToNat, Int.reducePow, Int.zero_mul, Int.zero_add]
  refine PW.meetB (DivA' Y y1 y0 U m1 m0 s) ?_ ?_
  · refine PW.loopA (DivA Y y1 y0 U m1 m0 s) (U / y1).toNat [(15, .int .u64 (U / y1)), (16, .int .u64 (U - U / y1 * y1)), (2, .int .u64 Y), (9, .int .u64 y1), (10, .int .u64 y0), (11, .int .u64 U), (13, .int .u64 m1), (14, .int .u64 m0), (8, .int .u64 s)] ⟨0, [], [], []⟩ (Sub.norm ⟨rfl, rfl, rfl, rfl, rfl, rfl, rfl, rfl, rfl, trivial⟩ trivial (by simp) rfl rfl rfl rfl) ⟨_, _, hi1, by omega, rfl, rfl, rfl⟩ ?_
    rintro n F H ⟨q, r, hq, hr, hn, rfl, rfl⟩
    have hq1 := hq.q0; have hq2 := hq.hi; have hq3 := hq.hr
    have hp := est_prod hA hq
    have hz : q ≤ 0 → q * y0 ≤ 0 := fun h => by have : q = 0 := by omega
                                                subst this; simp
    repeat' first
      | (simp (disch := omega) only [wkW, Int.reduceToNat, Int.reducePow])
      | (with_reducible first | refine PW.seq ?_ | refine PW.block ?_ | refine PW.fork ?_ | refine PW.skip ?_ | refine PW.exit ?_ | refine PW.ret ?_ | refine PW.scope ?_ | refine PW.label ?_ | refine PW.goto ?_)
      | (with_reducible refine PW.region ttOk ?_ ?_
         · rfl)
      | (with_reducible refine PW.regionD ttOk mixed ?_ ?_ ?_
         · rfl
         · rfl)
      | (with_reducible refine ifW_dec (fun g => ?_) (fun g => ?_) <;> first | (exfalso; omega) | (simp -dsimp only [g, wkI]))
      | (with_reducible refine condE_dec (fun g => ?_) (fun g => ?_) <;> try (exfalso; omega))
      | (with_reducible refine condE_not (fun g => ?_) (fun g => ?_) <;> try (exfalso; omega))
      | (simp -dsimp only [↓wkA, ↓wkE, ↓wkJ, wkB, ↓tt, Nat.reduceBEq, Nat.reduceEqDiff, ↓reduceIte, Nat.reduceLT, Array.toList, Nat.reduceAdd, Nat.reduceMul, Int.reduceToNat, Int.reducePow, UInt8.reduceToNat])
      | (simp -dsimp (disch := first | assumption | omega) only [dec_t, dec_f])
      | (refine And.intro ?_ ?_
         · first | omega | decide | (simp (disch := omega) only [wkW, Int.reduceToNat, Int.reducePow] <;> omega) | (simp <;> omega))
      | (simp (disch := omega) only [wkW, Int.reduceToNat, Int.reducePow])
      | fail
    · obtain ⟨h1, h2⟩ := est_dec hA hq (.inl (by omega))
      have h3 := est_over hA h1 (by omega) (by omega)
      exact Meet.mk (fA' Y y1 y0 U m1 m0 s) ⟨0, [], [], []⟩ (Sub.norm ⟨congrArg (PV.int .u64) h3, rfl, rfl, rfl, rfl, rfl, rfl, rfl, trivial⟩ trivial (by simp) rfl rfl rfl rfl) ⟨rfl, rfl⟩
    · obtain ⟨h1, h2⟩ := est_dec hA hq (.inl (by omega))
      exact Again.mk (q - 1).toNat (fA Y y1 y0 U m1 m0 s (q - 1) (r + y1)) ⟨0, [], [], []⟩ (by omega) (Sub.norm ⟨rfl, rfl, rfl, rfl, rfl, rfl, rfl, rfl, rfl, trivial⟩ trivial (by simp) rfl rfl rfl rfl) ⟨_, _, h1, by omega, rfl, rfl, rfl⟩
    · obtain ⟨h1, h2⟩ := est_dec hA hq (.inr (by omega))
      have h3 := est_over hA h1 (by omega) (by omega)
      exact Meet.mk (fA' Y y1 y0 U m1 m0 s) ⟨0, [], [], []⟩ (Sub.norm ⟨congrArg (PV.int .u64) h3, rfl, rfl, rfl, rfl, rfl, rfl, rfl, trivial⟩ trivial (by simp) rfl rfl rfl rfl) ⟨rfl, rfl⟩
    · obtain ⟨h1, h2⟩ := est_dec hA hq (.inr (by omega))
      exact Again.mk (q - 1).toNat (fA Y y1 y0 U m1 m0 s (q - 1) (r + y1)) ⟨0, [], [], []⟩ (by omega) (Sub.norm ⟨rfl, rfl, rfl, rfl, rfl, rfl, rfl, rfl, rfl, trivial⟩ trivial (by simp) rfl rfl rfl rfl) ⟨_, _, h1, by omega, rfl, rfl, rfl⟩
    · have h3 := est_stop hA hq (by omega)
      exact Meet.mk (fA' Y y1 y0 U m1 m0 s) ⟨0, [], [], []⟩ (Sub.norm ⟨congrArg (PV.int .u64) h3, rfl, rfl, rfl, rfl, rfl, rfl, rfl, trivial⟩ trivial (by simp) rfl rfl rfl rfl) ⟨rfl, rfl⟩
  · rintro F H ⟨rfl, rfl⟩
    have hQt := half_top hA
    have hQn := half_nonneg hA
    have hQe := Int.emod_add_mul_ediv (U * 4294967296 + m1) Y
    have hVn := Int.emod_nonneg (U * 4294967296 + m1) (show Y ≠ 0 by omega)
    have hVl := Int.emod_lt_of_pos (U * 4294967296 + m1) (show 0 < Y by omega)
    rw [show halfQ U y1 y0 m1 = (U * 4294967296 + m1) / Y by rw [halfQ, hYe]] at hQt hQn ⊢
    obtain ⟨Q1, hQ1⟩ : ∃ v, (U * 4294967296 + m1) / Y = v := ⟨_, rfl⟩
    obtain ⟨V, hV⟩ : ∃ v, (U * 4294967296 + m1) % Y = v := ⟨_, rfl⟩
    simp only [hQ1, hV] at hQt hQn hQe hVn hVl ⊢
    have hYQ : Y * Q1 = Q1 * Y := Int.mul_comm _ _
    have hVw : IntKind.wrap .u64 (IntKind.wrap .u64 (IntKind.wrap .u64 (U * 4294967296) + m1) - IntKind.wrap .u64 (Q1 * Y)) = V := by
      simp only [wrap_u64']; omega
    have hB : Half V y1 y0 m0 := ⟨by omega, by omega, by omega, by omega⟩
    obtain ⟨hi1, hi2⟩ := est_init hB
    have hwq : IntKind.wrap .u64 (V.tdiv y1) = V / y1 := by
      have := hi1.hi; have := hi1.q0
      rw [tdiv_pos hVn]; exact wrap_u64 (by omega)
    have hwp : IntKind.wrap .u64 (V / y1 * y1) = V / y1 * y1 := by
      have := hi1.he; have := hi1.hr
      have h1 : 0 ≤ V / y1 * y1 := Int.mul_nonneg hi1.q0 (by omega)
      exact wrap_u64 (by omega)
    have hwr : IntKind.wrap .u64 (V - V / y1 * y1) = V - V / y1 * y1 := by
      have := hi1.hr
      exact wrap_u64 (by omega)
    repeat' first
      | (simp only [hVw, hwq, hwp, hwr])
      | (with_reducible first | refine PW.seq ?_ | refine PW.block ?_ | refine PW.fork ?_ | refine PW.skip ?_ | refine PW.exit ?_ | refine PW.ret ?_ | refine PW.scope ?_ | refine PW.label ?_ | refine PW.goto ?_)
      | (with_reducible refine PW.region ttOk ?_ ?_
         · rfl)
      | (with_reducible refine PW.regionD ttOk mixed ?_ ?_ ?_
         · rfl
         · rfl)
      | (with_reducible refine ifW_dec (fun g => ?_) (fun g => ?_) <;> first | (exfalso; omega) | (simp -dsimp only [g, wkI]))
      | (with_reducible refine condE_dec (fun g => ?_) (fun g => ?_) <;> try (exfalso; omega))
      | (with_reducible refine condE_not (fun g => ?_) (fun g => ?_) <;> try (exfalso; omega))
      | (simp -dsimp only [↓wkA, ↓wkE, ↓wkJ, wkB, ↓tt, Nat.reduceBEq, Nat.reduceEqDiff, ↓reduceIte, Nat.reduceLT, Array.toList, Nat.reduceAdd, Nat.reduceMul, Int.reduceToNat, Int.reducePow, UInt8.reduceToNat])
      | (simp -dsimp (disch := first | assumption | omega) only [dec_t, dec_f])
      | (refine And.intro ?_ ?_
         · first | omega | decide | (simp (disch := omega) only [wkW, Int.reduceToNat, Int.reducePow] <;> omega) | (simp <;> omega))
      | (simp (disch := omega) only [wkW, Int.reduceToNat, Int.reducePow])
      | fail
    refine PW.meetB (DivB' Y y1 y0 Q1 V m0 s) ?_ ?_
    · refine PW.loopA (DivB Y y1 y0 Q1 V m0 s) (V / y1).toNat [(18, .int .u64 (V / y1)), (16, .int .u64 (V - V / y1 * y1)), (2, .int .u64 Y), (9, .int .u64 y1), (10, .int .u64 y0), (17, .int .u64 V), (15, .int .u64 Q1), (14, .int .u64 m0), (8, .int .u64 s)] ⟨0, [], [], []⟩ (Sub.norm ⟨rfl, rfl, rfl, rfl, rfl, rfl, rfl, rfl, rfl, trivial⟩ trivial (by simp) rfl rfl rfl rfl) ⟨_, _, hi1, by omega, rfl, rfl, rfl⟩ ?_
      rintro n F H ⟨q, r, hq, hr, hn, rfl, rfl⟩
      have hq1 := hq.q0; have hq2 := hq.hi; have hq3 := hq.hr
      have hp := est_prod hB hq
      have hz : q ≤ 0 → q * y0 ≤ 0 := fun h => by have : q = 0 := by omega
                                                  subst this; simp
      repeat' first
        | (simp (disch := omega) only [wkW, Int.reduceToNat, Int.reducePow])
        | (with_reducible first | refine PW.seq ?_ | refine PW.block ?_ | refine PW.fork ?_ | refine PW.skip ?_ | refine PW.exit ?_ | refine PW.ret ?_ | refine PW.scope ?_ | refine PW.label ?_ | refine PW.goto ?_)
        | (with_reducible refine PW.region ttOk ?_ ?_
           · rfl)
        | (with_reducible refine PW.regionD ttOk mixed ?_ ?_ ?_
           · rfl
           · rfl)
        | (with_reducible refine ifW_dec (fun g => ?_) (fun g => ?_) <;> first | (exfalso; omega) | (simp -dsimp only [g, wkI]))
        | (with_reducible refine condE_dec (fun g => ?_) (fun g => ?_) <;> try (exfalso; omega))
        | (with_reducible refine condE_not (fun g => ?_) (fun g => ?_) <;> try (exfalso; omega))
        | (simp -dsimp only [↓wkA, ↓wkE, ↓wkJ, wkB, ↓tt, Nat.reduceBEq, Nat.reduceEqDiff, ↓reduceIte, Nat.reduceLT, Array.toList, Nat.reduceAdd, Nat.reduceMul, Int.reduceToNat, Int.reducePow, UInt8.reduceToNat])
        | (simp -dsimp (disch := first | assumption | omega) only [dec_t, dec_f])
        | (refine And.intro ?_ ?_
           · first | omega | decide | (simp (disch := omega) only [wkW, Int.reduceToNat, Int.reducePow] <;> omega) | (simp <;> omega))
        | (simp (disch := omega) only [wkW, Int.reduceToNat, Int.reducePow])
        | fail
      · obtain ⟨h1, h2⟩ := est_dec hB hq (.inl (by omega))
        have h3 := est_over hB h1 (by omega) (by omega)
        exact Meet.mk (fB' Y y1 y0 Q1 V m0 s) ⟨0, [], [], []⟩ (Sub.norm ⟨congrArg (PV.int .u64) h3, rfl, rfl, rfl, rfl, rfl, trivial⟩ trivial (by simp) rfl rfl rfl rfl) ⟨rfl, rfl⟩
      · obtain ⟨h1, h2⟩ := est_dec hB hq (.inl (by omega))
        exact Again.mk (q - 1).toNat (fB Y y1 y0 Q1 V m0 s (q - 1) (r + y1)) ⟨0, [], [], []⟩ (by omega) (Sub.norm ⟨rfl, rfl, rfl, rfl, rfl, rfl, rfl, rfl, rfl, trivial⟩ trivial (by simp) rfl rfl rfl rfl) ⟨_, _, h1, by omega, rfl, rfl, rfl⟩
      · obtain ⟨h1, h2⟩ := est_dec hB hq (.inr (by omega))
        have h3 := est_over hB h1 (by omega) (by omega)
        exact Meet.mk (fB' Y y1 y0 Q1 V m0 s) ⟨0, [], [], []⟩ (Sub.norm ⟨congrArg (PV.int .u64) h3, rfl, rfl, rfl, rfl, rfl, trivial⟩ trivial (by simp) rfl rfl rfl rfl) ⟨rfl, rfl⟩
      · obtain ⟨h1, h2⟩ := est_dec hB hq (.inr (by omega))
        exact Again.mk (q - 1).toNat (fB Y y1 y0 Q1 V m0 s (q - 1) (r + y1)) ⟨0, [], [], []⟩ (by omega) (Sub.norm ⟨rfl, rfl, rfl, rfl, rfl, rfl, rfl, rfl, rfl, trivial⟩ trivial (by simp) rfl rfl rfl rfl) ⟨_, _, h1, by omega, rfl, rfl, rfl⟩
      · have h3 := est_stop hB hq (by omega)
        exact Meet.mk (fB' Y y1 y0 Q1 V m0 s) ⟨0, [], [], []⟩ (Sub.norm ⟨congrArg (PV.int .u64) h3, rfl, rfl, rfl, rfl, rfl, trivial⟩ trivial (by simp) rfl rfl rfl rfl) ⟨rfl, rfl⟩
    · rintro F H ⟨rfl, rfl⟩
      have hQt2 := half_top hB
      have hQn2 := half_nonneg hB
      have hQe2 := Int.emod_add_mul_ediv (V * 4294967296 + m0) Y
      have hRn := Int.emod_nonneg (V * 4294967296 + m0) (show Y ≠ 0 by omega)
      have hRl := Int.emod_lt_of_pos (V * 4294967296 + m0) (show 0 < Y by omega)
      rw [show halfQ V y1 y0 m0 = (V * 4294967296 + m0) / Y by rw [halfQ, hYe]] at hQt2 hQn2 ⊢
      obtain ⟨Q0, hQ0⟩ : ∃ v, (V * 4294967296 + m0) / Y = v := ⟨_, rfl⟩
      obtain ⟨R, hR⟩ : ∃ v, (V * 4294967296 + m0) % Y = v := ⟨_, rfl⟩
      simp only [hQ0, hR] at hQt2 hQn2 hQe2 hRn hRl ⊢
      have hYQ2 : Y * Q0 = Q0 * Y := Int.mul_comm _ _
      have hRw : IntKind.wrap .u64 (IntKind.wrap .u64 (IntKind.wrap .u64 (V * 4294967296) + m0) - IntKind.wrap .u64 (Q0 * Y)) = R := by
        simp only [wrap_u64']; omega
      have hfd2 : R.fdiv B = R / B := fdiv_pos (by omega)
      -- what the whole comes to
      have key : (hi * 18446744073709551616 + lo) / y = Q1 * 4294967296 + Q0 ∧ (hi * 18446744073709551616 + lo) % y = R / B := by
        have e1 := Int.emod_add_mul_ediv (hi * 18446744073709551616 + lo) y
        have e2 := Int.emod_nonneg (hi * 18446744073709551616 + lo) (show y ≠ 0 by omega)
        have e3 := Int.emod_lt_of_pos (hi * 18446744073709551616 + lo) (show 0 < y by omega)
        generalize (hi * 18446744073709551616 + lo) / y = qd at *
        generalize (hi * 18446744073709551616 + lo) % y = rd at *
        have e4 : 0 ≤ rd * B := Int.mul_nonneg e2 (by omega)
        have e5 : (rd + 1) * B ≤ y * B := Int.mul_le_mul_of_nonneg_right (by omega) (by omega)
        have e6 : (rd + 1) * B = rd * B + B := by grind
        have u1 := (Int.ediv_emod_unique (a := U * 18446744073709551616 + L) (r := rd * B) (q := qd) (show 0 < Y by omega)).2 ⟨by rw [← hN, ← e1, ← hY]; grind, e4, by omega⟩
        have u2 := (Int.ediv_emod_unique (a := U * 18446744073709551616 + L) (r := R) (q := Q1 * 4294967296 + Q0) (show 0 < Y by omega)).2 ⟨by
          have e7 : Y * (Q1 * 4294967296 + Q0) = Y * Q1 * 4294967296 + Y * Q0 := by grind
          rw [e7]; omega, hRn, hRl⟩
        refine ⟨u1.1.symm.trans u2.1, ?_⟩
        have e8 : rd * B = R := u1.2.symm.trans u2.2
        rw [← e8, Int.mul_ediv_cancel _ (by omega)]
      repeat' first
        | (simp only [hRw, hs1, hs2, hB', hfd2])
        | (with_reducible first | refine PW.seq ?_ | refine PW.block ?_ | refine PW.fork ?_ | refine PW.skip ?_ | refine PW.exit ?_ | refine PW.ret ?_ | refine PW.scope ?_ | refine PW.label ?_ | refine PW.goto ?_)
        | (with_reducible refine PW.region ttOk ?_ ?_
           · rfl)
        | (with_reducible refine PW.regionD ttOk mixed ?_ ?_ ?_
           · rfl
           · rfl)
        | (with_reducible refine ifW_dec (fun g => ?_) (fun g => ?_) <;> first | (exfalso; omega) | (simp -dsimp only [g, wkI]))
        | (with_reducible refine condE_dec (fun g => ?_) (fun g => ?_) <;> try (exfalso; omega))
        | (with_reducible refine condE_not (fun g => ?_) (fun g => ?_) <;> try (exfalso; omega))
        | (simp -dsimp only [↓wkA, ↓wkE, ↓wkJ, wkB, ↓tt, Nat.reduceBEq, Nat.reduceEqDiff, ↓reduceIte, Nat.reduceLT, Array.toList, Nat.reduceAdd, Nat.reduceMul, Int.reduceToNat, Int.reducePow, UInt8.reduceToNat])
        | (simp -dsimp (disch := first | assumption | omega) only [dec_t, dec_f])
        | (refine And.intro ?_ ?_
           · first | omega | decide | (simp (disch := omega) only [wkW, Int.reduceToNat, Int.reducePow] <;> omega) | (simp <;> omega))
        | (simp (disch := omega) only [wkW, Int.reduceToNat, Int.reducePow])
        | fail
      rw [key.1, key.2]
theorem least_of (p : Nat → Prop) : ∀ N, p N → ∃ n, p n ∧ ∀ m, m < n → ¬ p m := by
  intro N
  induction N using Nat.strongRecOn with
  | _ N ih =>
    intro h
    by_cases he : ∃ m, m < N ∧ p m
    · obtain ⟨m, hm, hp⟩ := he; exact ih m hm hp
    · exact ⟨N, h, fun m hm hp => he ⟨m, hm, hp⟩⟩
theorem chunk_ex (b : Nat) (hb : 2 ≤ b ∧ b ≤ 36) : ∃ k, 1 ≤ k ∧ k ≤ 64 ∧ b ^ k < 18446744073709551616 ∧ 18446744073709551616 ≤ b ^ (k + 1) ∧ ∀ m, 1 ≤ m → m < k → b ^ (m + 1) < 18446744073709551616 := by
  have h64 : 18446744073709551616 ≤ b ^ (63 + 1) := Nat.le_trans (by decide : 18446744073709551616 ≤ 2 ^ 64) (Nat.pow_le_pow_left hb.1 64)
  obtain ⟨k, hk, hmin⟩ := least_of (fun n => 18446744073709551616 ≤ b ^ (n + 1)) 63 h64
  have hk63 : k ≤ 63 := by
    rcases Nat.lt_or_ge 63 k with h | h
    · exact absurd h64 (hmin 63 h)
    · exact h
  have hk0 : k ≠ 0 := by
    rintro rfl
    rw [Nat.zero_add, Nat.pow_one] at hk; omega
  refine ⟨k, by omega, by omega, ?_, hk, fun m _ hm => by have := hmin m hm; omega⟩
  have := hmin (k - 1) (by omega)
  rw [show k - 1 + 1 = k by omega] at this
  omega
def ChI (b k : Nat) (n : Nat) (F : PV.Frame) (H : PV.Heap) : Prop :=
  ∃ i : Nat, 1 ≤ i ∧ i + n = k ∧ F = [(5, .int .u64 ((b ^ i : Nat) : Int)), (6, .int .i64 (i : Int)), (4, .int .u64 (b : Int))] ∧ H = ⟨0, [], [], []⟩
theorem numeral_chunk (b k : Nat) (hb : 2 ≤ b ∧ b ≤ 36) (h1 : 1 ≤ k) (h2 : k ≤ 64) (h3 : b ^ k < 18446744073709551616) (h4 : 18446744073709551616 ≤ b ^ (k + 1)) (h5 : ∀ m, 1 ≤ m → m < k → b ^ (m + 1) < 18446744073709551616) :
    Meets Tryz.prog 110 [.int .i64 (b : Int)] (.tup [.int .u64 ((b ^ k : Nat) : Int), .int .i64 (k : Int)]) := by
  refine meets_by ttOk Tryz.func110 Tryz.ntmps110 Tryz.results110 (by kernel_rfl) (c := _) rfl rfl rfl fun E => ?_
  simp only [argsFrame]
  repeat' first
    | (with_reducible first | refine PW.seq ?_ | refine PW.block ?_ | refine PW.fork ?_ | refine PW.skip ?_ | refine PW.exit ?_ | refine PW.ret ?_ | refine PW.scope ?_ | refine PW.label ?_ | refine PW.goto ?_)
    | (with_reducible refine PW.region ttOk ?_ ?_
       · rfl)
    | (with_reducible refine PW.regionD ttOk mixed ?_ ?_ ?_
       · rfl
       · rfl)
    | (with_reducible refine ifW_dec (fun g => ?_) (fun g => ?_) <;> first | (exfalso; omega) | (simp -dsimp only [g, wkI]))
    | (with_reducible refine condE_dec (fun g => ?_) (fun g => ?_) <;> try (exfalso; omega))
    | (with_reducible refine condE_not (fun g => ?_) (fun g => ?_) <;> try (exfalso; omega))
    | (simp -dsimp only [↓wkA, ↓wkE, ↓wkJ, wkB, ↓tt, Nat.reduceBEq, Nat.reduceEqDiff, ↓reduceIte, Nat.reduceLT, Array.toList, Nat.reduceAdd, Nat.reduceMul, Int.reduceToNat, Int.reducePow, UInt8.reduceToNat])
    | (simp -dsimp (disch := first | assumption | omega) only [dec_t, dec_f])
    | (refine And.intro ?_ ?_
       · first | omega | decide | (simp (disch := omega) only [wkW, Int.reduceToNat, Int.reducePow] <;> omega) | (simp <;> omega))
    | (simp (disch := omega) only [wkW, Int.reduceToNat, Int.reducePow])
    | fail
  refine PW.loopA (ChI b k) (k - 1) [(5, .int .u64 ((b ^ 1 : Nat) : Int)), (6, .int .i64 ((1 : Nat) : Int)), (4, .int .u64 (b : Int))] ⟨0, [], [], []⟩ (Sub.norm ⟨?_, rfl, ?_, trivial⟩ trivial (by simp) rfl rfl rfl rfl) ⟨1, by omega, by omega, rfl, rfl⟩ ?_
  · rw [Nat.pow_one]; simp (disch := omega) only [↓wkA, ↓wkE, ↓wkJ, wkB, ↓tt, Nat.reduceBEq, Nat.reduceEqDiff, ↓reduceIte, Nat.reduceLT, Array.toList, Nat.reduceAdd, Nat.reduceMul, Int.reduceToNat, Int.reducePow, UInt8.reduceToNat, wkW, Int.reduceToNat, Int.reducePow]
  · simp (disch := omega) only [↓wkA, ↓wkE, ↓wkJ, wkB, ↓tt, Nat.reduceBEq, Nat.reduceEqDiff, ↓reduceIte, Nat.reduceLT, Array.toList, Nat.reduceAdd, Nat.reduceMul, Int.reduceToNat, Int.reducePow, UInt8.reduceToNat, wkW, Int.reduceToNat, Int.reducePow]
  rintro n F H ⟨i, hi, hn, rfl, rfl⟩
  have hlt : b ^ i < 18446744073709551616 := by
    by_cases e : i = k
    · subst e; exact h3
    · have := h5 i hi (by omega)
      refine Nat.lt_of_le_of_lt (Nat.pow_le_pow_right (by omega) (by omega : i ≤ i + 1)) this
  have hmul : ((b ^ i : Nat) : Int) * (b : Int) = ((b ^ (i + 1) : Nat) : Int) := by rw [Nat.pow_succ]; simp
  have hm := mul64 ((b ^ i : Nat) : Int) (b : Int) (by simp only [B64]; omega) (by simp only [B64]; omega)
  rw [hmul] at hm
  simp only [B64] at hm
  by_cases hk : i = k
  · subst hk
    repeat' first
      | (with_reducible first | refine PW.seq ?_ | refine PW.block ?_ | refine PW.fork ?_ | refine PW.skip ?_ | refine PW.exit ?_ | refine PW.ret ?_ | refine PW.scope ?_ | refine PW.label ?_ | refine PW.goto ?_)
      | (with_reducible refine PW.region ttOk ?_ ?_
         · rfl)
      | (with_reducible refine PW.regionD ttOk mixed ?_ ?_ ?_
         · rfl
         · rfl)
      | (with_reducible refine ifW_dec (fun g => ?_) (fun g => ?_) <;> first | (exfalso; omega) | (simp -dsimp only [g, wkI]))
      | (with_reducible refine condE_dec (fun g => ?_) (fun g => ?_) <;> try (exfalso; omega))
      | (with_reducible refine condE_not (fun g => ?_) (fun g => ?_) <;> try (exfalso; omega))
      | (simp -dsimp only [↓wkA, ↓wkE, ↓wkJ, wkB, ↓tt, Nat.reduceBEq, Nat.reduceEqDiff, ↓reduceIte, Nat.reduceLT, Array.toList, Nat.reduceAdd, Nat.reduceMul, Int.reduceToNat, Int.reducePow, UInt8.reduceToNat])
      | (refine call_by hm (views_data rfl) ⟨trivial, trivial, trivial⟩ rfl ?_)
      | (simp -dsimp (disch := first | assumption | omega) only [dec_t, dec_f])
      | (refine And.intro ?_ ?_
         · first | omega | decide | (simp (disch := omega) only [wkW, Int.reduceToNat, Int.reducePow] <;> omega) | (simp <;> omega))
      | (simp (disch := omega) only [wkW, Int.reduceToNat, Int.reducePow])
      | fail
  · have := h5 i hi (by omega)
    repeat' first
      | (with_reducible first | refine PW.seq ?_ | refine PW.block ?_ | refine PW.fork ?_ | refine PW.skip ?_ | refine PW.exit ?_ | refine PW.ret ?_ | refine PW.scope ?_ | refine PW.label ?_ | refine PW.goto ?_)
      | (with_reducible refine PW.region ttOk ?_ ?_
         · rfl)
      | (with_reducible refine PW.regionD ttOk mixed ?_ ?_ ?_
         · rfl
         · rfl)
      | (with_reducible refine ifW_dec (fun g => ?_) (fun g => ?_) <;> first | (exfalso; omega) | (simp -dsimp only [g, wkI]))
      | (with_reducible refine condE_dec (fun g => ?_) (fun g => ?_) <;> try (exfalso; omega))
      | (with_reducible refine condE_not (fun g => ?_) (fun g => ?_) <;> try (exfalso; omega))
      | (simp -dsimp only [↓wkA, ↓wkE, ↓wkJ, wkB, ↓tt, Nat.reduceBEq, Nat.reduceEqDiff, ↓reduceIte, Nat.reduceLT, Array.toList, Nat.reduceAdd, Nat.reduceMul, Int.reduceToNat, Int.reducePow, UInt8.reduceToNat])
      | (refine call_by hm (views_data rfl) ⟨trivial, trivial, trivial⟩ rfl ?_)
      | (simp -dsimp (disch := first | assumption | omega) only [dec_t, dec_f])
      | (refine And.intro ?_ ?_
         · first | omega | decide | (simp (disch := omega) only [wkW, Int.reduceToNat, Int.reducePow] <;> omega) | (simp <;> omega))
      | (simp (disch := omega) only [wkW, Int.reduceToNat, Int.reducePow])
      | fail
    refine Again.mk (n - 1) [(5, .int .u64 ((b ^ (i + 1) : Nat) : Int)), (6, .int .i64 ((i + 1 : Nat) : Int)), (4, .int .u64 (b : Int))] ⟨0, [], [], []⟩ (by omega) (Sub.norm ⟨?_, rfl, rfl, trivial⟩ trivial (by simp) rfl rfl rfl rfl) ⟨i + 1, by omega, by omega, rfl, rfl⟩
    simp -dsimp only [↓wkA, ↓wkE, ↓wkJ, wkB, ↓tt, Nat.reduceBEq, Nat.reduceEqDiff, ↓reduceIte, Nat.reduceLT, Array.toList, Nat.reduceAdd, Nat.reduceMul, Int.reduceToNat, Int.reducePow, UInt8.reduceToNat]
    refine congrArg _ ?_
    omega
open Go Go.RowKit Go.Shelf
def digs (b v : Nat) : List Nat := if h : v = 0 ∨ b < 2 then [] else (v % b) :: digs b (v / b)
termination_by v
decreasing_by exact Nat.div_lt_self (by omega) (by omega)
theorem digs_zero (b : Nat) : digs b 0 = [] := by rw [digs]; simp
theorem digs_step {b v : Nat} (hb : 2 ≤ b) (hv : v ≠ 0) : digs b v = (v % b) :: digs b (v / b) := by
  rw [digs, dif_neg (by omega)]
theorem digs_lt {b : Nat} (hb : 2 ≤ b) : ∀ v, ∀ d ∈ digs b v, d < b := by
  intro v
  induction v using Nat.strongRecOn with
  | _ v ih =>
    intro d hd
    by_cases h0 : v = 0
    · subst h0; rw [digs_zero] at hd; cases hd
    · rw [digs_step hb h0] at hd
      rcases List.mem_cons.1 hd with rfl | hd
      · exact Nat.mod_lt _ (by omega)
      · exact ih _ (Nat.div_lt_self (by omega) (by omega)) d hd
def smalls : List Int := [48, 49, 50, 51, 52, 53, 54, 55, 56, 57, 97, 98, 99, 100, 101, 102, 103, 104, 105, 106, 107, 108, 109, 110, 111, 112, 113, 114, 115, 116, 117, 118, 119, 120, 121, 122]
def larges : List Int := [48, 49, 50, 51, 52, 53, 54, 55, 56, 57, 65, 66, 67, 68, 69, 70, 71, 72, 73, 74, 75, 76, 77, 78, 79, 80, 81, 82, 83, 84, 85, 86, 87, 88, 89, 90]
def lettersOf (upper : Bool) : List Int := bif upper then larges else smalls
def text (b : Nat) (u : Bool) (v : Nat) : List Int := ((digs b v).map fun d => (lettersOf u).getD d 0).reverse
structure DivI (t0 t : List Int) (n i : Nat) (p rest : Int) : Prop where
  len : t.length = t0.length
  lim : Limbs t
  low : ∀ j, j < i → t.getD j 0 = t0.getD j 0
  rst : 0 ≤ rest ∧ rest < p
  eq : ∃ d, vt t n = vt t i + d ∧ vt t0 n = vt t i + d * p + rest * B64 ^ i
theorem vt_set_add (l : List Int) (i : Nat) (q : Int) (hi : i < l.length) : ∀ n, i < n → vt (l.set i q) n = vt l n + B64 ^ i * (q - l.getD i 0)
  | 0, h => by omega
  | n + 1, h => by
    simp only [vt]
    by_cases e : i = n
    · subst e
      rw [vt_set_ge _ _ _ _ hi (Nat.le_refl _), getD_set _ _ _ _ hi, if_pos rfl]
      grind
    · rw [vt_set_add l i q hi n (by omega), getD_set _ _ _ _ hi, if_neg (by omega)]
      grind
theorem DivI.start {t : List Int} {n : Nat} {p : Int} (h : Limbs t) (hp : 0 < p) : DivI t t n n p 0 :=
  ⟨rfl, h, fun _ _ => rfl, ⟨by omega, hp⟩, 0, by omega, by simp⟩
theorem DivI.step {t0 t : List Int} {n i : Nat} {p rest : Int} (h : DivI t0 t n (i + 1) p rest) (hi : i < t.length) (hin : i < n) (hp : 0 < p ∧ p < B64) :
    DivI t0 (t.set i ((rest * B64 + t.getD i 0) / p)) n i p ((rest * B64 + t.getD i 0) % p) := by
  obtain ⟨d, hd1, hd2⟩ := h.eq
  have hx := getD_limb h.lim i
  have hr := h.rst
  have e1 := Int.emod_add_mul_ediv (rest * B64 + t.getD i 0) p
  have e2 := Int.emod_nonneg (rest * B64 + t.getD i 0) (show p ≠ 0 by omega)
  have e3 := Int.emod_lt_of_pos (rest * B64 + t.getD i 0) hp.1
  have hB : (0 : Int) < B64 := by decide
  have hq0 : 0 ≤ (rest * B64 + t.getD i 0) / p := Int.ediv_nonneg (by have := Int.mul_nonneg hr.1 (Int.le_of_lt hB); omega) (by omega)
  have hq1 : (rest * B64 + t.getD i 0) / p < B64 := by
    rw [Int.ediv_lt_iff_lt_mul hp.1]
    have : (rest + 1) * B64 ≤ p * B64 := Int.mul_le_mul_of_nonneg_right (by omega) (Int.le_of_lt hB)
    have : (rest + 1) * B64 = rest * B64 + B64 := by grind
    have : B64 * p = p * B64 := Int.mul_comm _ _
    omega
  refine ⟨by rw [List.length_set]; exact h.len, limbs_set h.lim i ⟨hq0, hq1⟩, fun j hj => ?_, ⟨e2, e3⟩, d + B64 ^ i * ((rest * B64 + t.getD i 0) / p), ?_, ?_⟩
  · rw [getD_set _ _ _ _ hi, if_neg (by omega)]; exact h.low j (by omega)
  · rw [vt_set_add _ _ _ hi n hin, vt_set_ge _ _ _ _ hi (Nat.le_refl _), hd1]
    simp only [vt]; grind
  · rw [vt_set_ge _ _ _ _ hi (Nat.le_refl _), hd2]
    simp only [vt, Int.pow_succ]
    generalize (rest * B64 + t.getD i 0) / p = q at *
    generalize (rest * B64 + t.getD i 0) % p = r at *
    have : rest * (B64 ^ i * B64) + B64 ^ i * t.getD i 0 = B64 ^ i * (r + p * q) := by rw [e1]; grind
    grind
theorem DivI.fin {t0 t : List Int} {n : Nat} {p rest : Int} (h : DivI t0 t n 0 p rest) : vt t n = vt t0 n / p ∧ rest = vt t0 n % p := by
  obtain ⟨d, hd1, hd2⟩ := h.eq
  have hr := h.rst
  have hv0 : vt t 0 = 0 := rfl
  rw [hv0] at hd1 hd2
  simp only [Int.pow_zero, Int.mul_one, Int.zero_add] at hd1 hd2
  have := (Int.ediv_emod_unique (a := vt t0 n) (r := rest) (q := d) (b := p) (by omega)).2 ⟨by rw [hd2, Int.mul_comm p d, Int.add_comm], hr.1, hr.2⟩
  exact ⟨by rw [hd1]; exact this.1.symm, this.2.symm⟩
def worth (c : Int) : Int := if 48 ≤ c ∧ c ≤ 57 then c - 48 else if 97 ≤ c ∧ c ≤ 122 then c - 87 else if 65 ≤ c ∧ c ≤ 90 then c - 55 else 36
theorem numeral_worth (c : Int) (hc : 0 ≤ c ∧ c < 256) : Meets Tryz.prog 109 [.int .u8 c] (.int .i64 (worth c)) := by
  refine meets_by ttOk Tryz.func109 Tryz.ntmps109 Tryz.results109 (by kernel_rfl) (c := _) rfl rfl rfl fun E => ?_
  simp only [argsFrame]
  repeat' first
    | (simp (disch := omega) only [wkW, Int.reduceToNat, Int.reducePow])
    | (with_reducible first | refine PW.seq ?_ | refine PW.block ?_ | refine PW.fork ?_ | refine PW.skip ?_ | refine PW.exit ?_ | refine PW.ret ?_ | refine PW.scope ?_ | refine PW.label ?_ | refine PW.goto ?_)
    | (with_reducible refine PW.region ttOk ?_ ?_
       · rfl)
    | (with_reducible refine PW.regionD ttOk mixed ?_ ?_ ?_
       · rfl
       · rfl)
    | (with_reducible refine ifW_dec (fun g => ?_) (fun g => ?_) <;> first | (exfalso; omega) | (simp -dsimp only [g, wkI]))
    | (with_reducible refine condE_dec (fun g => ?_) (fun g => ?_) <;> try (exfalso; omega))
    | (with_reducible refine condE_not (fun g => ?_) (fun g => ?_) <;> try (exfalso; omega))
    | (simp -dsimp only [↓wkA, ↓wkE, ↓wkJ, wkB, ↓tt, Nat.reduceBEq, Nat.reduceEqDiff, ↓reduceIte, Nat.reduceLT, Array.toList, Nat.reduceAdd, Nat.reduceMul, Int.reduceToNat, Int.reducePow, UInt8.reduceToNat])
    | (simp -dsimp (disch := first | assumption | omega) only [dec_t, dec_f])
    | (refine And.intro ?_ ?_
       · first | omega | decide | (simp (disch := omega) only [wkW, Int.reduceToNat, Int.reducePow] <;> omega) | (simp <;> omega))
    | (simp (disch := omega) only [wkW, Int.reduceToNat, Int.reducePow])
    | fail
  all_goals
    refine congrArg _ ?_
    unfold worth
    repeat' split
    all_goals omega
theorem worth_nonneg (c : Int) : 0 ≤ worth c := by
  unfold worth
  repeat' split
  all_goals omega
def numN (b : Nat) (s : List Int) : Nat → Nat
  | 0 => 0
  | i + 1 => numN b s i * b + (worth (s.getD i 0)).toNat
def num (b : Nat) (s : List Int) : Nat := numN b s s.length
theorem numN_mono (b : Nat) (hb : 1 ≤ b) (s : List Int) (i : Nat) : ∀ d, numN b s i ≤ numN b s (i + d)
  | 0 => Nat.le_refl _
  | d + 1 => by
    have := numN_mono b hb s i d
    rw [show i + (d + 1) = (i + d) + 1 by omega]
    simp only [numN]
    have h2 : numN b s (i + d) * 1 ≤ numN b s (i + d) * b := Nat.mul_le_mul_left _ hb
    omega
def natL (v : Nat) : List Int := (digs 18446744073709551616 v).map fun (d : Nat) => (d : Int)
def Nrm (a : List Int) : Prop := a.length ≠ 0 → B64 ^ (a.length - 1) ≤ val a
theorem vt_cons (x : Int) (l : List Int) : ∀ n, vt (x :: l) (n + 1) = x + B64 * vt l n
  | 0 => by simp [vt]
  | n + 1 => by
    have ih := vt_cons x l n
    have e1 : vt (x :: l) (n + 1 + 1) = vt (x :: l) (n + 1) + B64 ^ (n + 1) * (x :: l).getD (n + 1) 0 := rfl
    have e2 : vt l (n + 1) = vt l n + B64 ^ n * l.getD n 0 := rfl
    rw [e1, e2, ih, Int.pow_succ, List.getD_cons_succ]
    grind
theorem val_cons (x : Int) (l : List Int) : val (x :: l) = x + B64 * val l := vt_cons x l l.length
theorem natL_val {a : List Int} (ha : Limbs a) (hn : Nrm a) : a = natL (val a).toNat := by
  induction a with
  | nil => simp [val, vt, natL, digs_zero]
  | cons x l ih =>
    have hx := ha x (by simp)
    have hl : Limbs l := fun y hy => ha y (by simp [hy])
    have hlv := vt_bound hl l.length
    have hv := val_cons x l
    have h1 := hn (by simp)
    have hnl : Nrm l := fun h0 => by
      simp only [List.length_cons, Nat.add_sub_cancel] at h1
      obtain ⟨m, hm⟩ : ∃ m, l.length = m + 1 := ⟨l.length - 1, by omega⟩
      rw [hm, Int.pow_succ, hv] at h1
      rw [hm, Nat.add_sub_cancel]
      simp only [B64] at h1 ⊢
      omega
    have e := ih hl hnl
    have hvn : 0 ≤ val l := hlv.1
    have hne : (val (x :: l)).toNat ≠ 0 := by
      have : 0 < B64 ^ ((x :: l).length - 1) := pow_pos64 _
      omega
    have hm : (val (x :: l)).toNat % 18446744073709551616 = x.toNat := by rw [hv]; simp only [B64]; omega
    have hd : (val (x :: l)).toNat / 18446744073709551616 = (val l).toNat := by rw [hv]; simp only [B64]; omega
    unfold natL at e ⊢
    rw [digs_step (b := 18446744073709551616) (by decide) hne, hm, hd, List.map_cons, ← e]
    congr 1
    omega
theorem nrm_of_top {a : List Int} (ha : Limbs a) (h : a.length ≠ 0 → a.getD (a.length - 1) 0 ≠ 0) : Nrm a := by
  intro h0
  obtain ⟨m, hm⟩ : ∃ m, a.length = m + 1 := ⟨a.length - 1, by omega⟩
  have h1 := h h0
  rw [hm, Nat.add_sub_cancel] at h1 ⊢
  have h2 := getD_limb ha m
  have h3 := vt_bound ha m
  have h4 : B64 ^ m * 1 ≤ B64 ^ m * a.getD m 0 := Int.mul_le_mul_of_nonneg_left (by omega) (Int.le_of_lt (pow_pos64 m))
  have h5 : val a = vt a m + B64 ^ m * a.getD m 0 := by unfold val; rw [hm]; rfl
  omega
theorem val_trim (a : List Int) : val (trim a) = val a := by
  have h := size_le a
  have hl : (trim a).length = size a := by simp [trim]; omega
  unfold val
  rw [hl]
  refine Eq.trans ?_ (vt_size a)
  exact vt_same _ fun j hj => by simp [trim, List.getD_eq_getElem?_getD, List.getElem?_take, hj]
theorem limbs_trim {a : List Int} (ha : Limbs a) : Limbs (trim a) := limbs_take ha _
theorem nrm_trim {a : List Int} (ha : Limbs a) : Nrm (trim a) := by
  refine nrm_of_top (limbs_trim ha) fun h0 => ?_
  have h := size_le a
  have hl : (trim a).length = size a := by simp [trim]; omega
  rw [hl] at h0 ⊢
  have := sizeN_top a a.length h0
  simp only [trim, List.getD_eq_getElem?_getD, List.getElem?_take] at this ⊢
  rw [if_pos (by omega)]; exact this
theorem trim_eq {a : List Int} (ha : Limbs a) : trim a = natL (val a).toNat := by
  have := natL_val (limbs_trim ha) (nrm_trim ha)
  rwa [val_trim] at this
structure MulA (a t : List Int) (f p0 : Int) (j : Nat) (p : Int) : Prop where
  len : t.length = a.length
  lim : Limbs t
  high : ∀ i, j ≤ i → t.getD i 0 = a.getD i 0
  car : 0 ≤ p ∧ p < B64
  eq : vt t j + B64 ^ j * p = vt a j * f + p0
theorem MulA.start {a : List Int} {f p0 : Int} (ha : Limbs a) (hp : 0 ≤ p0 ∧ p0 < B64) : MulA a a f p0 0 p0 :=
  ⟨rfl, ha, fun _ _ => rfl, hp, by simp [vt]⟩
theorem MulA.step {a t : List Int} {f p0 p : Int} {j : Nat} (h : MulA a t f p0 j p) (ha : Limbs a) (hj : j < a.length) (hf : 0 < f ∧ f < B64) :
    MulA a (t.set j ((a.getD j 0 * f + p) % B64)) f p0 (j + 1) ((a.getD j 0 * f + p) / B64) := by
  have hx := getD_limb ha j
  have hc := h.car
  have hjt : j < t.length := by rw [h.len]; exact hj
  have hB : (0 : Int) < B64 := by decide
  have hxf : 0 ≤ a.getD j 0 * f := Int.mul_nonneg hx.1 (by omega)
  have hxf2 : a.getD j 0 * f ≤ (B64 - 1) * (B64 - 1) := Int.mul_le_mul (by omega) (by omega) (by omega) (by omega)
  have e := Int.emod_add_mul_ediv (a.getD j 0 * f + p) B64
  have e1 := Int.emod_nonneg (a.getD j 0 * f + p) (show B64 ≠ 0 by decide)
  have e2 := Int.emod_lt_of_pos (a.getD j 0 * f + p) hB
  refine ⟨by rw [List.length_set]; exact h.len, limbs_set h.lim j ⟨e1, e2⟩, fun i hi => ?_, ⟨Int.ediv_nonneg (by omega) (by decide), ?_⟩, ?_⟩
  · rw [getD_set _ _ _ _ hjt, if_neg (by omega)]; exact h.high i (by omega)
  · simp only [B64] at *; omega
  · simp only [vt]
    rw [vt_set_ge _ _ _ _ hjt (Nat.le_refl _), getD_set _ _ _ _ hjt, if_pos rfl, Int.pow_succ]
    have h3 := h.eq
    generalize (a.getD j 0 * f + p) % B64 = r at *
    generalize (a.getD j 0 * f + p) / B64 = q at *
    have e3 : B64 ^ j * r + B64 ^ j * B64 * q = B64 ^ j * (r + B64 * q) := by grind
    rw [Int.add_assoc, e3, e]
    grind
def Bytes' (l : List Int) : Prop := ∀ c ∈ l, 0 ≤ c ∧ c < 256
theorem getD_byte' {l : List Int} (hb : Bytes' l) {i : Nat} (h : i < l.length) : 0 ≤ l.getD i 0 ∧ l.getD i 0 < 256 := by
  rw [List.getD_eq_getElem?_getD, List.getElem?_eq_getElem h]; exact hb _ (List.getElem_mem h)
abbrev ff1 (s : List Int) (base : Int) (i : Nat) : PV.Frame := [(7, .int .i64 (i : Int)), (0, .str s), (1, .int .i64 base)]
def IFaul (s : List Int) (base : Int) (i0 m : Nat) (F : PV.Frame) (H : PV.Heap) : Prop :=
  ∃ i, i + m = i0 ∧ F = ff1 s base i ∧ H = ⟨0, [], [], []⟩
end Go.Proofs.YtbmhnjghpjkjpaaGreatDoor

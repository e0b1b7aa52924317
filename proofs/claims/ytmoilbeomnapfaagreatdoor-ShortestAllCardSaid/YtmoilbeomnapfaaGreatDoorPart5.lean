/- Contracts and laws that the row leans on, part 5: texts that were built one by one, laid together. -/
import Derived.Test.YtmoilbeomnapfaaGreatDoorPart4
import Derived.Shelf.RegionOpenPlain
import Derived.Lib.Strings
import Derived.Lib.Slices
import Derived.Lib.Walk
import Derived.Lib.Builder
import Derived.Lib.UnsafeStr
import Derived.WalkKit
import Derived.Laws.Externs
import Derived.Shelf.Spec.BitsCarry
import Derived.Shelf.Spec.TrailingZeros
set_option maxHeartbeats 4000000
set_option maxRecDepth 4000
set_option exponentiation.threshold 300000
set_option linter.unusedVariables false
set_option linter.unusedSimpArgs false
namespace Go.Proofs.YtmoilbeomnapfaaGreatDoor
open Go Go.PV
theorem least_of (p : Nat → Prop) : ∀ N, p N → ∃ n, p n ∧ ∀ m, m < n → ¬ p m := by
  intro N
  induction N using Nat.strongRecOn with
  | _ N ih =>
    intro h
    by_cases he : ∃ m, m < N ∧ p m
    · obtain ⟨m, hm, hp⟩ := he; exact ih m hm hp
    · exact ⟨N, h, fun m hm hp => he ⟨m, hm, hp⟩⟩
theorem chunk_ex (b : Nat) (hb : 2 ≤ b ∧ b ≤ 36) : ∃ k, 1 ≤ k ∧ k ≤ 64 ∧ b ^ k < 18446744073709551616 ∧ 18446744073709551616 ≤ b ^ (k + 1) ∧ ∀ m, 1 ≤ m → m < k → b ^ (m + 1) < 18446744073709551616 := by
  have h64 : 18446744073709551616 ≤ b ^ (63 + 1) := Nat.le_trans (by decide : 18446744073709551616 ≤ 2 ^ 64) (Nat.pow_le_pow_left hb.1 64)
  obtain ⟨k, hk, hmin⟩ := least_of (fun n => 18446744073709551616 ≤ b ^ (n + 1)) 63 h64
  have hk63 : k ≤ 63 := by
    rcases Nat.lt_or_ge 63 k with h | h
    · exact absurd h64 (hmin 63 h)
    · exact h
  have hk0 : k ≠ 0 := by
    rintro rfl
    rw [Nat.zero_add, Nat.pow_one] at hk; omega
  refine ⟨k, by omega, by omega, ?_, hk, fun m _ hm => by have := hmin m hm; omega⟩
  have := hmin (k - 1) (by omega)
  rw [show k - 1 + 1 = k by omega] at this
  omega
def ChI (b k : Nat) (n : Nat) (F : PV.Frame) (H : PV.Heap) : Prop :=
  ∃ i : Nat, 1 ≤ i ∧ i + n = k ∧ F = [(5, .int .u64 ((b ^ i : Nat) : Int)), (6, .int .i64 (i : Int)), (4, .int .u64 (b : Int))] ∧ H = ⟨0, [], [], []⟩
theorem numeral_chunk (b k : Nat) (hb : 2 ≤ b ∧ b ≤ 36) (h1 : 1 ≤ k) (h2 : k ≤ 64) (h3 : b ^ k < 18446744073709551616) (h4 : 18446744073709551616 ≤ b ^ (k + 1)) (h5 : ∀ m, 1 ≤ m → m < k → b ^ (m + 1) < 18446744073709551616) :
    Meets Tryz.prog 133 [.int .i64 (b : Int)] (.tup [.int .u64 ((b ^ k : Nat) : Int), .int .i64 (k : Int)]) := by
  refine meets_by ttOk Tryz.func133 Tryz.ntmps133 Tryz.results133 (by kernel_rfl) (c := _) rfl rfl rfl fun E => ?_
  simp only [argsFrame]
  refine walk1 ?_
  refine PW.loopA (ChI b k) (k - 1) [(5, .int .u64 ((b ^ 1 : Nat) : Int)), (6, .int .i64 ((1 : Nat) : Int)), (4, .int .u64 (b : Int))] ⟨0, [], [], []⟩ (Sub.norm ⟨?_, rfl, ?_, trivial⟩ trivial (by simp) rfl rfl rfl rfl) ⟨1, by omega, by omega, rfl, rfl⟩ ?_
  · rw [Nat.pow_one]; simp (disch := omega) only [↓wkA, ↓wkE, ↓wkJ, wkB, ↓tt, Nat.reduceBEq, Nat.reduceEqDiff, ↓reduceIte, Nat.reduceLT, Array.toList, Nat.reduceAdd, Nat.reduceMul, Int.reduceToNat, Int.reducePow, UInt8.reduceToNat, wkW, Int.reduceToNat, Int.reducePow]
  · simp (disch := omega) only [↓wkA, ↓wkE, ↓wkJ, wkB, ↓tt, Nat.reduceBEq, Nat.reduceEqDiff, ↓reduceIte, Nat.reduceLT, Array.toList, Nat.reduceAdd, Nat.reduceMul, Int.reduceToNat, Int.reducePow, UInt8.reduceToNat, wkW, Int.reduceToNat, Int.reducePow]
  rintro n F H ⟨i, hi, hn, rfl, rfl⟩
  have hlt : b ^ i < 18446744073709551616 := by
    by_cases e : i = k
    · subst e; exact h3
    · have := h5 i hi (by omega)
      refine Nat.lt_of_le_of_lt (Nat.pow_le_pow_right (by omega) (by omega : i ≤ i + 1)) this
  have hmul : ((b ^ i : Nat) : Int) * (b : Int) = ((b ^ (i + 1) : Nat) : Int) := by rw [Nat.pow_succ]; simp
  have hm := mul64 ((b ^ i : Nat) : Int) (b : Int) (by simp only [B64]; omega) (by simp only [B64]; omega)
  rw [hmul] at hm
  simp only [B64] at hm
  by_cases hk : i = k
  · subst hk
    exact walk
  · have := h5 i hi (by omega)
    refine walk1 ?_
    refine Again.mk (n - 1) [(5, .int .u64 ((b ^ (i + 1) : Nat) : Int)), (6, .int .i64 ((i + 1 : Nat) : Int)), (4, .int .u64 (b : Int))] ⟨0, [], [], []⟩ (by omega) (Sub.norm ⟨?_, rfl, rfl, trivial⟩ trivial (by simp) rfl rfl rfl rfl) ⟨i + 1, by omega, by omega, rfl, rfl⟩
    simp -dsimp only [↓wkA, ↓wkE, ↓wkJ, wkB, ↓tt, Nat.reduceBEq, Nat.reduceEqDiff, ↓reduceIte, Nat.reduceLT, Array.toList, Nat.reduceAdd, Nat.reduceMul, Int.reduceToNat, Int.reducePow, UInt8.reduceToNat]
    refine congrArg _ ?_
    omega
theorem nat_trim_h (l : List Int) (hl : l.length ≤ 17592186043904) (nx : Nat) (rows : List (Nat × PV.Row)) (g : List PV.Frame) (ty : List (Nat × TypeId)) :
    HMeets Tryz.prog 125 [.ints .u64 l] ⟨nx, rows, g, ty⟩ fun res H' => res = .sl nx 0 (size l) true ∧ H' = ⟨nx + 1, setRow rows nx (.ints .u64 (trim l)), g, (nx, 25) :: ty⟩ := by
  refine hmeets_by ttOk Tryz.func125 Tryz.ntmps125 Tryz.results125 (by kernel_rfl) (c := _) rfl rfl fun E => ?_
  simp only [argsFrame]
  have hsz := size_le l
  repeat' first
    | (with_reducible first | refine PW.seq ?_ | refine PW.block ?_ | refine PW.fork ?_ | refine PW.skip ?_ | refine PW.exit ?_ | refine PW.ret ?_ | refine PW.scope ?_ | refine PW.label ?_ | refine PW.goto ?_)
    | (with_reducible refine PW.region ttOk ?_ ?_
       · rfl)
    | (with_reducible refine PW.regionD ttOk mixed ?_ ?_ ?_
       · rfl
       · rfl)
    | (with_reducible refine ifW_dec (fun g => ?_) (fun g => ?_) <;> first | (exfalso; omega) | (simp -dsimp only [g, wkI]))
    | (with_reducible refine condE_dec (fun g => ?_) (fun g => ?_) <;> try (exfalso; omega))
    | (with_reducible refine condE_not (fun g => ?_) (fun g => ?_) <;> try (exfalso; omega))
    | (simp -dsimp only [getRow_setRow_self, Go.PV.setRow_setRow, ↓wkA, ↓wkE, ↓wkJ, wkB, ↓tt, Nat.reduceBEq, Nat.reduceEqDiff, ↓reduceIte, Nat.reduceLT, Array.toList, Nat.reduceAdd, Nat.reduceMul, Int.reduceToNat, Int.reducePow, UInt8.reduceToNat])
    | (refine call_by (nat_size _ (by first | assumption | omega)) (views_data rfl) ⟨trivial, trivial⟩ rfl ?_)
    | (simp -dsimp (disch := first | assumption | omega) only [dec_t, dec_f])
    | (refine andI ?_)
    | (simp (disch := omega) only [wkW, Int.reduceToNat, Int.reducePow])
    | fail
  have e : List.take (min (List.take (size l) l).length (size l)) (List.take (size l) l) ++ List.drop (min (List.take (size l) l).length (size l)) (List.replicate (size l) 0) = trim l := by
    rw [List.length_take, Nat.min_eq_left (by omega : size l ≤ l.length), Nat.min_self, List.take_take, Nat.min_self, List.drop_of_length_le (by simp), List.append_nil]
    rfl
  rw [e]
open Go Go.RowKit Go.Shelf
theorem b_t86 : Tryz.prog.underlying 69 = some (.pointer 72) := by kernel_rfl
theorem b_t137 : Tryz.prog.underlying 134 = some .unsafePointer := by kernel_rfl
theorem b_t118 : Tryz.prog.underlying 114 = some (.pointer 5) := by kernel_rfl
theorem b_size : (Tryz.prog.info? 72).map (·.size) = some 2 := by kernel_rfl
theorem b_lies : liesAt Tryz.prog Tryz.prog.depth 72 (2 / Tryz.prog.cellsOf 72) 0 72 1 = true := by kernel_rfl
theorem b_cells5 : Tryz.prog.cellsOf 5 = 1 := by kernel_rfl
set_option maxHeartbeats 1000000 in
set_option maxRecDepth 100000 in
theorem copyCheck_used (b : Nat) (w : World) (h0 : w.cell? ⟨b, 0, none⟩ = some (.pointer (some ⟨b, 0, none⟩))) :
    Calls Tryz.prog 87 #[.pointer (some ⟨b, 0, none⟩)] w fun e w' => e = .returned (.tuple #[]) ∧ w' = w := by
  obtain ⟨j, hj, _⟩ := Option.map_eq_some_iff.1 b_size
  go_enter Tryz.func87, Tryz.ntmps87
  go_wp2
  rw [Lib.run_neq_ptr_same w _ b_t86 hj]
  go_wp2
  go_end0
  exact ⟨rfl, rfl⟩
set_option maxHeartbeats 1000000 in
set_option maxRecDepth 100000 in
theorem copyCheck_fresh (b : Nat) (w : World) (h0 : w.cell? ⟨b, 0, none⟩ = some (.pointer none)) (hsh : w.shape? b = some (72, 2)) (hfz : w.frozen? ⟨b, 0, none⟩ = false) :
    Calls Tryz.prog 87 #[.pointer (some ⟨b, 0, none⟩)] w fun e w' => e = .returned (.tuple #[]) ∧ w' = w.setCell ⟨b, 0, none⟩ (.pointer (some ⟨b, 0, none⟩)) := by
  obtain ⟨j, hj, hjs⟩ := Option.map_eq_some_iff.1 b_size
  go_enter Tryz.func87, Tryz.ntmps87
  go_wp2
  rw [Lib.run_to_unsafe w ⟨b, 0, none⟩ b_t86 b_t137 hj (by rw [hjs]; decide) hsh (Nat.zero_lt_succ 1)]
  simp only [Result.andThen]
  rw [Oper.upon_value]
  go_wp2
  rw [run_callFunc_extern Tryz.func119 (by kernel_rfl) (by kernel_rfl) (by kernel_rfl) (e := Extern.AbiNoEscape.same) (by kernel_rfl)]
  rw [Lib.run_noEscape]
  simp only [Result.andThen]
  rw [Oper.upon_value]
  go_wp2
  rw [Lib.run_from_unsafe w ⟨b, 0, none⟩ b_t137 b_t86 hj hsh b_lies]
  simp only [Result.andThen]
  rw [Oper.upon_value]
  go_wp2
  go_end0
  exact ⟨rfl, rfl⟩
set_option maxHeartbeats 2000000 in
set_option maxRecDepth 100000 in
theorem string_run (b g cap : Nat) (p : Value) (cur : Array Value) (frb frg : Nat × Nat) (w : World) (l : List UInt8) (h0 : l ≠ []) (hbk : w.heap[b]? = some (.cells #[p, .slice (some ⟨g, 0, none⟩) l.length cap] 72 frb)) (hg : w.heap[g]? = some (.cells cur 5 frg))
    (hlc : l.length ≤ cap) (hcap : cap ≤ cur.size) (h63 : l.length ≤ 9223372036854775807) (hcell : ∀ j x, l[j]? = some x → w.cell? ⟨g, j, none⟩ = some (.int .u8 x.toNat)) :
    Calls Tryz.prog 48 #[.pointer (some ⟨b, 0, none⟩)] w fun e w' => e = .returned (.string ⟨l.toArray⟩) ∧ w' = w.drew.freeze ⟨g, 0, none⟩ l.length := by
  have hl0 : l.length ≠ 0 := by simpa using h0
  have c1 : w.drew.cell? ⟨b, 1, none⟩ = some (.slice (some ⟨g, 0, none⟩) l.length cap) := by
    have : w.drew.heap[b]? = some (.cells #[p, .slice (some ⟨g, 0, none⟩) l.length cap] 72 frb) := hbk
    rw [Lib.cell_of_heap this]; rfl
  have hSD : (Builtin.unsafeSliceData_ #[70] 114 #[.slice (some ⟨g, 0, none⟩) l.length cap]).run Tryz.prog w.drew = .ok (.pointer (some ⟨g, 0, none⟩)) w.drew :=
    Lib.run_unsafeSliceData_row _ _ _ _ _ _ (by omega)
  have hUS : (Builtin.unsafeString_ #[114, 3] 9 #[.pointer (some ⟨g, 0, none⟩), .int .i64 l.length]).run Tryz.prog w.drew = .ok (.string ⟨l.toArray⟩) (w.drew.freeze ⟨g, 0, none⟩ l.length) := by
    refine Lib.run_unsafeString_row w.drew 114 3 9 5 b_t118 b_cells5 g cur.size (by have hg' : w.drew.heap[g]? = some (.cells cur 5 frg) := hg; simp [World.shape?, hg']) l h0 (by omega) h63 ?_
    intro j x hx
    rw [show ((⟨g, 0, none⟩ : Addr).add j) = ⟨g, j, none⟩ by simp [Addr.add]; intro h; exact h.symm]
    exact hcell j x hx
  have mixed := mixed
  go_enter Tryz.func48, Tryz.ntmps48
  go_wp2
  go_region_o
  all_goals (go_wp2; go_ret; exact ⟨rfl, rfl⟩)
theorem b_enter97 (vs : Array Value) (w : World) : (callFunc 87 vs).run Tryz.prog w = .ok (.enter 87 vs) w := call_enters Tryz.func87 (by kernel_rfl) rfl vs w
theorem b_enter67 (vs : Array Value) (w : World) : (callFunc 48 vs).run Tryz.prog w = .ok (.enter 48 vs) w := call_enters Tryz.func48 (by kernel_rfl) rfl vs w
theorem builder_copyCheck {H : PV.Heap} {r : Nat} {p q : PV} (hr : H.get r = some (.var [p, q])) (hp : p = .nilptr ∨ p = .ptr r 0 0) (ht : getT H.ty r = some 72) :
    HMeets Tryz.prog 87 [.ptr r 0 0] H fun res H' => res = .tup [] ∧ H' = H.set r (.var [.ptr r 0 0, q]) :=
  copyCheck_h b_enter97 copyCheck_fresh copyCheck_used hr hp ht
theorem builder_String {H : PV.Heap} {r r2 : Nat} {p : PV} {full : Bool} {l : List Int} (hne : r ≠ r2) (hr : H.get r = some (.var [p, .sl r2 0 l.length full])) (hr2 : H.get r2 = some (.ints .u8 l)) (ht : getT H.ty r = some 72) (ht2 : getT H.ty r2 = some 5)
    (hl0 : l ≠ []) (hl1 : ∀ x ∈ l, 0 ≤ x ∧ x < 256) (hl2 : l.length ≤ 9223372036854775807) :
    HMeets Tryz.prog 48 [.ptr r 0 0] H fun res H' => res = .str l ∧ H' = H.drop [r2] :=
  string_h b_enter67 string_run hne hr hr2 ht ht2 hl0 hl1 hl2
theorem builder_WriteByte {nx : Nat} {rows : List (Nat × PV.Row)} {g : List PV.Frame} {ty : List (Nat × TypeId)} {r r2 : Nat} {p : PV} {l : List Int} (c : Int) (hne : r ≠ r2) (hrn : r < nx) (hrn2 : r2 < nx) (hr : getRow rows r = some (.var [p, .sl r2 0 l.length true])) (hr2 : getRow rows r2 = some (.ints .u8 l))
    (hp : p = .nilptr ∨ p = .ptr r 0 0) (ht : getT ty r = some 72) (ht2 : getT ty r2 = some 5) (hl : l.length ≤ 100000000000000) :
    HMeets Tryz.prog 134 [.ptr r 0 0, .int .u8 c] ⟨nx, rows, g, ty⟩ fun res H' => res = .con .nilIface ∧ H' = ⟨nx + 1, setRow (setRow (killRows r2 (setRow (setRow rows r (.var [.ptr r 0 0, .sl r2 0 l.length true])) nx (.ints .u8 [c]))) r2 (.ints .u8 (l ++ [c]))) r (.var [.ptr r 0 0, .sl r2 0 (l.length + 1) true]), g.map (Frame.kill r2), (r2, 5) :: dropT r2 ((nx, 5) :: ty)⟩ := by
  refine hmeets_by ttOk Tryz.func134 Tryz.ntmps134 Tryz.results134 (by kernel_rfl) (c := _) rfl rfl fun E => ?_
  simp only [argsFrame]
  have h1 : r ≠ nx := by omega
  have h2 : r2 ≠ nx := by omega
  have h3 := Ne.symm hne
  have h4 := Ne.symm h1
  have h5 := Ne.symm h2
  have b1 : (r2 == r) = false := beq_eq_false_iff_ne.2 h3
  have b2 : (r == r2) = false := beq_eq_false_iff_ne.2 hne
  have b3 : (nx == r2) = false := beq_eq_false_iff_ne.2 h5
  have b4 : (r2 == nx) = false := beq_eq_false_iff_ne.2 h2
  have b5 : (nx == r) = false := beq_eq_false_iff_ne.2 h4
  have b6 : (r == nx) = false := beq_eq_false_iff_ne.2 h1
  repeat' first
    | (with_reducible first | refine PW.seq ?_ | refine PW.block ?_ | refine PW.fork ?_ | refine PW.skip ?_ | refine PW.exit ?_ | refine PW.ret ?_ | refine PW.scope ?_ | refine PW.label ?_ | refine PW.goto ?_)
    | (with_reducible refine PW.region ttOk ?_ ?_
       · rfl)
    | (with_reducible refine PW.regionD ttOk mixed ?_ ?_ ?_
       · rfl
       · rfl)
    | (with_reducible refine ifW_dec (fun g => ?_) (fun g => ?_) <;> first | (exfalso; omega) | (simp -dsimp only [g, wkI]))
    | (with_reducible refine condE_dec (fun g => ?_) (fun g => ?_) <;> try (exfalso; omega))
    | (with_reducible refine condE_not (fun g => ?_) (fun g => ?_) <;> try (exfalso; omega))
    | (simp -dsimp only [getRow_setRow, getRow_kill, hr, hr2, hne, h1, h2, h3, h4, h5, b1, b2, b3, b4, b5, b6, ht, ht2, if_true, if_false, Option.map_some, ↓wkA, ↓wkE, ↓wkJ, wkB, ↓tt, Nat.reduceBEq, Nat.reduceEqDiff, ↓reduceIte, Nat.reduceLT, Array.toList, Nat.reduceAdd, Nat.reduceMul, Int.reduceToNat, Int.reducePow, UInt8.reduceToNat])
    | (refine call_h (builder_copyCheck (H := ⟨_, _, _, _⟩) hr hp ht) (fun res H' hR => ?_); obtain ⟨rfl, rfl⟩ := hR; refine ⟨_, _, rfl, ?_⟩)
    | (simp -dsimp (disch := first | assumption | omega) only [dec_t, dec_f])
    | (refine andI ?_)
    | (simp (disch := omega) only [wkW, Int.reduceToNat, Int.reducePow])
    | fail
  trace_state
def digs (b v : Nat) : List Nat := if h : v = 0 ∨ b < 2 then [] else (v % b) :: digs b (v / b)
termination_by v
decreasing_by exact Nat.div_lt_self (by omega) (by omega)
theorem digs_zero (b : Nat) : digs b 0 = [] := by rw [digs]; simp
theorem digs_step {b v : Nat} (hb : 2 ≤ b) (hv : v ≠ 0) : digs b v = (v % b) :: digs b (v / b) := by
  rw [digs, dif_neg (by omega)]
theorem digs_lt {b : Nat} (hb : 2 ≤ b) : ∀ v, ∀ d ∈ digs b v, d < b := by
  intro v
  induction v using Nat.strongRecOn with
  | _ v ih =>
    intro d hd
    by_cases h0 : v = 0
    · subst h0; rw [digs_zero] at hd; cases hd
    · rw [digs_step hb h0] at hd
      rcases List.mem_cons.1 hd with rfl | hd
      · exact Nat.mod_lt _ (by omega)
      · exact ih _ (Nat.div_lt_self (by omega) (by omega)) d hd
theorem digs_len {b : Nat} (hb : 2 ≤ b) : ∀ k v, v < 2 ^ k → (digs b v).length ≤ k := by
  intro k
  induction k with
  | zero => intro v hv; have : v = 0 := by simpa using hv
            subst this; simp [digs_zero]
  | succ k ih =>
    intro v hv
    by_cases h0 : v = 0
    · subst h0; simp [digs_zero]
    · rw [digs_step hb h0, List.length_cons]
      have : v / b ≤ v / 2 := Nat.div_le_div_left hb (by decide)
      have := ih (v / b) (by rw [Nat.pow_succ] at hv; omega)
      omega
theorem digs_part {b m r t : Nat} (hb : 2 ≤ b) (h : r ≠ 0 ∨ t ≠ 0) : digs b (r + b ^ (m + 1) * t) = (r % b) :: digs b (r / b + b ^ m * t) := by
  have hp := Nat.pow_pos (n := m + 1) (show 0 < b by omega)
  have e : b ^ (m + 1) * t = b * (b ^ m * t) := by rw [Nat.pow_succ]; grind
  have h0 : r + b ^ (m + 1) * t ≠ 0 := by
    rcases h with h | h
    · omega
    · have := Nat.mul_pos hp (Nat.pos_of_ne_zero h); omega
  rw [digs_step hb h0, e, Nat.add_mul_mod_self_left, Nat.add_mul_div_left _ _ (by omega)]
def smalls : List Int := [48, 49, 50, 51, 52, 53, 54, 55, 56, 57, 97, 98, 99, 100, 101, 102, 103, 104, 105, 106, 107, 108, 109, 110, 111, 112, 113, 114, 115, 116, 117, 118, 119, 120, 121, 122]
def larges : List Int := [48, 49, 50, 51, 52, 53, 54, 55, 56, 57, 65, 66, 67, 68, 69, 70, 71, 72, 73, 74, 75, 76, 77, 78, 79, 80, 81, 82, 83, 84, 85, 86, 87, 88, 89, 90]
def lettersOf (upper : Bool) : List Int := bif upper then larges else smalls
theorem lettersOf_len (u : Bool) : (lettersOf u).length = 36 := by cases u <;> rfl
theorem lettersOf_byte (u : Bool) : ∀ x ∈ lettersOf u, 0 ≤ x ∧ x < 256 := by cases u <;> decide
def text (b : Nat) (u : Bool) (v : Nat) : List Int := ((digs b v).map fun d => (lettersOf u).getD d 0).reverse
structure DivI (t0 t : List Int) (n i : Nat) (p rest : Int) : Prop where
  len : t.length = t0.length
  lim : Limbs t
  low : ∀ j, j < i → t.getD j 0 = t0.getD j 0
  rst : 0 ≤ rest ∧ rest < p
  eq : ∃ d, vt t n = vt t i + d ∧ vt t0 n = vt t i + d * p + rest * B64 ^ i
theorem vt_set_add (l : List Int) (i : Nat) (q : Int) (hi : i < l.length) : ∀ n, i < n → vt (l.set i q) n = vt l n + B64 ^ i * (q - l.getD i 0)
  | 0, h => by omega
  | n + 1, h => by
    simp only [vt]
    by_cases e : i = n
    · subst e
      rw [vt_set_ge _ _ _ _ hi (Nat.le_refl _), getD_set _ _ _ _ hi, if_pos rfl]
      grind
    · rw [vt_set_add l i q hi n (by omega), getD_set _ _ _ _ hi, if_neg (by omega)]
      grind
theorem DivI.start {t : List Int} {n : Nat} {p : Int} (h : Limbs t) (hp : 0 < p) : DivI t t n n p 0 :=
  ⟨rfl, h, fun _ _ => rfl, ⟨by omega, hp⟩, 0, by omega, by simp⟩
theorem DivI.step {t0 t : List Int} {n i : Nat} {p rest : Int} (h : DivI t0 t n (i + 1) p rest) (hi : i < t.length) (hin : i < n) (hp : 0 < p ∧ p < B64) :
    DivI t0 (t.set i ((rest * B64 + t.getD i 0) / p)) n i p ((rest * B64 + t.getD i 0) % p) := by
  obtain ⟨d, hd1, hd2⟩ := h.eq
  have hx := getD_limb h.lim i
  have hr := h.rst
  have e1 := Int.emod_add_mul_ediv (rest * B64 + t.getD i 0) p
  have e2 := Int.emod_nonneg (rest * B64 + t.getD i 0) (show p ≠ 0 by omega)
  have e3 := Int.emod_lt_of_pos (rest * B64 + t.getD i 0) hp.1
  have hB : (0 : Int) < B64 := by decide
  have hq0 : 0 ≤ (rest * B64 + t.getD i 0) / p := Int.ediv_nonneg (by have := Int.mul_nonneg hr.1 (Int.le_of_lt hB); omega) (by omega)
  have hq1 : (rest * B64 + t.getD i 0) / p < B64 := by
    rw [Int.ediv_lt_iff_lt_mul hp.1]
    have : (rest + 1) * B64 ≤ p * B64 := Int.mul_le_mul_of_nonneg_right (by omega) (Int.le_of_lt hB)
    have : (rest + 1) * B64 = rest * B64 + B64 := by grind
    have : B64 * p = p * B64 := Int.mul_comm _ _
    omega
  refine ⟨by rw [List.length_set]; exact h.len, limbs_set h.lim i ⟨hq0, hq1⟩, fun j hj => ?_, ⟨e2, e3⟩, d + B64 ^ i * ((rest * B64 + t.getD i 0) / p), ?_, ?_⟩
  · rw [getD_set _ _ _ _ hi, if_neg (by omega)]; exact h.low j (by omega)
  · rw [vt_set_add _ _ _ hi n hin, vt_set_ge _ _ _ _ hi (Nat.le_refl _), hd1]
    simp only [vt]; grind
  · rw [vt_set_ge _ _ _ _ hi (Nat.le_refl _), hd2]
    simp only [vt, Int.pow_succ]
    generalize (rest * B64 + t.getD i 0) / p = q at *
    generalize (rest * B64 + t.getD i 0) % p = r at *
    have : rest * (B64 ^ i * B64) + B64 ^ i * t.getD i 0 = B64 ^ i * (r + p * q) := by rw [e1]; grind
    grind
theorem DivI.fin {t0 t : List Int} {n : Nat} {p rest : Int} (h : DivI t0 t n 0 p rest) : vt t n = vt t0 n / p ∧ rest = vt t0 n % p := by
  obtain ⟨d, hd1, hd2⟩ := h.eq
  have hr := h.rst
  have hv0 : vt t 0 = 0 := rfl
  rw [hv0] at hd1 hd2
  simp only [Int.pow_zero, Int.mul_one, Int.zero_add] at hd1 hd2
  have := (Int.ediv_emod_unique (a := vt t0 n) (r := rest) (q := d) (b := p) (by omega)).2 ⟨by rw [hd2, Int.mul_comm p d, Int.add_comm], hr.1, hr.2⟩
  exact ⟨by rw [hd1]; exact this.1.symm, this.2.symm⟩
def worth (c : Int) : Int := if 48 ≤ c ∧ c ≤ 57 then c - 48 else if 97 ≤ c ∧ c ≤ 122 then c - 87 else if 65 ≤ c ∧ c ≤ 90 then c - 55 else 36
def numN (b : Nat) (s : List Int) : Nat → Nat
  | 0 => 0
  | i + 1 => numN b s i * b + (worth (s.getD i 0)).toNat
def num (b : Nat) (s : List Int) : Nat := numN b s s.length
def natL (v : Nat) : List Int := (digs 18446744073709551616 v).map fun (d : Nat) => (d : Int)
def Nrm (a : List Int) : Prop := a.length ≠ 0 → B64 ^ (a.length - 1) ≤ val a
theorem vt_cons (x : Int) (l : List Int) : ∀ n, vt (x :: l) (n + 1) = x + B64 * vt l n
  | 0 => by simp [vt]
  | n + 1 => by
    have ih := vt_cons x l n
    have e1 : vt (x :: l) (n + 1 + 1) = vt (x :: l) (n + 1) + B64 ^ (n + 1) * (x :: l).getD (n + 1) 0 := rfl
    have e2 : vt l (n + 1) = vt l n + B64 ^ n * l.getD n 0 := rfl
    rw [e1, e2, ih, Int.pow_succ, List.getD_cons_succ]
    grind
theorem val_cons (x : Int) (l : List Int) : val (x :: l) = x + B64 * val l := vt_cons x l l.length
theorem natL_val {a : List Int} (ha : Limbs a) (hn : Nrm a) : a = natL (val a).toNat := by
  induction a with
  | nil => simp [val, vt, natL, digs_zero]
  | cons x l ih =>
    have hx := ha x (by simp)
    have hl : Limbs l := fun y hy => ha y (by simp [hy])
    have hlv := vt_bound hl l.length
    have hv := val_cons x l
    have h1 := hn (by simp)
    have hnl : Nrm l := fun h0 => by
      simp only [List.length_cons, Nat.add_sub_cancel] at h1
      obtain ⟨m, hm⟩ : ∃ m, l.length = m + 1 := ⟨l.length - 1, by omega⟩
      rw [hm, Int.pow_succ, hv] at h1
      rw [hm, Nat.add_sub_cancel]
      simp only [B64] at h1 ⊢
      omega
    have e := ih hl hnl
    have hvn : 0 ≤ val l := hlv.1
    have hne : (val (x :: l)).toNat ≠ 0 := by
      have : 0 < B64 ^ ((x :: l).length - 1) := pow_pos64 _
      omega
    have hm : (val (x :: l)).toNat % 18446744073709551616 = x.toNat := by rw [hv]; simp only [B64]; omega
    have hd : (val (x :: l)).toNat / 18446744073709551616 = (val l).toNat := by rw [hv]; simp only [B64]; omega
    unfold natL at e ⊢
    rw [digs_step (b := 18446744073709551616) (by decide) hne, hm, hd, List.map_cons, ← e]
    congr 1
    omega
theorem nrm_of_top {a : List Int} (ha : Limbs a) (h : a.length ≠ 0 → a.getD (a.length - 1) 0 ≠ 0) : Nrm a := by
  intro h0
  obtain ⟨m, hm⟩ : ∃ m, a.length = m + 1 := ⟨a.length - 1, by omega⟩
  have h1 := h h0
  rw [hm, Nat.add_sub_cancel] at h1 ⊢
  have h2 := getD_limb ha m
  have h3 := vt_bound ha m
  have h4 : B64 ^ m * 1 ≤ B64 ^ m * a.getD m 0 := Int.mul_le_mul_of_nonneg_left (by omega) (Int.le_of_lt (pow_pos64 m))
  have h5 : val a = vt a m + B64 ^ m * a.getD m 0 := by unfold val; rw [hm]; rfl
  omega
theorem val_trim (a : List Int) : val (trim a) = val a := by
  have h := size_le a
  have hl : (trim a).length = size a := by simp [trim]; omega
  unfold val
  rw [hl]
  refine Eq.trans ?_ (vt_size a)
  exact vt_same _ fun j hj => by simp [trim, List.getD_eq_getElem?_getD, List.getElem?_take, hj]
theorem limbs_trim {a : List Int} (ha : Limbs a) : Limbs (trim a) := limbs_take ha _
theorem nrm_trim {a : List Int} (ha : Limbs a) : Nrm (trim a) := by
  refine nrm_of_top (limbs_trim ha) fun h0 => ?_
  have h := size_le a
  have hl : (trim a).length = size a := by simp [trim]; omega
  rw [hl] at h0 ⊢
  have := sizeN_top a a.length h0
  simp only [trim, List.getD_eq_getElem?_getD, List.getElem?_take] at this ⊢
  rw [if_pos (by omega)]; exact this
theorem trim_eq {a : List Int} (ha : Limbs a) : trim a = natL (val a).toNat := by
  have := natL_val (limbs_trim ha) (nrm_trim ha)
  rwa [val_trim] at this
structure MulA (a t : List Int) (f p0 : Int) (j : Nat) (p : Int) : Prop where
  len : t.length = a.length
  lim : Limbs t
  high : ∀ i, j ≤ i → t.getD i 0 = a.getD i 0
  car : 0 ≤ p ∧ p < B64
  eq : vt t j + B64 ^ j * p = vt a j * f + p0
theorem MulA.start {a : List Int} {f p0 : Int} (ha : Limbs a) (hp : 0 ≤ p0 ∧ p0 < B64) : MulA a a f p0 0 p0 :=
  ⟨rfl, ha, fun _ _ => rfl, hp, by simp [vt]⟩
theorem MulA.step {a t : List Int} {f p0 p : Int} {j : Nat} (h : MulA a t f p0 j p) (ha : Limbs a) (hj : j < a.length) (hf : 0 < f ∧ f < B64) :
    MulA a (t.set j ((a.getD j 0 * f + p) % B64)) f p0 (j + 1) ((a.getD j 0 * f + p) / B64) := by
  have hx := getD_limb ha j
  have hc := h.car
  have hjt : j < t.length := by rw [h.len]; exact hj
  have hB : (0 : Int) < B64 := by decide
  have hxf : 0 ≤ a.getD j 0 * f := Int.mul_nonneg hx.1 (by omega)
  have hxf2 : a.getD j 0 * f ≤ (B64 - 1) * (B64 - 1) := Int.mul_le_mul (by omega) (by omega) (by omega) (by omega)
  have e := Int.emod_add_mul_ediv (a.getD j 0 * f + p) B64
  have e1 := Int.emod_nonneg (a.getD j 0 * f + p) (show B64 ≠ 0 by decide)
  have e2 := Int.emod_lt_of_pos (a.getD j 0 * f + p) hB
  refine ⟨by rw [List.length_set]; exact h.len, limbs_set h.lim j ⟨e1, e2⟩, fun i hi => ?_, ⟨Int.ediv_nonneg (by omega) (by decide), ?_⟩, ?_⟩
  · rw [getD_set _ _ _ _ hjt, if_neg (by omega)]; exact h.high i (by omega)
  · simp only [B64] at *; omega
  · simp only [vt]
    rw [vt_set_ge _ _ _ _ hjt (Nat.le_refl _), getD_set _ _ _ _ hjt, if_pos rfl, Int.pow_succ]
    have h3 := h.eq
    generalize (a.getD j 0 * f + p) % B64 = r at *
    generalize (a.getD j 0 * f + p) / B64 = q at *
    have e3 : B64 ^ j * r + B64 ^ j * B64 * q = B64 ^ j * (r + B64 * q) := by grind
    rw [Int.add_assoc, e3, e]
    grind
def Bytes' (l : List Int) : Prop := ∀ c ∈ l, 0 ≤ c ∧ c < 256
theorem byteOf_list {l : List Int} (h : Bytes' l) : l.map PV.byteOf = l := by
  refine (List.map_congr_left fun c hc => ?_).trans (List.map_id' l)
  have := h c hc
  unfold PV.byteOf
  omega
theorem nrm_bound {a : List Int} (hn : Nrm a) {k : Nat} (h : val a < B64 ^ k) : a.length ≤ k := by
  rcases Nat.lt_or_ge k a.length with h1 | h1
  · exfalso
    have h2 := hn (by omega)
    have h3 := pow_mono64 (show k ≤ a.length - 1 by omega)
    omega
  · exact h1
def inBaseR (a : List Int) (base : Int) (u : Bool) : PV :=
  if 4096 < size a then .tup [.str [], .int .i64 2] else if base < 2 ∨ 36 < base then .tup [.str [], .int .i64 32] else if size a = 0 then .tup [.str [48], .int .i64 0] else .tup [.str (text base.toNat u (val a).toNat), .int .i64 0]
theorem trim_len (a : List Int) : (trim a).length = size a := by
  have := size_le a
  simp [trim]; omega
theorem in_base_err (a : List Int) (hla : a.length ≤ 17592186043904) (base : Int) (hb : -9223372036854775808 ≤ base ∧ base ≤ 9223372036854775807) (u : Bool) (h : 4096 < size a ∨ (base < 2 ∨ 36 < base) ∨ size a = 0) :
    Meets Tryz.prog 101 [.ints .u64 a, .int .i64 base, .bool u] (inBaseR a base u) := by
  refine meets_by ttOk Tryz.func101 Tryz.ntmps101 Tryz.results101 (by kernel_rfl) (c := _) rfl rfl rfl fun E => ?_
  simp only [argsFrame]
  have htl := trim_len a
  unfold inBaseR
  by_cases h1 : 4096 < size a
  · rw [if_pos h1]
    repeat' first
      | (with_reducible first | refine PW.seq ?_ | refine PW.block ?_ | refine PW.fork ?_ | refine PW.skip ?_ | refine PW.exit ?_ | refine PW.ret ?_ | refine PW.scope ?_ | refine PW.label ?_ | refine PW.goto ?_)
      | (with_reducible refine PW.region ttOk ?_ ?_
         · rfl)
      | (with_reducible refine PW.regionD ttOk mixed ?_ ?_ ?_
         · rfl
         · rfl)
      | (with_reducible refine ifW_dec (fun g => ?_) (fun g => ?_) <;> first | (exfalso; omega) | (simp -dsimp only [g, wkI]))
      | (with_reducible refine condE_dec (fun g => ?_) (fun g => ?_) <;> try (exfalso; omega))
      | (with_reducible refine condE_not (fun g => ?_) (fun g => ?_) <;> try (exfalso; omega))
      | (simp -dsimp only [↓wkA, ↓wkE, ↓wkJ, wkB, ↓tt, Nat.reduceBEq, Nat.reduceEqDiff, ↓reduceIte, Nat.reduceLT, Array.toList, Nat.reduceAdd, Nat.reduceMul, Int.reduceToNat, Int.reducePow, UInt8.reduceToNat])
      | (refine call_h (nat_trim_h a hla _ _ _ _) (fun res H' hR => ?_); obtain ⟨rfl, rfl⟩ := hR; refine ⟨_, _, rfl, ?_⟩)
      | (simp -dsimp (disch := first | assumption | omega) only [dec_t, dec_f])
      | (refine andI ?_)
      | (simp (disch := omega) only [wkW, Int.reduceToNat, Int.reducePow])
      | fail
  rw [if_neg h1]
  by_cases h2 : base < 2 ∨ 36 < base
  · rw [if_pos h2]
    repeat' first
      | (with_reducible first | refine PW.seq ?_ | refine PW.block ?_ | refine PW.fork ?_ | refine PW.skip ?_ | refine PW.exit ?_ | refine PW.ret ?_ | refine PW.scope ?_ | refine PW.label ?_ | refine PW.goto ?_)
      | (with_reducible refine PW.region ttOk ?_ ?_
         · rfl)
      | (with_reducible refine PW.regionD ttOk mixed ?_ ?_ ?_
         · rfl
         · rfl)
      | (with_reducible refine ifW_dec (fun g => ?_) (fun g => ?_) <;> first | (exfalso; omega) | (simp -dsimp only [g, wkI]))
      | (with_reducible refine condE_dec (fun g => ?_) (fun g => ?_) <;> try (exfalso; omega))
      | (with_reducible refine condE_not (fun g => ?_) (fun g => ?_) <;> try (exfalso; omega))
      | (simp -dsimp only [↓wkA, ↓wkE, ↓wkJ, wkB, ↓tt, Nat.reduceBEq, Nat.reduceEqDiff, ↓reduceIte, Nat.reduceLT, Array.toList, Nat.reduceAdd, Nat.reduceMul, Int.reduceToNat, Int.reducePow, UInt8.reduceToNat])
      | (refine call_h (nat_trim_h a hla _ _ _ _) (fun res H' hR => ?_); obtain ⟨rfl, rfl⟩ := hR; refine ⟨_, _, rfl, ?_⟩)
      | (simp -dsimp (disch := first | assumption | omega) only [dec_t, dec_f])
      | (refine andI ?_)
      | (simp (disch := omega) only [wkW, Int.reduceToNat, Int.reducePow])
      | fail
  rw [if_neg h2]
  have h3 : size a = 0 := by omega
  rw [if_pos h3]
  repeat' first
    | (with_reducible first | refine PW.seq ?_ | refine PW.block ?_ | refine PW.fork ?_ | refine PW.skip ?_ | refine PW.exit ?_ | refine PW.ret ?_ | refine PW.scope ?_ | refine PW.label ?_ | refine PW.goto ?_)
    | (with_reducible refine PW.region ttOk ?_ ?_
       · rfl)
    | (with_reducible refine PW.regionD ttOk mixed ?_ ?_ ?_
       · rfl
       · rfl)
    | (with_reducible refine ifW_dec (fun g => ?_) (fun g => ?_) <;> first | (exfalso; omega) | (simp -dsimp only [g, wkI]))
    | (with_reducible refine condE_dec (fun g => ?_) (fun g => ?_) <;> try (exfalso; omega))
    | (with_reducible refine condE_not (fun g => ?_) (fun g => ?_) <;> try (exfalso; omega))
    | (simp -dsimp only [↓wkA, ↓wkE, ↓wkJ, wkB, ↓tt, Nat.reduceBEq, Nat.reduceEqDiff, ↓reduceIte, Nat.reduceLT, Array.toList, Nat.reduceAdd, Nat.reduceMul, Int.reduceToNat, Int.reducePow, UInt8.reduceToNat])
    | (refine call_h (nat_trim_h a hla _ _ _ _) (fun res H' hR => ?_); obtain ⟨rfl, rfl⟩ := hR; refine ⟨_, _, rfl, ?_⟩)
    | (simp -dsimp (disch := first | assumption | omega) only [dec_t, dec_f])
    | (refine andI ?_)
    | (simp (disch := omega) only [wkW, Int.reduceToNat, Int.reducePow])
    | fail
abbrev ifO (b k : Nat) (ℓ : List Int) (n r : Nat) : PV.Frame := [(8, .sl 0 0 n true), (9, .str ℓ), (1, .int .i64 (b : Int)), (10, .int .u64 ((b ^ k : Nat) : Int)), (11, .int .i64 (k : Int)), (12, .sl 1 0 r true)]
abbrev ihO (t rev : List Int) : PV.Heap := ⟨2, [(0, .ints .u64 t), (1, .ints .u8 rev)], [], []⟩
def IOut (b k : Nat) (ℓ R : List Int) (L : Nat) (m : Nat) (F : PV.Frame) (H : PV.Heap) : Prop :=
  ∃ n t rev, t.length = L ∧ n ≤ L ∧ Limbs t ∧ (n ≠ 0 → t.getD (n - 1) 0 ≠ 0) ∧ rev ++ (digs b (vt t n).toNat).map (fun d => ℓ.getD d 0) = R ∧ (vt t n).toNat = m ∧ F = ifO b k ℓ n rev.length ∧ H = ihO t rev
def IDiv (b k : Nat) (ℓ t rev : List Int) (n L : Nat) (i : Nat) (F : PV.Frame) (H : PV.Heap) : Prop :=
  ∃ t' rest, t'.length = L ∧ DivI t t' n i ((b ^ k : Nat) : Int) rest ∧ i ≤ n ∧ F = (14, .int .i64 ((i : Int) - 1)) :: (13, .int .u64 rest) :: ifO b k ℓ n rev.length ∧ H = ihO t' rev
def ITrim (b k : Nat) (ℓ t rev : List Int) (n : Nat) (T rest : Int) (i : Nat) (F : PV.Frame) (H : PV.Heap) : Prop :=
  i ≤ n ∧ vt t i = T ∧ F = (13, .int .u64 rest) :: ifO b k ℓ i rev.length ∧ H = ihO t rev
def IDig (b k : Nat) (ℓ R t : List Int) (n τ : Nat) (i : Nat) (F : PV.Frame) (H : PV.Heap) : Prop :=
  ∃ (j r : Nat) (rv : List Int), j + i = k ∧ r < b ^ i ∧ rv ++ (digs b (r + b ^ i * τ)).map (fun d => ℓ.getD d 0) = R ∧ F = (15, .int .i64 (j : Int)) :: (13, .int .u64 ((r : Nat) : Int)) :: ifO b k ℓ n rv.length ∧ H = ihO t rv
abbrev ihB (R : List Int) (p : PV) (l : List Int) : PV.Heap := ⟨4, [(1, .ints .u8 R), (2, .var [p, .sl 3 0 l.length true]), (3, .ints .u8 l)], [], [(3, 5), (2, 72)]⟩
def IBuild (R : List Int) (i : Nat) (F : PV.Frame) (H : PV.Heap) : Prop :=
  ∃ p, i ≤ R.length ∧ (p = .nilptr ∨ p = .ptr 2 0 0) ∧ F = [(17, .int .i64 ((i : Int) - 1)), (16, .ptr 2 0 0), (12, .sl 1 0 R.length true)] ∧ H = ihB R p (R.drop i).reverse
set_option exponentiation.threshold 300000 in
set_option maxHeartbeats 2000000 in
theorem in_base_main (a : List Int) (ha : Limbs a) (hla : a.length ≤ 17592186043904) (b : Nat) (hb : 2 ≤ b ∧ b ≤ 36) (u : Bool) (h1 : size a ≤ 4096) (h2 : size a ≠ 0) :
    Meets Tryz.prog 101 [.ints .u64 a, .int .i64 (b : Int), .bool u] (.tup [.str (text b u (val a).toNat), .int .i64 0]) := by
  refine meets_by ttOk Tryz.func101 Tryz.ntmps101 Tryz.results101 (by kernel_rfl) (c := _) rfl rfl rfl fun E => ?_
  simp only [argsFrame]
  have htl := trim_len a
  obtain ⟨k, hk1, hk2, hk3, hk4, hk5⟩ := chunk_ex b hb
  have hchunk := numeral_chunk b k hb hk1 hk2 hk3 hk4 hk5
  repeat' first
    | (with_reducible first | refine PW.seq ?_ | refine PW.block ?_ | refine PW.fork ?_ | refine PW.skip ?_ | refine PW.exit ?_ | refine PW.ret ?_ | refine PW.scope ?_ | refine PW.label ?_ | refine PW.goto ?_)
    | (with_reducible refine PW.region ttOk ?_ ?_
       · rfl)
    | (with_reducible refine PW.regionD ttOk mixed ?_ ?_ ?_
       · rfl
       · rfl)
    | (with_reducible refine ifW_dec (fun g => ?_) (fun g => ?_) <;> first | (exfalso; omega) | (simp -dsimp only [g, wkI]))
    | (with_reducible refine condE_dec (fun g => ?_) (fun g => ?_) <;> try (exfalso; omega))
    | (with_reducible refine condE_not (fun g => ?_) (fun g => ?_) <;> try (exfalso; omega))
    | (simp -dsimp only [↓wkA, ↓wkE, ↓wkJ, wkB, ↓tt, Nat.reduceBEq, Nat.reduceEqDiff, ↓reduceIte, Nat.reduceLT, Array.toList, Nat.reduceAdd, Nat.reduceMul, Int.reduceToNat, Int.reducePow, UInt8.reduceToNat])
    | (refine call_h (nat_trim_h a hla _ _ _ _) (fun res H' hR => ?_); obtain ⟨rfl, rfl⟩ := hR; refine ⟨_, _, rfl, ?_⟩)
    | (refine call_by hchunk (views_data rfl) ⟨trivial, trivial⟩ rfl ?_)
    | (simp -dsimp (disch := first | assumption | omega) only [dec_t, dec_f])
    | (refine andI ?_)
    | (simp (disch := omega) only [wkW, Int.reduceToNat, Int.reducePow])
    | fail
  refine condE_meet (fun F H => F = [(8, .sl 0 0 (size a) true), (9, .str (lettersOf u)), (1, .int .i64 (b : Int))] ∧ H = ⟨1, [(0, .ints .u64 (trim a))], [], [(0, 25)]⟩) (fun hu => ?_) (fun hu => ?_) ?_
  · subst hu
    refine walk1 ?_
    exact Meet.mk [(8, .sl 0 0 (size a) true), (9, .str (lettersOf true)), (1, .int .i64 (b : Int))] ⟨1, [(0, .ints .u64 (trim a))], [], [(0, 25)]⟩ (Sub.norm ⟨rfl, rfl, rfl, trivial⟩ ⟨rfl, trivial⟩ (Nat.le_refl _) rfl rfl rfl rfl (tyOk_spec rfl)) ⟨rfl, rfl⟩
  · subst hu
    refine walk1 ?_
    exact Meet.mk [(8, .sl 0 0 (size a) true), (9, .str (lettersOf false)), (1, .int .i64 (b : Int))] ⟨1, [(0, .ints .u64 (trim a))], [], [(0, 25)]⟩ (Sub.norm ⟨rfl, rfl, rfl, trivial⟩ ⟨rfl, trivial⟩ (Nat.le_refl _) rfl rfl rfl rfl (tyOk_spec rfl)) ⟨rfl, rfl⟩
  rintro F H ⟨rfl, rfl⟩
  have K0 := hchunk
  refine walk1 ?_
  obtain ⟨ℓ, hℓ⟩ : ∃ ℓ, lettersOf u = ℓ := ⟨_, rfl⟩
  have hℓl : ℓ.length = 36 := by rw [← hℓ]; exact lettersOf_len u
  have hℓb : ∀ x ∈ ℓ, 0 ≤ x ∧ x < 256 := by rw [← hℓ]; exact lettersOf_byte u
  have hval : vt (trim a) (size a) = val a := by
    rw [← vt_size a]; exact vt_same _ fun j hj => by simp [trim, List.getD_eq_getElem?_getD, List.getElem?_take, hj]
  have hlim := limbs_take ha (size a)
  have hV := vt_bound hlim (size a)
  rw [show List.take (size a) a = trim a from rfl, hval] at hV
  have hVlt : (val a).toNat < 2 ^ 262144 := by
    have h3 := pow_mono64 h1
    have e : B64 ^ 4096 = ((2 ^ 262144 : Nat) : Int) := by
      rw [show (262144 : Nat) = 64 * 4096 from rfl, Nat.pow_mul, Int.natCast_pow]; rfl
    omega
  obtain ⟨R, hR⟩ : ∃ R, (digs b (val a).toNat).map (fun d => ℓ.getD d 0) = R := ⟨_, rfl⟩
  have hRl : R.length ≤ 262144 := by
    rw [← hR, List.length_map]; exact digs_len hb.1 _ _ hVlt
  have hRb : ∀ x ∈ R, 0 ≤ x ∧ x < 256 := by
    intro x hx
    rw [← hR] at hx
    obtain ⟨d, hd, rfl⟩ := List.mem_map.1 hx
    have := digs_lt hb.1 _ d hd
    rw [List.getD_eq_getElem?_getD, List.getElem?_eq_getElem (by omega)]
    exact hℓb _ (List.getElem_mem _)
  have hp2 : 2 ≤ b ^ k := Nat.le_trans hb.1 (by simpa using Nat.pow_le_pow_right (show 0 < b by omega) hk1)
  refine PW.meetB (fun F H => F = [(12, .sl 1 0 R.length true)] ∧ H = ⟨2, [(1, .ints .u8 R)], [], []⟩) ?_ ?_
  · refine PW.loopA (IOut b k ℓ R (size a)) (val a).toNat (ifO b k ℓ (size a) 0) (ihO (trim a) []) (Sub.trans (Sub.nilVar 12 5 .u8 rfl) (Sub.norm ⟨rfl, congrArg PV.str hℓ, rfl, rfl, rfl, rfl, trivial⟩ ⟨rfl, rfl, trivial⟩ (Nat.le_refl _) rfl rfl rfl rfl)) ⟨size a, trim a, [], htl, Nat.le_refl _, hlim, fun _ => ?_, ?_, by rw [hval], rfl, rfl⟩ ?_
    · have := sizeN_top a a.length h2
      simp only [trim, List.getD_eq_getElem?_getD, List.getElem?_take] at this ⊢
      rw [if_pos (by omega)]; exact this
    · rw [hval]; exact hR
    rintro m F H ⟨n, t, rev, htl', hn, htL, htop, hrev, hm, rfl, rfl⟩
    by_cases h0 : n = 0
    · subst h0
      have hv0 : vt t 0 = 0 := rfl
      rw [hv0] at hrev
      simp only [Int.toNat_zero, digs_zero, List.map_nil, List.append_nil] at hrev
      subst hrev
      refine walk1 ?_
      exact Meet.mk [(12, .sl 1 0 rev.length true)] ⟨2, [(1, .ints .u8 rev)], [], []⟩ (Sub.norm ⟨rfl, trivial⟩ ⟨rfl, trivial⟩ (Nat.le_refl _) rfl rfl rfl rfl) ⟨rfl, rfl⟩
    have hVn := vt_bound htL n
    have htn : 0 < vt t n := by
      obtain ⟨n', rfl⟩ : ∃ n', n = n' + 1 := ⟨n - 1, by omega⟩
      have h1 := htop h0
      have h2 := getD_limb htL n'
      rw [show n' + 1 - 1 = n' by omega] at h1
      have h3 := vt_bound htL n'
      have h4 : 0 < B64 ^ n' * t.getD n' 0 := Int.mul_pos (pow_pos64 n') (by omega)
      simp only [vt]; omega
    have hp0 : (0 : Int) < ((b ^ k : Nat) : Int) ∧ ((b ^ k : Nat) : Int) < B64 := by simp only [B64]; omega
    refine walk1 ?_
    -- division of the limbs
    refine PW.meetB (fun F H => ∃ t', t'.length = size a ∧ Limbs t' ∧ vt t' n = vt t n / ((b ^ k : Nat) : Int) ∧ F = (13, .int .u64 (vt t n % ((b ^ k : Nat) : Int))) :: ifO b k ℓ n rev.length ∧ H = ihO t' rev) ?_ ?_
    · refine PW.loopA (IDiv b k ℓ t rev n (size a)) n ((14, .int .i64 ((n : Int) - 1)) :: (13, .int .u64 0) :: ifO b k ℓ n rev.length) (ihO t rev) (Sub.norm ⟨?_, rfl, rfl, rfl, rfl, rfl, rfl, rfl, trivial⟩ ⟨rfl, rfl, trivial⟩ (Nat.le_refl _) rfl rfl rfl rfl) ⟨t, 0, htl', DivI.start htL hp0.1, Nat.le_refl _, rfl, rfl⟩ ?_
      · simp (disch := omega) only [↓wkA, ↓wkE, ↓wkJ, wkB, ↓tt, Nat.reduceBEq, Nat.reduceEqDiff, ↓reduceIte, Nat.reduceLT, Array.toList, Nat.reduceAdd, Nat.reduceMul, Int.reduceToNat, Int.reducePow, UInt8.reduceToNat, wkW, Int.reduceToNat, Int.reducePow]
      rintro i F H ⟨t', rest, ht', hdiv, hin, rfl, rfl⟩
      have hrst := hdiv.rst
      cases i with
      | zero =>
        obtain ⟨f1, f2⟩ := hdiv.fin
        refine walk1 ?_
        exact Meet.mk ((13, .int .u64 (vt t n % ((b ^ k : Nat) : Int))) :: ifO b k ℓ n rev.length) (ihO t' rev) (Sub.norm ⟨congrArg (PV.int .u64) f2, rfl, rfl, rfl, rfl, rfl, rfl, trivial⟩ ⟨rfl, rfl, trivial⟩ (Nat.le_refl _) rfl rfl rfl rfl) ⟨t', ht', hdiv.lim, f1, rfl, rfl⟩
      | succ j =>
        have e : (((j + 1 : Nat)) : Int) - 1 = (j : Int) := by omega
        rw [e]
        have hx := getD_limb hdiv.lim j
        have hdv := div64 rest (t'.getD j 0) ((b ^ k : Nat) : Int) hp0 (by omega) hx
        have hstep := hdiv.step (by omega) (by omega) hp0
        simp only [B64] at hdv hp0 hx
        refine walk1 ?_
        exact Again.mk j ((14, .int .i64 ((j : Int) - 1)) :: (13, .int .u64 ((rest * B64 + t'.getD j 0) % ((b ^ k : Nat) : Int))) :: ifO b k ℓ n rev.length) (ihO (t'.set j ((rest * B64 + t'.getD j 0) / ((b ^ k : Nat) : Int))) rev) (by omega) (Sub.norm ⟨rfl, rfl, rfl, rfl, rfl, rfl, rfl, rfl, trivial⟩ ⟨rfl, rfl, trivial⟩ (Nat.le_refl _) rfl rfl rfl rfl) ⟨_, _, by rw [List.length_set]; exact ht', hstep, by omega, rfl, rfl⟩
    rintro F H ⟨t', ht', htL', hvt', rfl, rfl⟩
    -- the high zeros
    obtain ⟨T, hT⟩ : ∃ T, vt t n / ((b ^ k : Nat) : Int) = T := ⟨_, rfl⟩
    obtain ⟨rest, hrest⟩ : ∃ r, vt t n % ((b ^ k : Nat) : Int) = r := ⟨_, rfl⟩
    have hdm := Int.emod_add_mul_ediv (vt t n) ((b ^ k : Nat) : Int)
    have hr0 := Int.emod_nonneg (vt t n) (show ((b ^ k : Nat) : Int) ≠ 0 by omega)
    have hr1 := Int.emod_lt_of_pos (vt t n) hp0.1
    have hT0 : 0 ≤ T := by rw [← hT]; exact Int.ediv_nonneg (by omega) (by omega)
    rw [hrest] at hdm hr0 hr1
    rw [hT] at hdm hvt'
    simp only [hrest]
    refine walk1 ?_
    refine PW.meetB (fun F H => ∃ n', n' ≤ n ∧ vt t' n' = T ∧ (n' ≠ 0 → t'.getD (n' - 1) 0 ≠ 0) ∧ F = (13, .int .u64 rest) :: ifO b k ℓ n' rev.length ∧ H = ihO t' rev) ?_ ?_
    · refine PW.loopA (ITrim b k ℓ t' rev n T rest) n ((13, .int .u64 rest) :: ifO b k ℓ n rev.length) (ihO t' rev) (Sub.refl _ _ _ _) ⟨Nat.le_refl _, hvt', rfl, rfl⟩ ?_
      rintro i F H ⟨hin, hvi, rfl, rfl⟩
      cases i with
      | zero =>
        repeat' first
          | (with_reducible first | refine PW.seq ?_ | refine PW.block ?_ | refine PW.fork ?_ | refine PW.skip ?_ | refine PW.exit ?_ | refine PW.ret ?_ | refine PW.scope ?_ | refine PW.label ?_ | refine PW.goto ?_)
          | (with_reducible refine PW.region ttOk ?_ ?_
             · rfl)
          | (with_reducible refine PW.regionD ttOk mixed ?_ ?_ ?_
             · rfl
             · rfl)
          | (with_reducible refine ifW_dec (fun g => ?_) (fun g => ?_) <;> first | (exfalso; omega) | (simp -dsimp only [g, wkI]))
          | (with_reducible refine condE_dec (fun g => ?_) (fun g => ?_) <;> try (exfalso; omega))
          | (with_reducible refine condE_not (fun g => ?_) (fun g => ?_) <;> try (exfalso; omega))
          | (simp -dsimp only [↓wkA, ↓wkE, ↓wkJ, wkB, ↓tt, Nat.reduceBEq, Nat.reduceEqDiff, ↓reduceIte, Nat.reduceLT, Array.toList, Nat.reduceAdd, Nat.reduceMul, Int.reduceToNat, Int.reducePow, UInt8.reduceToNat])
          | (simp -dsimp (disch := first | assumption | omega) only [dec_t, dec_f])
          | (refine andI ?_)
          | (simp (disch := omega) only [wkW, Int.reduceToNat, Int.reducePow])
          | fail
        exact Meet.mk ((13, .int .u64 rest) :: ifO b k ℓ 0 rev.length) (ihO t' rev) (Sub.norm ⟨rfl, rfl, rfl, rfl, rfl, rfl, rfl, trivial⟩ ⟨rfl, rfl, trivial⟩ (Nat.le_refl _) rfl rfl rfl rfl) ⟨0, by omega, hvi, by simp, rfl, rfl⟩
      | succ j =>
        have e1 : (((j + 1 : Nat)) : Int) - 1 = (j : Int) := by omega
        have e2 : ((j : Int) - 0).toNat = j := by omega
        repeat' first
          | (simp (disch := omega) only [e1, e2, Int.toNat_natCast, wkW, Int.reduceToNat, Int.reducePow])
          | (with_reducible first | refine PW.seq ?_ | refine PW.block ?_ | refine PW.fork ?_ | refine PW.skip ?_ | refine PW.exit ?_ | refine PW.ret ?_ | refine PW.scope ?_ | refine PW.label ?_ | refine PW.goto ?_)
          | (with_reducible refine PW.region ttOk ?_ ?_
             · rfl)
          | (with_reducible refine PW.regionD ttOk mixed ?_ ?_ ?_
             · rfl
             · rfl)
          | (with_reducible refine ifW_dec (fun g => ?_) (fun g => ?_) <;> first | (exfalso; omega) | (simp -dsimp only [g, wkI]))
          | (with_reducible refine condE_dec (fun g => ?_) (fun g => ?_) <;> try (exfalso; omega))
          | (with_reducible refine condE_not (fun g => ?_) (fun g => ?_) <;> try (exfalso; omega))
          | (simp -dsimp only [↓wkA, ↓wkE, ↓wkJ, wkB, ↓tt, Nat.reduceBEq, Nat.reduceEqDiff, ↓reduceIte, Nat.reduceLT, Array.toList, Nat.reduceAdd, Nat.reduceMul, Int.reduceToNat, Int.reducePow, UInt8.reduceToNat])
          | (simp -dsimp (disch := first | assumption | omega) only [dec_t, dec_f])
          | (refine andI ?_)
          | (simp (disch := omega) only [wkW, Int.reduceToNat, Int.reducePow])
          | fail
        · have hvj : vt t' j = T := by rw [← hvi]; simp only [vt]; rw [show t'.getD j 0 = 0 by assumption]; simp
          exact Again.mk j ((13, .int .u64 rest) :: ifO b k ℓ j rev.length) (ihO t' rev) (by omega) (Sub.norm ⟨rfl, rfl, rfl, rfl, rfl, rfl, rfl, trivial⟩ ⟨rfl, rfl, trivial⟩ (Nat.le_refl _) rfl rfl rfl rfl) ⟨by omega, hvj, rfl, rfl⟩
        · exact Meet.mk ((13, .int .u64 rest) :: ifO b k ℓ (j + 1) rev.length) (ihO t' rev) (Sub.norm ⟨rfl, rfl, rfl, rfl, rfl, rfl, rfl, trivial⟩ ⟨rfl, rfl, trivial⟩ (Nat.le_refl _) rfl rfl rfl rfl) ⟨j + 1, by omega, hvi, fun _ => by assumption, rfl, rfl⟩
    rintro F H ⟨n', hn', hvn', htop', rfl, rfl⟩
    -- the digits of this chunk
    obtain ⟨τ, rfl⟩ := Int.eq_ofNat_of_zero_le hT0
    obtain ⟨ρ, rfl⟩ := Int.eq_ofNat_of_zero_le hr0
    have hτ : n' ≠ 0 → τ ≠ 0 := by
      intro h0' hτ0
      obtain ⟨n2, rfl⟩ : ∃ n2, n' = n2 + 1 := ⟨n' - 1, by omega⟩
      have h1 := htop' h0'
      have h2 := getD_limb htL' n2
      rw [show n2 + 1 - 1 = n2 by omega] at h1
      have h3 := vt_bound htL' n2
      have h4 : 0 < B64 ^ n2 * t'.getD n2 0 := Int.mul_pos (pow_pos64 n2) (by omega)
      simp only [vt] at hvn'
      omega
    have hVe : (vt t n).toNat = ρ + b ^ k * τ := by
      have : vt t n = ((ρ + b ^ k * τ : Nat) : Int) := by rw [← hdm]; simp
      rw [this, Int.toNat_natCast]
    have hlt : τ < (vt t n).toNat := by
      rw [hVe]
      have : 2 * τ ≤ b ^ k * τ := Nat.mul_le_mul_right _ hp2
      have : 0 < ρ + b ^ k * τ := by omega
      rcases Nat.eq_zero_or_pos τ with h | h
      · subst h; omega
      · omega
    rw [hVe] at hrev
    have hb64 : IntKind.wrap .u64 (b : Int) = (b : Int) := wrap_u64 (by omega)
    repeat' first
      | (with_reducible first | refine PW.seq ?_ | refine PW.block ?_ | refine PW.fork ?_ | refine PW.skip ?_ | refine PW.exit ?_ | refine PW.ret ?_ | refine PW.scope ?_ | refine PW.label ?_ | refine PW.goto ?_)
      | (with_reducible refine PW.region ttOk ?_ ?_
         · rfl)
      | (with_reducible refine PW.regionD ttOk mixed ?_ ?_ ?_
         · rfl
         · rfl)
      | (with_reducible refine ifW_dec (fun g => ?_) (fun g => ?_) <;> first | (exfalso; omega) | (simp -dsimp only [g, wkI]))
      | (with_reducible refine condE_dec (fun g => ?_) (fun g => ?_) <;> try (exfalso; omega))
      | (with_reducible refine condE_not (fun g => ?_) (fun g => ?_) <;> try (exfalso; omega))
      | (simp -dsimp only [↓wkA, ↓wkE, ↓wkJ, wkB, ↓tt, Nat.reduceBEq, Nat.reduceEqDiff, ↓reduceIte, Nat.reduceLT, Array.toList, Nat.reduceAdd, Nat.reduceMul, Int.reduceToNat, Int.reducePow, UInt8.reduceToNat])
      | (simp -dsimp (disch := first | assumption | omega) only [dec_t, dec_f])
      | (refine andI ?_)
      | (simp (disch := omega) only [wkW, Int.reduceToNat, Int.reducePow])
      | fail
    · refine PW.loopA (IDig b k ℓ R t' n' τ) k ((15, .int .i64 ((0 : Nat) : Int)) :: (13, .int .u64 ((ρ : Nat) : Int)) :: ifO b k ℓ n' rev.length) (ihO t' rev) (Sub.norm ⟨rfl, rfl, rfl, rfl, rfl, rfl, rfl, rfl, trivial⟩ ⟨rfl, rfl, trivial⟩ (Nat.le_refl _) rfl rfl rfl rfl) ⟨0, ρ, rev, by omega, by omega, hrev, rfl, rfl⟩ ?_
      rintro i F H ⟨j, r, rv, hji, hri, hrv, rfl, rfl⟩
      have hrvl : rv.length ≤ 262144 := by
        have := congrArg List.length hrv
        rw [List.length_append] at this
        omega
      cases i with
      | zero =>
        have hr00 : r = 0 := by simpa using hri
        subst hr00
        repeat' first
          | (with_reducible first | refine PW.seq ?_ | refine PW.block ?_ | refine PW.fork ?_ | refine PW.skip ?_ | refine PW.exit ?_ | refine PW.ret ?_ | refine PW.scope ?_ | refine PW.label ?_ | refine PW.goto ?_)
          | (with_reducible refine PW.region ttOk ?_ ?_
             · rfl)
          | (with_reducible refine PW.regionD ttOk mixed ?_ ?_ ?_
             · rfl
             · rfl)
          | (with_reducible refine ifW_dec (fun g => ?_) (fun g => ?_) <;> first | (exfalso; omega) | (simp -dsimp only [g, wkI]))
          | (with_reducible refine condE_dec (fun g => ?_) (fun g => ?_) <;> try (exfalso; omega))
          | (with_reducible refine condE_not (fun g => ?_) (fun g => ?_) <;> try (exfalso; omega))
          | (simp -dsimp only [↓wkA, ↓wkE, ↓wkJ, wkB, ↓tt, Nat.reduceBEq, Nat.reduceEqDiff, ↓reduceIte, Nat.reduceLT, Array.toList, Nat.reduceAdd, Nat.reduceMul, Int.reduceToNat, Int.reducePow, UInt8.reduceToNat])
          | (simp -dsimp (disch := first | assumption | omega) only [dec_t, dec_f])
          | (refine andI ?_)
          | (simp (disch := omega) only [wkW, Int.reduceToNat, Int.reducePow])
          | fail
        exact Again.mk τ (ifO b k ℓ n' rv.length) (ihO t' rv) (by omega) (Sub.norm ⟨rfl, rfl, rfl, rfl, rfl, rfl, trivial⟩ ⟨rfl, rfl, trivial⟩ (Nat.le_refl _) rfl rfl rfl rfl) ⟨n', t', rv, ht', by omega, htL', htop', by rw [hvn']; simpa using hrv, by rw [hvn']; rfl, rfl, rfl⟩
      | succ i =>
        have hmod : ((r : Nat) : Int).tmod (b : Int) = ((r % b : Nat) : Int) := by
          rw [tmod_pos (by omega)]; exact (Int.natCast_emod r b).symm
        have hdiv : ((r : Nat) : Int).tdiv (b : Int) = ((r / b : Nat) : Int) := by
          rw [tdiv_pos (by omega)]; exact (Int.natCast_ediv r b).symm
        have hmb : r % b < 36 := Nat.lt_of_lt_of_le (Nat.mod_lt _ (by omega)) hb.2
        have hdl : r / b ≤ r := Nat.div_le_self r b
        have hr64 : r < 18446744073709551616 := by
          refine Nat.lt_trans (Nat.lt_of_lt_of_le hri ?_) hk3
          exact Nat.pow_le_pow_right (by omega) (by omega)
        have hw0 : ∀ q : Nat, q ≤ r → IntKind.wrap .u64 (q : Int) = (q : Int) := fun q hq => wrap_u64 (by omega)
        have hw := hw0 (r / b) hdl
        by_cases hbr : r = 0 ∧ n' = 0
        · obtain ⟨rfl, rfl⟩ := hbr
          have hτ0 : τ = 0 := by
            have : ((τ : Nat) : Int) = 0 := hvn'.symm.trans rfl
            omega
          subst hτ0
          repeat' first
            | (simp only [hb64, hmod, hdiv, hw])
            | (with_reducible first | refine PW.seq ?_ | refine PW.block ?_ | refine PW.fork ?_ | refine PW.skip ?_ | refine PW.exit ?_ | refine PW.ret ?_ | refine PW.scope ?_ | refine PW.label ?_ | refine PW.goto ?_)
            | (with_reducible refine PW.region ttOk ?_ ?_
               · rfl)
            | (with_reducible refine PW.regionD ttOk mixed ?_ ?_ ?_
               · rfl
               · rfl)
            | (with_reducible refine ifW_dec (fun g => ?_) (fun g => ?_) <;> first | (exfalso; omega) | (simp -dsimp only [g, wkI]))
            | (with_reducible refine condE_dec (fun g => ?_) (fun g => ?_) <;> try (exfalso; omega))
            | (with_reducible refine condE_not (fun g => ?_) (fun g => ?_) <;> try (exfalso; omega))
            | (simp -dsimp only [↓wkA, ↓wkE, ↓wkJ, wkB, ↓tt, Nat.reduceBEq, Nat.reduceEqDiff, ↓reduceIte, Nat.reduceLT, Array.toList, Nat.reduceAdd, Nat.reduceMul, Int.reduceToNat, Int.reducePow, UInt8.reduceToNat])
            | (simp -dsimp (disch := first | assumption | omega) only [dec_t, dec_f])
            | (refine andI ?_)
            | (simp (disch := omega) only [wkW, Int.reduceToNat, Int.reducePow])
            | fail
          exact Again.mk 0 (ifO b k ℓ 0 rv.length) (ihO t' rv) (by omega) (Sub.norm ⟨rfl, rfl, rfl, rfl, rfl, rfl, trivial⟩ ⟨rfl, rfl, trivial⟩ (Nat.le_refl _) rfl rfl rfl rfl) ⟨0, t', rv, ht', by omega, htL', htop', by rw [hvn']; simpa using hrv, by rw [hvn']; rfl, rfl, rfl⟩
        · have hne : r ≠ 0 ∨ τ ≠ 0 := by
            rcases Nat.eq_zero_or_pos r with h | h
            · right; exact hτ (fun h' => hbr ⟨h, h'⟩)
            · left; omega
          rw [digs_part hb.1 hne, List.map_cons] at hrv
          have hnext : (rv ++ [ℓ.getD (r % b) 0]) ++ (digs b (r / b + b ^ i * τ)).map (fun d => ℓ.getD d 0) = R := by rw [← hrv]; simp
          have hri' : r / b < b ^ i := by
            rw [Nat.pow_succ, Nat.mul_comm] at hri
            exact Nat.div_lt_of_lt_mul hri
          repeat' first
            | (simp only [hb64, hmod, hdiv, hw, Int.toNat_natCast])
            | (with_reducible first | refine PW.seq ?_ | refine PW.block ?_ | refine PW.fork ?_ | refine PW.skip ?_ | refine PW.exit ?_ | refine PW.ret ?_ | refine PW.scope ?_ | refine PW.label ?_ | refine PW.goto ?_)
            | (with_reducible refine PW.region ttOk ?_ ?_
               · rfl)
            | (with_reducible refine PW.regionD ttOk mixed ?_ ?_ ?_
               · rfl
               · rfl)
            | (with_reducible refine ifW_dec (fun g => ?_) (fun g => ?_) <;> first | (exfalso; omega) | (simp -dsimp only [g, wkI]))
            | (with_reducible refine condE_dec (fun g => ?_) (fun g => ?_) <;> try (exfalso; omega))
            | (with_reducible refine condE_not (fun g => ?_) (fun g => ?_) <;> try (exfalso; omega))
            | (simp -dsimp only [↓wkA, ↓wkE, ↓wkJ, wkB, ↓tt, Nat.reduceBEq, Nat.reduceEqDiff, ↓reduceIte, Nat.reduceLT, Array.toList, Nat.reduceAdd, Nat.reduceMul, Int.reduceToNat, Int.reducePow, UInt8.reduceToNat])
            | (simp -dsimp (disch := first | assumption | omega) only [dec_t, dec_f])
            | (refine andI ?_)
            | (simp (disch := omega) only [wkW, Int.reduceToNat, Int.reducePow])
            | fail
          · obtain rfl : r = 0 := by omega
            simp only [Int.zero_ediv, Int.zero_emod, Int.toNat_zero, show IntKind.wrap .u64 0 = 0 from rfl]
            simp only [Nat.zero_mod, Nat.zero_div] at hnext hri'
            refine Again.mk i ((15, .int .i64 ((j + 1 : Nat) : Int)) :: (13, .int .u64 ((0 : Nat) : Int)) :: ifO b k ℓ n' (rv ++ [ℓ.getD 0 0]).length) (ihO t' (rv ++ [ℓ.getD 0 0])) (by omega) (Sub.norm ⟨rfl, rfl, rfl, rfl, rfl, rfl, rfl, ?_, trivial⟩ ⟨rfl, rfl, trivial⟩ (by simp) rfl rfl rfl rfl) ⟨j + 1, 0, rv ++ [ℓ.getD 0 0], by omega, hri', hnext, rfl, rfl⟩
            simp -dsimp only [↓wkA, ↓wkE, ↓wkJ, wkB, ↓tt, Nat.reduceBEq, Nat.reduceEqDiff, ↓reduceIte, Nat.reduceLT, Array.toList, Nat.reduceAdd, Nat.reduceMul, Int.reduceToNat, Int.reducePow, UInt8.reduceToNat]
          · refine Again.mk i ((15, .int .i64 ((j + 1 : Nat) : Int)) :: (13, .int .u64 ((r / b : Nat) : Int)) :: ifO b k ℓ n' (rv ++ [ℓ.getD (r % b) 0]).length) (ihO t' (rv ++ [ℓ.getD (r % b) 0])) (by omega) (Sub.norm ⟨rfl, rfl, rfl, rfl, rfl, rfl, rfl, ?_, trivial⟩ ⟨rfl, rfl, trivial⟩ (by simp) rfl rfl rfl rfl) ⟨j + 1, r / b, rv ++ [ℓ.getD (r % b) 0], by omega, hri', hnext, rfl, rfl⟩
            simp -dsimp only [↓wkA, ↓wkE, ↓wkJ, wkB, ↓tt, Nat.reduceBEq, Nat.reduceEqDiff, ↓reduceIte, Nat.reduceLT, Array.toList, Nat.reduceAdd, Nat.reduceMul, Int.reduceToNat, Int.reducePow, UInt8.reduceToNat]
  · rintro F H ⟨rfl, rfl⟩
    have hR0 : R ≠ [] := by
      intro h
      rw [h] at hR
      have h3 : (val a).toNat ≠ 0 := by
        obtain ⟨n, hn⟩ : ∃ n, size a = n + 1 := ⟨size a - 1, by omega⟩
        have h4 := sizeN_top a a.length h2
        have h5 : a.getD n 0 ≠ 0 := by
          have : size a - 1 = n := by omega
          rw [← this]; exact h4
        have h6 := getD_limb ha n
        have h7 := vt_bound ha n
        have h8 : 0 < B64 ^ n * a.getD n 0 := Int.mul_pos (pow_pos64 n) (by omega)
        have h9 := vt_size a
        rw [hn] at h9
        simp only [vt] at h9
        omega
      rw [digs_step hb.1 h3] at hR
      cases hR
    refine walk1 ?_
    refine PW.meetB (fun F H => ∃ p, F = [(16, .ptr 2 0 0)] ∧ H = ⟨4, [(2, .var [p, .sl 3 0 R.reverse.length true]), (3, .ints .u8 R.reverse)], [], [(3, 5), (2, 72)]⟩) ?_ ?_
    · refine PW.loopA (IBuild R) R.length [(17, .int .i64 ((R.length : Int) - 1)), (16, .ptr 2 0 0), (12, .sl 1 0 R.length true)] (ihB R .nilptr []) (Sub.trans (Sub.nilField 2 [.nilptr, .nil] 1 5 .u8 rfl rfl (by decide) (by show 2 < 3; omega)) (Sub.norm ⟨?_, rfl, rfl, trivial⟩ ⟨rfl, rfl, rfl, trivial⟩ (Nat.le_refl _) rfl rfl rfl rfl (tyOk_spec rfl))) ⟨.nilptr, Nat.le_refl _, .inl rfl, rfl, by rw [List.drop_length]; rfl⟩ ?_
      · simp (disch := omega) only [↓wkA, ↓wkE, ↓wkJ, wkB, ↓tt, Nat.reduceBEq, Nat.reduceEqDiff, ↓reduceIte, Nat.reduceLT, Array.toList, Nat.reduceAdd, Nat.reduceMul, Int.reduceToNat, Int.reducePow, UInt8.reduceToNat, wkW, Int.reduceToNat, Int.reducePow]
      rintro i F H ⟨p, hin, hp, rfl, rfl⟩
      cases i with
      | zero =>
        simp only [List.drop_zero]
        refine walk1 ?_
        refine Meet.mk [(16, .ptr 2 0 0)] ⟨4, [(2, .var [p, .sl 3 0 R.reverse.length true]), (3, .ints .u8 R.reverse)], [], [(3, 5), (2, 72)]⟩ (Sub.norm ⟨rfl, trivial⟩ ⟨rfl, rfl, trivial⟩ (Nat.le_refl _) rfl rfl rfl ?_ (tyOk_spec rfl)) ⟨p, rfl, rfl⟩
        rcases hp with rfl | rfl <;> rfl
      | succ i =>
        have e : (((i + 1 : Nat)) : Int) - 1 = (i : Int) := by omega
        rw [e]
        simp only [ihB]
        have hlen : (R.drop (i + 1)).reverse.length ≤ 100000000000000 := by simp; omega
        have hnext : (R.drop (i + 1)).reverse ++ [R.getD i 0] = (R.drop i).reverse := by
          rw [List.drop_eq_getElem_cons (show i < R.length by omega), List.reverse_cons, List.getD_eq_getElem?_getD, List.getElem?_eq_getElem (by omega)]; rfl
        have hll : (R.drop (i + 1)).reverse.length + 1 = (R.drop i).reverse.length := by rw [← hnext]; simp
        repeat' first
          | (with_reducible first | refine PW.seq ?_ | refine PW.block ?_ | refine PW.fork ?_ | refine PW.skip ?_ | refine PW.exit ?_ | refine PW.ret ?_ | refine PW.scope ?_ | refine PW.label ?_ | refine PW.goto ?_)
          | (with_reducible refine PW.region ttOk ?_ ?_
             · rfl)
          | (with_reducible refine PW.regionD ttOk mixed ?_ ?_ ?_
             · rfl
             · rfl)
          | (with_reducible refine ifW_dec (fun g => ?_) (fun g => ?_) <;> first | (exfalso; omega) | (simp -dsimp only [g, wkI]))
          | (with_reducible refine condE_dec (fun g => ?_) (fun g => ?_) <;> try (exfalso; omega))
          | (with_reducible refine condE_not (fun g => ?_) (fun g => ?_) <;> try (exfalso; omega))
          | (simp -dsimp only [↓wkA, ↓wkE, ↓wkJ, wkB, ↓tt, Nat.reduceBEq, Nat.reduceEqDiff, ↓reduceIte, Nat.reduceLT, Array.toList, Nat.reduceAdd, Nat.reduceMul, Int.reduceToNat, Int.reducePow, UInt8.reduceToNat])
          | (refine call_h (builder_WriteByte _ (r := 2) (r2 := 3) (by decide) (Nat.lt_of_lt_of_le (by decide : 2 < 4) (Nat.le_refl _)) (Nat.lt_of_lt_of_le (by decide : 3 < 4) (Nat.le_refl _)) rfl rfl hp rfl rfl hlen) (fun res H' hR' => ?_); obtain ⟨rfl, rfl⟩ := hR'; refine ⟨_, _, rfl, ?_⟩)
          | (simp -dsimp only [hnext, hll])
          | (simp -dsimp (disch := first | assumption | omega) only [dec_t, dec_f])
          | (refine andI ?_)
          | (simp (disch := omega) only [wkW, Int.reduceToNat, Int.reducePow])
          | fail
        exact Again.mk i [(17, .int .i64 ((i : Int) - 1)), (16, .ptr 2 0 0), (12, .sl 1 0 R.length true)] (ihB R (.ptr 2 0 0) (R.drop i).reverse) (by omega) (Sub.norm ⟨rfl, rfl, rfl, trivial⟩ ⟨rfl, rfl, rfl, trivial⟩ (by show 4 ≤ 5; omega) rfl rfl rfl rfl (tyOk_spec rfl)) ⟨_, by omega, .inr rfl, rfl, rfl⟩
    rintro F H ⟨p, rfl, rfl⟩
    repeat' first
      | (with_reducible first | refine PW.seq ?_ | refine PW.block ?_ | refine PW.fork ?_ | refine PW.skip ?_ | refine PW.exit ?_ | refine PW.ret ?_ | refine PW.scope ?_ | refine PW.label ?_ | refine PW.goto ?_)
      | (with_reducible refine PW.region ttOk ?_ ?_
         · rfl)
      | (with_reducible refine PW.regionD ttOk mixed ?_ ?_ ?_
         · rfl
         · rfl)
      | (with_reducible refine ifW_dec (fun g => ?_) (fun g => ?_) <;> first | (exfalso; omega) | (simp -dsimp only [g, wkI]))
      | (with_reducible refine condE_dec (fun g => ?_) (fun g => ?_) <;> try (exfalso; omega))
      | (with_reducible refine condE_not (fun g => ?_) (fun g => ?_) <;> try (exfalso; omega))
      | (simp -dsimp only [↓wkA, ↓wkE, ↓wkJ, wkB, ↓tt, Nat.reduceBEq, Nat.reduceEqDiff, ↓reduceIte, Nat.reduceLT, Array.toList, Nat.reduceAdd, Nat.reduceMul, Int.reduceToNat, Int.reducePow, UInt8.reduceToNat])
      | (refine call_h (builder_String (H := ⟨_, _, _, _⟩) (r := 2) (r2 := 3) (by decide) rfl rfl rfl rfl (by simpa using hR0) (fun x hx => hRb x (List.mem_reverse.1 hx)) (by simp; omega)) (fun res H' hR' => ?_); obtain ⟨rfl, rfl⟩ := hR'; refine ⟨_, _, rfl, ?_⟩)
      | (simp -dsimp (disch := first | assumption | omega) only [dec_t, dec_f])
      | (refine andI ?_)
      | (simp (disch := omega) only [wkW, Int.reduceToNat, Int.reducePow])
      | fail
    rw [text, hℓ, hR]
theorem in_base (a : List Int) (ha : Limbs a) (hla : a.length ≤ 17592186043904) (base : Int) (hb : -9223372036854775808 ≤ base ∧ base ≤ 9223372036854775807) (u : Bool) :
    Meets Tryz.prog 101 [.ints .u64 a, .int .i64 base, .bool u] (inBaseR a base u) := by
  by_cases h : 4096 < size a ∨ (base < 2 ∨ 36 < base) ∨ size a = 0
  · exact in_base_err a hla base hb u h
  · have h' := in_base_main a ha hla base.toNat (by omega) u (by omega) (by omega)
    rw [show ((base.toNat : Nat) : Int) = base by omega] at h'
    unfold inBaseR
    rw [if_neg (by omega), if_neg (by omega), if_neg (by omega)]
    exact h'
theorem list_ext {a b : List Int} (hl : a.length = b.length) (h : ∀ j, j < a.length → a.getD j 0 = b.getD j 0) : a = b := by
  refine List.ext_getElem hl fun i h1 h2 => ?_
  have := h i h1
  simpa [List.getD_eq_getElem?_getD, List.getElem?_eq_getElem h1, List.getElem?_eq_getElem h2] using this
theorem val_one (x : Int) : val [x] = x := by simp [val, vt]
def letter (u : Bool) (d : Nat) : Int := (lettersOf u).getD d 0
theorem letter_all : ∀ u : Bool, ∀ d : Fin 36, worth (letter u d.val) = (d.val : Int) ∧ (letter u d.val = 48 → d.val = 0) ∧ 0 ≤ letter u d.val ∧ letter u d.val < 256 ∧ (u = true → ¬ (97 ≤ letter u d.val ∧ letter u d.val ≤ 122)) ∧ (u = false → ¬ (65 ≤ letter u d.val ∧ letter u d.val ≤ 90)) := by decide
theorem text_nil (b : Nat) (u : Bool) : text b u 0 = [] := by simp [text, digs_zero]
theorem text_step {b : Nat} (hb : 2 ≤ b) (u : Bool) {v : Nat} (hv : v ≠ 0) : text b u v = text b u (v / b) ++ [letter u (v % b)] := by
  unfold text letter
  rw [digs_step hb hv, List.map_cons, List.reverse_cons]
theorem numN_append (b : Nat) (l : List Int) (x : Int) : ∀ i, i ≤ l.length → numN b (l ++ [x]) i = numN b l i
  | 0, _ => rfl
  | i + 1, h => by
    simp only [numN]
    rw [numN_append b l x i (by omega)]
    rw [show (l ++ [x]).getD i 0 = l.getD i 0 by simp [List.getD_eq_getElem?_getD, List.getElem?_append_left (show i < l.length by omega)]]
theorem num_append (b : Nat) (l : List Int) (x : Int) : num b (l ++ [x]) = num b l * b + (worth x).toNat := by
  unfold num
  rw [List.length_append, List.length_singleton]
  simp only [numN]
  rw [numN_append b l x _ (Nat.le_refl _)]
  rw [show (l ++ [x]).getD l.length 0 = x by simp [List.getD_eq_getElem?_getD]]
theorem num_text {b : Nat} (hb : 2 ≤ b ∧ b ≤ 36) (u : Bool) : ∀ v, num b (text b u v) = v := by
  intro v
  induction v using Nat.strongRecOn with
  | _ v ih =>
    by_cases h0 : v = 0
    · subst h0; rw [text_nil]; rfl
    · have hm := Nat.mod_lt v (show b > 0 by omega)
      have hl := (letter_all u ⟨v % b, by omega⟩).1
      simp only at hl
      rw [text_step hb.1 u h0, num_append, ih _ (Nat.div_lt_self (by omega) (by omega)), hl, Int.toNat_natCast]
      exact Nat.div_add_mod' v b
theorem text_ne {b : Nat} (hb : 2 ≤ b) (u : Bool) {v : Nat} (hv : v ≠ 0) : text b u v ≠ [] := by
  rw [text_step hb u hv]; simp
theorem text_head {b : Nat} (hb : 2 ≤ b ∧ b ≤ 36) (u : Bool) : ∀ v, v ≠ 0 → (text b u v).getD 0 0 ≠ 48 := by
  intro v
  induction v using Nat.strongRecOn with
  | _ v ih =>
    intro h0
    have hm := Nat.mod_lt v (show b > 0 by omega)
    rw [text_step hb.1 u h0]
    by_cases h1 : v / b = 0
    · rw [h1, text_nil]
      have hl := (letter_all u ⟨v % b, by omega⟩).2.1
      simp only at hl
      intro h
      have h2 := hl (by simpa using h)
      have := Nat.div_add_mod v b
      rw [h1, h2] at this
      simp at this; omega
    · have h2 := ih _ (Nat.div_lt_self (by omega) (by omega)) h1
      have h3 := text_ne hb.1 u h1
      cases hc : text b u (v / b) with
      | nil => exact absurd hc h3
      | cons x l => rw [hc] at h2; simpa using h2
theorem text_all {b : Nat} (hb : 2 ≤ b ∧ b ≤ 36) (u : Bool) (v : Nat) : ∀ x ∈ text b u v, ∃ d : Nat, d < b ∧ x = letter u d := by
  intro x hx
  unfold text at hx
  rw [List.mem_reverse] at hx
  obtain ⟨d, hd, rfl⟩ := List.mem_map.1 hx
  exact ⟨d, digs_lt hb.1 _ d hd, rfl⟩
def written (b : Nat) (u : Bool) (v : Nat) : List Int := if v = 0 then [48] else text b u v
theorem letter_zero (u : Bool) : letter u 0 = 48 := by cases u <;> rfl
theorem written_all {b : Nat} (hb : 2 ≤ b ∧ b ≤ 36) (u : Bool) (v : Nat) : ∀ x ∈ written b u v, ∃ d : Nat, d < b ∧ x = letter u d := by
  intro x hx
  unfold written at hx
  split at hx
  · rw [List.mem_singleton] at hx
    exact ⟨0, by omega, by rw [letter_zero]; exact hx⟩
  · exact text_all hb u v x hx
theorem written_ne {b : Nat} (hb : 2 ≤ b ∧ b ≤ 36) (u : Bool) (v : Nat) : written b u v ≠ [] := by
  unfold written
  split
  · simp
  · exact text_ne hb.1 u (by assumption)
theorem val_nonneg {a : List Int} (ha : Limbs a) : 0 ≤ val a := (vt_bound ha a.length).1
theorem size_zero {a : List Int} (ha : Limbs a) : size a = 0 ↔ val a = 0 := by
  constructor
  · intro h
    have := vt_size a
    rw [h] at this
    exact this.symm
  · intro h
    have h1 := trim_eq ha
    rw [h] at h1
    have h2 := trim_len a
    rw [h1] at h2
    rw [← h2]
    simp [natL, digs_zero]
theorem val_small {a : List Int} (ha : Limbs a) (h : size a ≤ 4096) : val a < B64 ^ 4096 := by
  have h1 := vt_bound ha (size a)
  rw [vt_size] at h1
  have := pow_mono64 h
  omega
set_option exponentiation.threshold 300000 in
theorem pow4096 : B64 ^ 4096 = ((2 ^ 262144 : Nat) : Int) := by
  rw [show (262144 : Nat) = 64 * 4096 from rfl, Nat.pow_mul, Int.natCast_pow]; rfl
theorem written_bytes {b : Nat} (hb : 2 ≤ b ∧ b ≤ 36) (u : Bool) (v : Nat) : Bytes' (written b u v) := by
  intro x hx
  obtain ⟨d, hd, rfl⟩ := written_all hb u v x hx
  have := letter_all u ⟨d, by omega⟩
  exact ⟨this.2.2.1, this.2.2.2.1⟩
def lower (c : Int) : Int := if 65 ≤ c ∧ c ≤ 90 then c - 65 + 97 else c
def pl (s : List Int) : Nat → List Int
  | 0 => []
  | i + 1 => if lower (s.getD i 0) ≠ 48 ∨ pl s i ≠ [] ∨ i + 1 = s.length then pl s i ++ [lower (s.getD i 0)] else pl s i
theorem text_lt {b : Nat} (hb : 2 ≤ b) (u : Bool) : ∀ v, v < b ^ (text b u v).length := by
  intro v
  induction v using Nat.strongRecOn with
  | _ v ih =>
    by_cases h0 : v = 0
    · subst h0; exact Nat.pow_pos (by omega)
    · rw [text_step hb u h0, List.length_append, List.length_singleton, Nat.pow_succ]
      have h1 := ih _ (Nat.div_lt_self (by omega) (show 1 < b by omega))
      have h2 := Nat.div_add_mod' v b
      have h3 := Nat.mod_lt v (show b > 0 by omega)
      have h4 : (v / b + 1) * b ≤ b ^ (text b u (v / b)).length * b := Nat.mul_le_mul_right _ h1
      rw [Nat.add_mul, Nat.one_mul] at h4
      omega
-- limbs of a number
theorem natL_limbs : ∀ v, Limbs (natL v) := by
  intro v x hx
  unfold natL at hx
  obtain ⟨d, hd, rfl⟩ := List.mem_map.1 hx
  have := digs_lt (b := 18446744073709551616) (by decide) v d hd
  omega
theorem val_natL : ∀ v : Nat, val (natL v) = (v : Int) := by
  intro v
  induction v using Nat.strongRecOn with
  | _ v ih =>
    by_cases h0 : v = 0
    · subst h0; simp [natL, digs_zero, val, vt]
    · have e : natL v = ((v % 18446744073709551616 : Nat) : Int) :: natL (v / 18446744073709551616) := by
        unfold natL
        rw [digs_step (b := 18446744073709551616) (by decide) h0, List.map_cons]
      rw [e, val_cons, ih _ (Nat.div_lt_self (by omega) (by decide))]
      simp only [B64]
      omega
theorem natL_size {v : Nat} (h : ((v : Nat) : Int) < B64 ^ 4096) : size (natL v) ≤ 4096 := by
  have h1 := nrm_bound (nrm_trim (natL_limbs v)) (k := 4096) (by rw [val_trim, val_natL]; exact h)
  rwa [trim_len] at h1
theorem trim_limbsOf {n v : Nat} (h : v < 18446744073709551616 ^ n) : trim (limbsOf n v) = natL v := by
  rw [trim_eq (limbsOf_limbs n v), limbsOf_val h, Int.toNat_natCast]
theorem trim_natL (v : Nat) : trim (natL v) = natL v := by rw [trim_eq (natL_limbs v), val_natL, Int.toNat_natCast]
theorem size_natL (v : Nat) : size (natL v) = (natL v).length := by
  have := trim_len (natL v)
  rw [trim_natL] at this
  exact this.symm
theorem natL_nrm (v : Nat) : Nrm (natL v) := by
  have := nrm_trim (natL_limbs v)
  rwa [trim_natL] at this
theorem natL_lt (v : Nat) : v < 18446744073709551616 ^ (natL v).length := by
  have h := vt_bound (natL_limbs v) (natL v).length
  have h2 : vt (natL v) (natL v).length = (v : Int) := val_natL v
  rw [h2] at h
  have e : B64 ^ (natL v).length = ((18446744073709551616 ^ (natL v).length : Nat) : Int) := by rw [Int.natCast_pow]; rfl
  rw [e] at h
  omega
theorem natL_ge {v : Nat} (h : v ≠ 0) : 0 < (natL v).length ∧ 18446744073709551616 ^ ((natL v).length - 1) ≤ v := by
  have hpos : 0 < (natL v).length := by
    unfold natL
    rw [digs_step (b := 18446744073709551616) (by decide) h]; simp
  have := natL_nrm v (by omega)
  rw [val_natL] at this
  have e : B64 ^ ((natL v).length - 1) = ((18446744073709551616 ^ ((natL v).length - 1) : Nat) : Int) := by rw [Int.natCast_pow]; rfl
  rw [e] at this
  exact ⟨hpos, by omega⟩
abbrev NMax : Nat := 18446744073709551616 ^ 4096
set_option exponentiation.threshold 300000 in
theorem nmax_int : B64 ^ 4096 = ((NMax : Nat) : Int) := by rw [Int.natCast_pow]; rfl
theorem natL_small {v : Nat} (h : v < NMax) : (natL v).length ≤ 4096 := by
  have := natL_size (v := v) (by rw [nmax_int]; omega)
  rwa [size_natL] at this
theorem pow64_mono {m n : Nat} (h : m ≤ n) : 18446744073709551616 ^ m ≤ 18446744073709551616 ^ n := Nat.pow_le_pow_right (by decide) h
theorem mul_nat {u v : Nat} (hu : u ≠ 0) (hv : v ≠ 0) (hul : u < NMax) (hvl : v < NMax) (h : u * v < NMax) : Meets Tryz.prog 116 [.ints .u64 (natL u), .ints .u64 (natL v)] (.tup [.ints .u64 (natL (u * v)), .int .i64 0]) := by
  have h1 := natL_small hul
  have h2 := natL_small hvl
  have g1 := natL_ge hu
  have g2 := natL_ge hv
  have hlt : u * v < 18446744073709551616 ^ ((natL u).length + (natL v).length) := by
    rw [Nat.pow_add]
    exact Nat.mul_lt_mul_of_lt_of_le (natL_lt u) (Nat.le_of_lt (natL_lt v)) (Nat.pow_pos (by decide))
  have hsum : (natL u).length + (natL v).length ≤ 4097 := by
    rcases Nat.lt_or_ge 4097 ((natL u).length + (natL v).length) with h3 | h3
    · exfalso
      have h4 : 18446744073709551616 ^ (((natL u).length - 1) + ((natL v).length - 1)) ≤ u * v := by
        rw [Nat.pow_add]; exact Nat.mul_le_mul g1.2 g2.2
      have h5 := pow64_mono (show 4096 ≤ ((natL u).length - 1) + ((natL v).length - 1) by omega)
      unfold NMax at h
      omega
    · exact h3
  have hval : (val (natL u) * val (natL v)).toNat = u * v := by
    rw [val_natL, val_natL]
    have : ((u : Int) * (v : Int)) = ((u * v : Nat) : Int) := by simp
    rw [this, Int.toNat_natCast]
  have hm := nat_mul (natL u) (natL v) (natL_limbs u) (natL_limbs v) (by omega) (by omega) (by rw [size_natL]; exact h1) (by rw [size_natL]; exact h2) (by rw [size_natL]; exact g1.1) (by rw [size_natL]; exact g2.1) (by rw [size_natL, size_natL]; exact hsum) _ rfl
  rw [hval, size_natL, size_natL] at hm
  have htr := trim_limbsOf hlt
  have hsz : size (limbsOf ((natL u).length + (natL v).length) (u * v)) = (natL (u * v)).length := by
    have := trim_len (limbsOf ((natL u).length + (natL v).length) (u * v))
    rw [htr] at this
    exact this.symm
  rw [hsz, if_neg (by have := natL_small h; omega), htr] at hm
  exact hm
theorem mul_long (a0 b0 : List Int) (hla : a0.length ≤ 9223372036854775807) (hlb : b0.length ≤ 9223372036854775807) (hsa : size a0 ≤ 4096) (hsb : size b0 ≤ 4096) (h0a : 0 < size a0) (h0b : 0 < size b0) (hsum : 4097 < size a0 + size b0) : Meets Tryz.prog 116 [.ints .u64 a0, .ints .u64 b0] (.tup [.nil, .int .i64 2]) := by
  refine meets_by ttOk Tryz.func116 Tryz.ntmps116 Tryz.results116 (by kernel_rfl) (c := _) rfl rfl rfl fun E => ?_
  simp only [argsFrame]
  have hsa' := size_le a0
  have hsb' := size_le b0
  have hba : decide (4096 < size a0) = false := by simp; omega
  have hbb : decide (4096 < size b0) = false := by simp; omega
  have hal : (List.take (size a0) a0).length = size a0 := by simp; omega
  have hbl : (List.take (size b0) b0).length = size b0 := by simp; omega
  repeat' first
    | (with_reducible first | refine PW.seq ?_ | refine PW.block ?_ | refine PW.fork ?_ | refine PW.skip ?_ | refine PW.exit ?_ | refine PW.ret ?_ | refine PW.scope ?_ | refine PW.label ?_ | refine PW.goto ?_)
    | (with_reducible refine PW.region ttOk ?_ ?_
       · rfl)
    | (with_reducible refine PW.regionD ttOk mixed ?_ ?_ ?_
       · rfl
       · rfl)
    | (with_reducible refine ifW_dec (fun g => ?_) (fun g => ?_) <;> first | (exfalso; omega) | (simp -dsimp only [g, wkI]))
    | (with_reducible refine condE_dec (fun g => ?_) (fun g => ?_) <;> try (exfalso; omega))
    | (with_reducible refine condE_not (fun g => ?_) (fun g => ?_) <;> try (exfalso; omega))
    | (simp -dsimp only [↓wkA, ↓wkE, ↓wkJ, wkB, ↓tt, Nat.reduceBEq, Nat.reduceEqDiff, ↓reduceIte, Nat.reduceLT, Array.toList, Nat.reduceAdd, Nat.reduceMul, Int.reduceToNat, Int.reducePow, UInt8.reduceToNat])
    | (refine call_by (nat_big _ (by first | assumption | omega)) (views_data rfl) ⟨trivial, trivial⟩ rfl ?_)
    | (refine callD_by (nat_size _ (by first | assumption | omega)) (views_data rfl) ⟨trivial, trivial⟩ rfl ?_)
    | (simp only [hal, hbl])
    | (simp -dsimp only [hba, hbb])
    | (simp -dsimp (disch := first | assumption | omega) only [dec_t, dec_f])
    | (refine andI ?_)
    | (simp (disch := omega) only [wkW, Int.reduceToNat, Int.reducePow])
    | fail
  exfalso
  simp (disch := omega) only [hal, hbl, wkW, Int.reduceToNat, Int.reducePow] at g
  omega
set_option exponentiation.threshold 300000 in
theorem mul_over {u v : Nat} (hu : u ≠ 0) (hv : v ≠ 0) (hul : u < NMax) (hvl : v < NMax) (h : ¬ u * v < NMax) : Meets Tryz.prog 116 [.ints .u64 (natL u), .ints .u64 (natL v)] (.tup [.nil, .int .i64 2]) := by
  have h1 := natL_small hul
  have h2 := natL_small hvl
  have g1 := natL_ge hu
  have g2 := natL_ge hv
  by_cases hsum : 4097 < (natL u).length + (natL v).length
  · exact mul_long _ _ (by omega) (by omega) (by rw [size_natL]; exact h1) (by rw [size_natL]; exact h2) (by rw [size_natL]; exact g1.1) (by rw [size_natL]; exact g2.1) (by rw [size_natL, size_natL]; exact hsum)
  have hlt : u * v < 18446744073709551616 ^ ((natL u).length + (natL v).length) := by
    rw [Nat.pow_add]
    exact Nat.mul_lt_mul_of_lt_of_le (natL_lt u) (Nat.le_of_lt (natL_lt v)) (Nat.pow_pos (by decide))
  have hval : (val (natL u) * val (natL v)).toNat = u * v := by
    rw [val_natL, val_natL]
    have : ((u : Int) * (v : Int)) = ((u * v : Nat) : Int) := by simp
    rw [this, Int.toNat_natCast]
  have hm := nat_mul (natL u) (natL v) (natL_limbs u) (natL_limbs v) (by omega) (by omega) (by rw [size_natL]; exact h1) (by rw [size_natL]; exact h2) (by rw [size_natL]; exact g1.1) (by rw [size_natL]; exact g2.1) (by rw [size_natL, size_natL]; omega) _ rfl
  rw [hval, size_natL, size_natL] at hm
  have htr := trim_limbsOf hlt
  have hsz : size (limbsOf ((natL u).length + (natL v).length) (u * v)) = (natL (u * v)).length := by
    have := trim_len (limbsOf ((natL u).length + (natL v).length) (u * v))
    rw [htr] at this
    exact this.symm
  have hbig : 4096 < (natL (u * v)).length := by
    rcases Nat.lt_or_ge 4096 (natL (u * v)).length with h3 | h3
    · exact h3
    · exfalso
      have h4 := natL_lt (u * v)
      have h5 := pow64_mono h3
      exact h (Nat.lt_of_lt_of_le h4 h5)
  rw [hsz, if_pos hbig] at hm
  exact hm
theorem sub64 {x y c : Int} (hx : 0 ≤ x ∧ x < 18446744073709551616) (hy : 0 ≤ y ∧ y < 18446744073709551616) (hc : 0 ≤ c ∧ c ≤ 1) : Meets Tryz.prog 158 [.int .u64 x, .int .u64 y, .int .u64 c] (.tup [.int .u64 ((x - y - c) % 18446744073709551616), .int .u64 (-((x - y - c) / 18446744073709551616))]) :=
  meets_extern Tryz.func158 (by kernel_rfl) (by kernel_rfl) (by kernel_rfl) (e := sub64Entry) (by kernel_rfl) fun w A vs hl ha => by
    obtain rfl := args3 hl ha
    obtain ⟨x, rfl⟩ := Int.eq_ofNat_of_zero_le hx.1
    obtain ⟨y, rfl⟩ := Int.eq_ofNat_of_zero_le hy.1
    obtain ⟨c, rfl⟩ := Int.eq_ofNat_of_zero_le hc.1
    refine ⟨_, run_sub64 x y c (by omega) w, .tup _ _ rfl fun i hi => ?_⟩
    have e1 : ((((x + 18446744073709551616 - y - c) % 18446744073709551616 : Nat)) : Int) = ((x : Int) - y - c) % 18446744073709551616 := by omega
    have e2 : ((if x < y + c then 1 else 0 : Nat) : Int) = -(((x : Int) - y - c) / 18446744073709551616) := by split <;> omega
    rw [e1, e2]
    match i, hi with
    | 0, _ => exact .int _ _
    | 1, _ => exact .int _ _
structure SubS (a b o : List Int) (i : Nat) (c : Int) : Prop where
  len : o.length = a.length
  lim : Limbs o
  car : 0 ≤ c ∧ c ≤ 1
  eq : vt o i = vt a i - vt b i + B64 ^ i * c
theorem SubS.step {a b o : List Int} {i : Nat} {c s : Int} (h : SubS a b o i c) (ha : Limbs a) (hb : Limbs b) (hi : i < a.length) (hs : s = a.getD i 0 - b.getD i 0 - c) : SubS a b (o.set i (s % 18446744073709551616)) (i + 1) (-(s / 18446744073709551616)) := by
  have hlt : i < o.length := by rw [h.len]; exact hi
  have hx := getD_limb ha i
  have hy := getD_limb hb i
  have hc := h.car
  simp only [B64] at hx hy
  refine ⟨by rw [List.length_set, h.len], limbs_set h.lim _ ⟨Int.emod_nonneg _ (by decide), Int.emod_lt_of_pos _ (by decide)⟩, by omega, ?_⟩
  simp only [vt]
  rw [vt_set_ge _ _ _ _ hlt (Nat.le_refl _), getD_set _ _ _ _ hlt, if_pos rfl, h.eq, Int.pow_succ]
  have hsum : 18446744073709551616 * (s / 18446744073709551616) + s % 18446744073709551616 = s := Int.mul_ediv_add_emod s 18446744073709551616
  rw [hs] at hsum ⊢
  simp only [B64]
  generalize (18446744073709551616 : Int) ^ i = p at *
  generalize (a.getD i 0 - b.getD i 0 - c) / 18446744073709551616 = q at *
  generalize (a.getD i 0 - b.getD i 0 - c) % 18446744073709551616 = r at *
  grind
theorem vt_beyond {b : List Int} : ∀ n, b.length ≤ n → vt b n = val b := fun n h => by
  obtain ⟨d, rfl⟩ := Nat.exists_eq_add_of_le h
  clear h
  induction d with
  | zero => rfl
  | succ d ih =>
    rw [show b.length + (d + 1) = (b.length + d) + 1 by omega]
    simp only [vt]
    rw [ih, List.getD_eq_getElem?_getD, List.getElem?_eq_none (by omega)]
    simp
theorem SubS.fin {a b o : List Int} {c : Int} (h : SubS a b o a.length c) (hlen : b.length ≤ a.length) (hle : val b ≤ val a) : val o = val a - val b := by
  have h1 := h.eq
  rw [vt_beyond _ hlen, vt_beyond _ (Nat.le_refl _), ← h.len, show vt o o.length = val o from rfl] at h1
  have h2 := (vt_bound h.lim o.length).2
  have h3 : val o < B64 ^ o.length := h2
  have hp := pow_pos64 o.length
  have hc := h.car
  rcases (show c = 0 ∨ c = 1 by omega) with rfl | rfl
  · omega
  · omega
theorem size_as {a : List Int} (hla : a.length ≤ 4096) (hsa : size a = a.length) : Meets Tryz.prog 90 [.ints .u64 a] (.int .i64 (a.length : Int)) := by
  have := nat_size a (by omega)
  rwa [hsa] at this
theorem big_as {a : List Int} (hla : a.length ≤ 4096) (hsa : size a = a.length) : Meets Tryz.prog 97 [.ints .u64 a] (.bool false) := by
  have := nat_big a (by omega)
  rwa [hsa, decide_eq_false (by omega)] at this
theorem cut_as {o : List Int} (ho : Limbs o) (hol : o.length ≤ 100000) {v : Nat} (hv : val o = v) (hm : v < NMax) : Meets Tryz.prog 99 [.ints .u64 o] (.tup [.ints .u64 (natL v), .int .i64 0]) := by
  have h := nat_cut o (by omega)
  have ht : trim o = natL v := by rw [trim_eq ho, hv, Int.toNat_natCast]
  have hs : ¬ 4096 < size o := by rw [← trim_len, ht]; have := natL_small hm; omega
  rwa [if_neg hs, ht] at h
theorem getD_zeros (n k : Nat) : (List.replicate n (0 : Int)).getD k 0 = 0 := by
  rw [List.getD_eq_getElem?_getD, List.getElem?_replicate]; split <;> rfl
theorem natL_zero : natL 0 = [] := by unfold natL; rw [digs_zero]; rfl
theorem natL_len0 {v : Nat} : (natL v).length = 0 ↔ v = 0 := by
  constructor
  · intro h
    apply Classical.byContradiction
    intro h0
    have := (natL_ge h0).1
    omega
  · rintro rfl; rw [natL_zero]; rfl
theorem natL_mono {u v : Nat} (h : u ≤ v) : (natL u).length ≤ (natL v).length := by
  apply Classical.byContradiction
  intro h1
  have h2 := size_lt_val (natL_limbs v) (natL_limbs u) (by rw [size_natL, size_natL]; omega)
  rw [val_natL, val_natL] at h2
  omega
theorem mul_zero {a b : List Int} (hla : a.length ≤ 4096) (hlb : b.length ≤ 4096) (hsa : size a = a.length) (hsb : size b = b.length) (h : a.length = 0 ∨ b.length = 0) : Meets Tryz.prog 116 [.ints .u64 a, .ints .u64 b] (.tup [.ints .u64 [], .int .i64 0]) := by
  have s1 := size_as hla hsa
  have s2 := size_as hlb hsb
  have b1 := big_as hla hsa
  have b2 := big_as hlb hsb
  refine Meets.nil_head .u64 ?_
  refine meets_by ttOk Tryz.func116 Tryz.ntmps116 Tryz.results116 (by kernel_rfl) (c := _) rfl rfl rfl fun E => ?_
  simp only [argsFrame]
  exact walk
theorem mul_nat0 {u v : Nat} (hu : u < NMax) (hv : v < NMax) (h : u * v < NMax) : Meets Tryz.prog 116 [.ints .u64 (natL u), .ints .u64 (natL v)] (.tup [.ints .u64 (natL (u * v)), .int .i64 0]) := by
  by_cases h0 : u = 0 ∨ v = 0
  · have e : u * v = 0 := by rcases h0 with rfl | rfl <;> simp
    rw [e, natL_zero]
    exact mul_zero (natL_small hu) (natL_small hv) (size_natL u) (size_natL v) (by rw [natL_len0, natL_len0]; exact h0)
  · exact mul_nat (fun e => h0 (.inl e)) (fun e => h0 (.inr e)) hu hv h
theorem cmp_nat {u v : Nat} (hu : u < NMax) (hv : v < NMax) : Meets Tryz.prog 55 [.ints .u64 (natL u), .ints .u64 (natL v)] (.int .i64 (if u < v then -1 else if v < u then 1 else 0)) := by
  have hcm := nat_cmp (natL u) (natL v) (natL_limbs u) (natL_limbs v) (by have := natL_small hu; omega) (by have := natL_small hv; omega)
  have e : cmpN (natL u) (natL v) = (if u < v then -1 else if v < u then 1 else 0) := by
    unfold cmpN
    rw [val_natL, val_natL]
    simp only [Int.ofNat_lt]
  rwa [e] at hcm
structure ShlS (a o : List Int) (q p i : Nat) : Prop where
  len : o.length = q + a.length + 1
  lim : Limbs o
  top : o.getD (q + i) 0 < 2 ^ p
  eq : vt o (q + i + 1) = 2 ^ p * (B64 ^ q * vt a i)
  rest : ∀ k, q + i < k → o.getD k 0 = 0
theorem shl_parts {x : Int} (p : Nat) (hp : p < 64) (hx : 0 ≤ x ∧ x < B64) : x * 2 ^ p / B64 < 2 ^ p ∧ x * 2 ^ p % B64 % 2 ^ p = 0 ∧ x * 2 ^ p % B64 ≤ B64 - 2 ^ p ∧ 0 ≤ x * 2 ^ p / B64 := by
  obtain ⟨x, rfl⟩ := Int.eq_ofNat_of_zero_le hx.1
  have hB : B64 = ((2 ^ p * 2 ^ (64 - p) : Nat) : Int) := by rw [← Nat.pow_add, show p + (64 - p) = 64 by omega]; rfl
  have h2 : ((2 : Int) ^ p) = ((2 ^ p : Nat) : Int) := by simp
  have hP : 0 < 2 ^ p := Nat.pow_pos (by omega)
  have hR : 0 < 2 ^ (64 - p) := Nat.pow_pos (by omega)
  have hx2 : x < 2 ^ p * 2 ^ (64 - p) := by have := hx.2; rw [hB] at this; exact_mod_cast this
  rw [hB, h2]
  clear hx hB h2
  generalize 2 ^ p = P at *
  generalize 2 ^ (64 - p) = R at *
  have hdiv : x * P / (P * R) = x / R := by rw [Nat.mul_comm x P]; exact Nat.mul_div_mul_left _ _ hP
  have hmod : x * P % (P * R) = P * (x % R) := by rw [Nat.mul_comm x P]; exact Nat.mul_mod_mul_left _ _ _
  have hlt : x % R + 1 ≤ R := Nat.mod_lt _ hR
  have hle : P * (x % R + 1) ≤ P * R := Nat.mul_le_mul_left P hlt
  rw [Nat.mul_add, Nat.mul_one] at hle
  refine ⟨?_, ?_, ?_, ?_⟩
  · have : x * P / (P * R) < P := by rw [hdiv]; exact Nat.div_lt_of_lt_mul (by rw [Nat.mul_comm]; exact hx2)
    exact_mod_cast this
  · have : x * P % (P * R) % P = 0 := by rw [hmod]; exact Nat.mul_mod_right _ _
    exact_mod_cast this
  · have : x * P % (P * R) + P ≤ P * R := by rw [hmod]; exact hle
    have h3 : (((x * P % (P * R) : Nat)) : Int) + (P : Int) ≤ ((P * R : Nat) : Int) := by exact_mod_cast this
    have h4 : (((x * P % (P * R) : Nat)) : Int) = (x : Int) * (P : Int) % ((P * R : Nat) : Int) := by simp
    omega
  · have : 0 ≤ x * P / (P * R) := Nat.zero_le _
    exact_mod_cast this
theorem ShlS.step {a o : List Int} {q p i : Nat} (h : ShlS a o q p i) (ha : Limbs a) (hp : p < 64) (hi : i < a.length) {x : Int} (hx : a.getD i 0 = x) :
    ShlS a ((o.set (q + i) (o.getD (q + i) 0 + x * 2 ^ p % B64)).set (q + i + 1) (x * 2 ^ p / B64)) q p (i + 1) := by
  have hlt : q + i < o.length := by rw [h.len]; omega
  have hlt2 : q + i + 1 < o.length := by rw [h.len]; omega
  have hxl : 0 ≤ x ∧ x < B64 := by rw [← hx]; exact getD_limb ha i
  obtain ⟨p1, p2, p3, p4⟩ := shl_parts p hp hxl
  have hd := getD_limb h.lim (q + i)
  have ht := h.top
  have hm0 : 0 ≤ x * 2 ^ p % B64 := Int.emod_nonneg _ (by decide)
  have h64 : (2 : Int) ^ p ≤ B64 := by
    have : (2 : Nat) ^ p ≤ 2 ^ 64 := Nat.pow_le_pow_right (by omega) (by omega)
    have e : B64 = ((2 ^ 64 : Nat) : Int) := rfl
    rw [e]; exact_mod_cast this
  have hs1 : (o.set (q + i) (o.getD (q + i) 0 + x * 2 ^ p % B64)).length = o.length := List.length_set
  refine ⟨by rw [List.length_set, hs1, h.len], limbs_set (limbs_set h.lim _ ⟨by omega, by omega⟩) _ ⟨p4, by omega⟩, ?_, ?_, fun k hk => ?_⟩
  · rw [show q + (i + 1) = q + i + 1 by omega, getD_set _ _ _ _ (by rw [hs1]; exact hlt2), if_pos rfl]
    exact p1
  · rw [show q + (i + 1) + 1 = (q + i + 1) + 1 by omega]
    simp only [vt]
    have g1 := getD_set (o.set (q + i) (o.getD (q + i) 0 + x * 2 ^ p % B64)) (q + i + 1) (q + i + 1) (x * 2 ^ p / B64) (by rw [hs1]; exact hlt2)
    have g2 := getD_set (o.set (q + i) (o.getD (q + i) 0 + x * 2 ^ p % B64)) (q + i + 1) (q + i) (x * 2 ^ p / B64) (by rw [hs1]; exact hlt2)
    have g3 := getD_set o (q + i) (q + i) (o.getD (q + i) 0 + x * 2 ^ p % B64) hlt
    rw [if_pos rfl] at g1 g3
    rw [if_neg (by omega), g3] at g2
    rw [g1, g2, vt_set_ge _ _ _ _ (by rw [hs1]; exact hlt2) (by omega), vt_set_ge _ _ _ _ hlt (Nat.le_refl _), hx]
    have he := h.eq
    simp only [vt] at he
    have hsum : B64 * (x * 2 ^ p / B64) + x * 2 ^ p % B64 = x * 2 ^ p := Int.mul_ediv_add_emod _ _
    have e1 : B64 ^ (q + i + 1) = B64 ^ q * B64 ^ i * B64 := by rw [Int.pow_succ, Int.pow_add]
    have e2 : B64 ^ (q + i) = B64 ^ q * B64 ^ i := Int.pow_add _ _ _
    rw [e1]
    rw [e2] at he ⊢
    generalize x * 2 ^ p / B64 = hi at *
    generalize x * 2 ^ p % B64 = lo at *
    generalize vt o (q + i) = V at *
    generalize o.getD (q + i) 0 = d at *
    generalize B64 ^ q = Q at *
    generalize B64 ^ i = I at *
    generalize vt a i = A at *
    generalize (2 : Int) ^ p = T at *
    generalize B64 = B at *
    grind
  · rw [getD_set _ _ _ _ (by rw [hs1]; exact hlt2), if_neg (by omega), getD_set _ _ _ _ hlt, if_neg (by omega)]
    exact h.rest k (by omega)
abbrev shF (a : List Int) (q p i n : Nat) : PV.Frame := [(39, .int .i64 (i : Int)), (38, .int .i64 a.length), (37, .ints .u64 a), (8, .sl 0 0 n true), (7, .int .u64 (p : Int)), (6, .int .i64 (q : Int)), (0, .ints .u64 a)]
theorem shl_list (a : List Int) (ha : Limbs a) (hla : a.length ≤ 4096) (hsa : size a = a.length) (h0 : a.length ≠ 0) (n q p : Nat) (hn : n ≤ 262144) (hq : n / 64 = q) (hp : n % 64 = p) (v : Nat) (hv : 2 ^ p * (B64 ^ q * val a) = v) (hm : v < NMax) :
    Meets Tryz.prog 100 [.ints .u64 a, .int .i64 (n : Int)] (.tup [.ints .u64 (natL v), .int .i64 0]) := by
  have hp64 : p < 64 := by omega
  have s1 := size_as hla hsa
  have b1 := big_as hla hsa
  have hcut : ∀ o, Limbs o → o.length ≤ 100000 → val o = v → Meets Tryz.prog 99 [.ints .u64 o] (.tup [.ints .u64 (natL v), .int .i64 0]) := fun o h1 h2 h3 => cut_as h1 h2 h3 hm
  generalize natL v = res at *
  clear hm hsa
  have hq2 : q ≤ 4096 := by omega
  have e1 : ((n : Int)).tdiv 64 = (q : Int) := by rw [Int.tdiv_eq_ediv_of_nonneg (by omega)]; omega
  have e2 : ((n : Int)).tmod 64 = (p : Int) := by rw [Int.tmod_eq_emod_of_nonneg (by omega)]; omega
  have w1 : IntKind.wrap .i64 (q : Int) = (q : Int) := wrap_i64 (by omega)
  have w2 : IntKind.wrap .u64 (p : Int) = (p : Int) := wrap_u64 (by omega)
  have w3 : IntKind.wrap .i64 ((q : Int) + (a.length : Int)) = ((q + a.length : Nat) : Int) := by rw [wrap_i64 (by omega)]; omega
  have w4 : IntKind.wrap .i64 (((q + a.length : Nat) : Int) + 1) = ((q + a.length + 1 : Nat) : Int) := by rw [wrap_i64 (by omega)]; omega
  have hpow : (2 : Nat) ^ p ≤ 2 ^ 63 := Nat.pow_le_pow_right (by omega) (by omega)
  have hpow0 : 0 < (2 : Nat) ^ p := Nat.pow_pos (by omega)
  have e3 : (1 : Int) * 2 ^ min p 64 = ((2 ^ p : Nat) : Int) := by rw [Nat.min_eq_left (by omega)]; simp
  have w5 : IntKind.wrap .u64 ((2 ^ p : Nat) : Int) = ((2 ^ p : Nat) : Int) := wrap_u64 (by omega)
  refine meets_by ttOk Tryz.func100 Tryz.ntmps100 Tryz.results100 (by kernel_rfl) (c := _) rfl rfl rfl fun E => ?_
  simp only [argsFrame]
  have W := cj e1 (cj e2 (cj w1 (cj w2 (cj w3 w4))))
  refine walk1 ?_
  refine PW.loopA (fun m F H => ∃ i o, i + m = a.length ∧ ShlS a o q p i ∧ F = shF a q p i (q + a.length + 1) ∧ H = ⟨1, [(0, .ints .u64 o)], [], []⟩) a.length (shF a q p 0 (q + a.length + 1)) ⟨1, [(0, .ints .u64 (List.replicate (q + a.length + 1) 0))], [], []⟩ (Sub.norm ⟨rfl, rfl, rfl, rfl, rfl, rfl, rfl, trivial⟩ ⟨rfl, trivial⟩ (by simp) rfl rfl rfl rfl) ⟨0, _, by omega, ⟨by simp, fun x hx => by rw [List.eq_of_mem_replicate hx]; decide, ?_, ?_, fun k hk => ?_⟩, rfl, rfl⟩ ?_
  · rw [getD_zeros]; exact_mod_cast hpow0
  · rw [vt_zeros]; simp [vt]
  · rw [getD_zeros]
  rintro m F H ⟨i, o, hi, hS, rfl, rfl⟩
  have hol := hS.len
  cases m with
  | zero =>
    obtain rfl : i = a.length := by omega
    have hc := hcut o hS.lim (by omega) (by rw [val, hol, hS.eq]; exact hv)
    repeat' first
      | (with_reducible first | refine PW.seq ?_ | refine PW.block ?_ | refine PW.fork ?_ | refine PW.skip ?_ | refine PW.exit ?_ | refine PW.ret ?_ | refine PW.scope ?_ | refine PW.label ?_ | refine PW.goto ?_)
      | (with_reducible refine PW.region ttOk ?_ ?_
         · rfl)
      | (with_reducible refine PW.regionD ttOk mixed ?_ ?_ ?_
         · rfl
         · rfl)
      | (with_reducible refine ifW_dec (fun g => ?_) (fun g => ?_) <;> first | (exfalso; omega) | (simp -dsimp only [g, wkI]))
      | (with_reducible refine condE_dec (fun g => ?_) (fun g => ?_) <;> try (exfalso; omega))
      | (with_reducible refine condE_not (fun g => ?_) (fun g => ?_) <;> try (exfalso; omega))
      | (simp -dsimp only [↓wkA, ↓wkE, ↓wkJ, wkB, ↓tt, Nat.reduceBEq, Nat.reduceEqDiff, ↓reduceIte, Nat.reduceLT, Array.toList, Nat.reduceAdd, Nat.reduceMul, Int.reduceToNat, Int.reducePow, UInt8.reduceToNat])
      | (refine call_drop (args' := [.ints .u64 o]) (by simp -dsimp only [↓wkA, ↓wkE, ↓wkJ, wkB, ↓tt, Nat.reduceBEq, Nat.reduceEqDiff, ↓reduceIte, Nat.reduceLT, Array.toList, Nat.reduceAdd, Nat.reduceMul, Int.reduceToNat, Int.reducePow, UInt8.reduceToNat] <;> rw [List.take_of_length_le (by omega)]) hc (by simp -dsimp only [okViews, ↓wkA, ↓wkE, ↓wkJ, wkB, ↓tt, Nat.reduceBEq, Nat.reduceEqDiff, ↓reduceIte, Nat.reduceLT, Array.toList, Nat.reduceAdd, Nat.reduceMul, Int.reduceToNat, Int.reducePow, UInt8.reduceToNat] <;> omega) rfl ?_)
      | (simp -dsimp (disch := first | assumption | omega) only [dec_t, dec_f])
      | (refine andI ?_)
      | (simp (disch := omega) only [wkW, Int.reduceToNat, Int.reducePow])
      | fail
  | succ m =>
    have hx := getD_limb ha i
    have hstep := hS.step ha hp64 (by omega) rfl
    obtain ⟨p1, p2, p3, p4⟩ := shl_parts p hp64 hx
    have hd := getD_limb hS.lim (q + i)
    have ht := hS.top
    have h2 : ((2 : Int) ^ p) = ((2 ^ p : Nat) : Int) := by simp
    rw [h2] at p1 p3 p2 hstep
    have h64 := mul64 (a.getD i 0) ((2 ^ p : Nat) : Int) hx (by simp only [B64]; omega)
    have hlo : 0 ≤ a.getD i 0 * ((2 ^ p : Nat) : Int) % B64 := Int.emod_nonneg _ (by decide)
    have hlo2 : a.getD i 0 * ((2 ^ p : Nat) : Int) % B64 < 18446744073709551616 := Int.emod_lt_of_pos _ (by decide)
    have hor := or_apart p ⟨hd.1, ht⟩ ⟨hlo, hlo2⟩ (by rw [h2]; exact p2) hd.2
    have w6 : IntKind.wrap .i64 ((q : Int) + (i : Int)) = ((q + i : Nat) : Int) := by rw [wrap_i64 (by omega)]; omega
    have w7 : IntKind.wrap .i64 (((q + i : Nat) : Int) + 1) = ((q + i + 1 : Nat) : Int) := by rw [wrap_i64 (by omega)]; omega
    generalize a.getD i 0 * ((2 ^ p : Nat) : Int) % B64 = lo at *
    generalize a.getD i 0 * ((2 ^ p : Nat) : Int) / B64 = hi' at *
    have W := cj e3 (cj w5 (cj w6 (cj w7 (cj hor Int.toNat_natCast))))
    refine walk1 ?_
    exact Again.mk m (shF a q p (i + 1) (q + a.length + 1)) ⟨1, [(0, .ints .u64 _)], [], []⟩ (by omega) (Sub.norm ⟨rfl, rfl, rfl, rfl, rfl, rfl, rfl, trivial⟩ ⟨rfl, trivial⟩ (Nat.le_refl _) rfl rfl rfl rfl) ⟨i + 1, _, by omega, hstep, rfl, rfl⟩
theorem and1_i64 {a : Int} (ha : 0 ≤ a ∧ a ≤ 9223372036854775807) : ibits .and .i64 a 1 = a % 2 := by
  change IntKind.wrap .i64 (((BitVec.ofInt 64 a &&& BitVec.ofInt 64 1).toNat : Nat) : Int) = _
  rw [BitVec.toNat_and, BitVec.toNat_ofInt, BitVec.toNat_ofInt]
  have e1 : (a % ((2 ^ 64 : Nat) : Int)).toNat = a.toNat := by rw [Int.emod_eq_of_lt ha.1 (by simp; omega)]
  have e2 : ((1 : Int) % ((2 ^ 64 : Nat) : Int)).toNat = 2 ^ 1 - 1 := by decide
  rw [e1, e2, and_mask, wrap_i64 (by omega)]
  omega
theorem bits_len (x : Int) (hx : 0 ≤ x ∧ x < B64) : Meets Tryz.prog 151 [.int .u64 x] (.int .i64 ((bitlen x.toNat : Nat) : Int)) := by
  have h := len64 x hx
  refine meets_by ttOk Tryz.func151 Tryz.ntmps151 Tryz.results151 (by kernel_rfl) (c := _) rfl rfl rfl fun E => ?_
  simp only [argsFrame]
  exact walk
theorem size_ten : size [10] = 1 := by decide
theorem bitlen_ten : Meets Tryz.prog 53 [.ints .u64 [10]] (.int .i64 4) := by
  have hs := nat_size [10] (by simp)
  rw [size_ten] at hs
  have hl := len64 10 (by decide)
  have e : bitlen (10 : Int).toNat = 4 := by decide
  rw [e] at hl
  refine meets_by ttOk Tryz.func53 Tryz.ntmps53 Tryz.results53 (by kernel_rfl) (c := _) rfl rfl rfl fun E => ?_
  simp only [argsFrame]
  refine walk1 ?_
  all_goals (refine congrArg _ ?_; omega)
theorem small_ten : Meets Tryz.prog 93 [.ints .u64 [10], .int .i64 4096] (.tup [.ints .u64 [10], .bool true]) := by
  have h := nat_trim [10] (by simp)
  have e : trim [10] = [10] := by decide
  rw [e] at h
  refine meets_by ttOk Tryz.func93 Tryz.ntmps93 Tryz.results93 (by kernel_rfl) (c := _) rfl rfl rfl fun E => ?_
  simp only [argsFrame]
  exact walk
theorem natL_ten : natL 10 = [10] := by simp [natL, digs]
theorem natL_oneL : natL 1 = [1] := by simp [natL, digs]
set_option exponentiation.threshold 300000 in
theorem nmax_two : NMax = 2 ^ 262144 := by
  unfold NMax
  rw [show (262144 : Nat) = 64 * 4096 from rfl, Nat.pow_mul]
set_option exponentiation.threshold 300000 in
theorem ten_big {n : Nat} (h : 262144 ≤ 3 * n) : ¬ 10 ^ n < NMax := by
  have h1 : 2 ^ (3 * n) ≤ 10 ^ n := by
    rw [Nat.pow_mul]; exact Nat.pow_le_pow_left (by decide) n
  have h2 : 2 ^ 262144 ≤ 2 ^ (3 * n) := Nat.pow_le_pow_right (by decide) h
  rw [nmax_two]; omega
abbrev pwF (n : Nat) (l : List Int) (i : Nat) : PV.Frame := [(10, .int .i64 ((i : Int) - 1)), (9, .ints .u64 l), (6, .ints .u64 [10]), (1, .int .i64 (n : Int))]
set_option exponentiation.threshold 300000 in
set_option maxHeartbeats 4000000 in
theorem pow_ten (n : Nat) (hn : n < 9223372036854775807) (R : PV) (hR1 : 10 ^ n < NMax → R = .tup [.ints .u64 (natL (10 ^ n)), .int .i64 0]) (hR2 : ¬ 10 ^ n < NMax → R = .tup [.nil, .int .i64 2]) :
    Meets Tryz.prog 115 [.ints .u64 [10], .int .i64 (n : Int)] R := by
  refine meets_by ttOk Tryz.func115 Tryz.ntmps115 Tryz.results115 (by kernel_rfl) (c := _) rfl rfl rfl fun E => ?_
  simp only [argsFrame]
  have hbl := bits_len (n : Int) (by simp only [B64]; omega)
  rw [Int.toNat_natCast] at hbl
  have hmul3 : IntKind.wrap .i64 (3 * (n : Int)) = 3 * (n : Int) ∨ ¬ (n : Int) < 262144 := by
    by_cases h : (n : Int) < 262144
    · left; exact wrap_i64 (by omega)
    · exact .inr h
  have hw : IntKind.wrap .u64 (n : Int) = (n : Int) := wrap_u64 (by omega)
  have h1 : 10 ^ 0 < NMax := Nat.lt_of_lt_of_le (by decide) (pow64_mono (show 1 ≤ 4096 by decide))
  by_cases h0 : n = 0
  · subst h0
    rw [hR1 h1, Nat.pow_zero, natL_oneL]
    repeat' first
      | (with_reducible first | refine PW.seq ?_ | refine PW.block ?_ | refine PW.fork ?_ | refine PW.skip ?_ | refine PW.exit ?_ | refine PW.ret ?_ | refine PW.scope ?_ | refine PW.label ?_ | refine PW.goto ?_)
      | (with_reducible refine PW.region ttOk ?_ ?_
         · rfl)
      | (with_reducible refine PW.regionD ttOk mixed ?_ ?_ ?_
         · rfl
         · rfl)
      | (with_reducible refine ifW_dec (fun g => ?_) (fun g => ?_) <;> first | (exfalso; omega) | (simp -dsimp only [g, wkI]))
      | (with_reducible refine condE_dec (fun g => ?_) (fun g => ?_) <;> try (exfalso; omega))
      | (with_reducible refine condE_not (fun g => ?_) (fun g => ?_) <;> try (exfalso; omega))
      | (simp -dsimp only [↓wkA, ↓wkE, ↓wkJ, wkB, ↓tt, Nat.reduceBEq, Nat.reduceEqDiff, ↓reduceIte, Nat.reduceLT, Array.toList, Nat.reduceAdd, Nat.reduceMul, Int.reduceToNat, Int.reducePow, UInt8.reduceToNat])
      | (refine call_by small_ten (views_data rfl) ⟨trivial, trivial, trivial⟩ rfl ?_)
      | (refine call_by bitlen_ten (views_data rfl) ⟨trivial, trivial⟩ rfl ?_)
      | (exact Nat.le_refl _)
      | (simp -dsimp (disch := first | assumption | omega) only [dec_t, dec_f])
      | (refine andI ?_)
      | (simp (disch := omega) only [wkW, Int.reduceToNat, Int.reducePow])
      | fail
  by_cases hbig : 262144 ≤ 3 * n
  · rw [hR2 (ten_big hbig)]
    repeat' first
      | (simp (disch := omega) only [hw, show (4 : Int) - 1 = 3 from rfl, wkW, Int.reduceToNat, Int.reducePow])
      | (with_reducible first | refine PW.seq ?_ | refine PW.block ?_ | refine PW.fork ?_ | refine PW.skip ?_ | refine PW.exit ?_ | refine PW.ret ?_ | refine PW.scope ?_ | refine PW.label ?_ | refine PW.goto ?_)
      | (with_reducible refine PW.region ttOk ?_ ?_
         · rfl)
      | (with_reducible refine PW.regionD ttOk mixed ?_ ?_ ?_
         · rfl
         · rfl)
      | (with_reducible refine ifW_dec (fun g => ?_) (fun g => ?_) <;> first | (exfalso; omega) | (simp -dsimp only [g, wkI]))
      | (with_reducible refine condE_dec (fun g => ?_) (fun g => ?_) <;> try (exfalso; omega))
      | (with_reducible refine condE_not (fun g => ?_) (fun g => ?_) <;> try (exfalso; omega))
      | (simp -dsimp only [↓wkA, ↓wkE, ↓wkJ, wkB, ↓tt, Nat.reduceBEq, Nat.reduceEqDiff, ↓reduceIte, Nat.reduceLT, Array.toList, Nat.reduceAdd, Nat.reduceMul, Int.reduceToNat, Int.reducePow, UInt8.reduceToNat])
      | (refine call_by small_ten (views_data rfl) ⟨trivial, trivial, trivial⟩ rfl ?_)
      | (refine call_by bitlen_ten (views_data rfl) ⟨trivial, trivial⟩ rfl ?_)
      | (simp -dsimp (disch := first | assumption | omega) only [dec_t, dec_f])
      | (refine andI ?_)
      | (simp (disch := omega) only [wkW, Int.reduceToNat, Int.reducePow])
      | fail
  obtain ⟨L, hL, hL1, hL2⟩ := bitlen_spec h0
  rw [hL] at hbl
  have hL63 : L < 64 := by
    have h3 : 2 ^ L < 2 ^ 64 := Nat.lt_of_le_of_lt hL1 (by simp only [Nat.reducePow]; omega)
    exact (Nat.pow_lt_pow_iff_right (by decide)).1 h3
  repeat' first
    | (simp (disch := omega) only [hw, show (4 : Int) - 1 = 3 from rfl, wkW, Int.reduceToNat, Int.reducePow])
    | (with_reducible first | refine PW.seq ?_ | refine PW.block ?_ | refine PW.fork ?_ | refine PW.skip ?_ | refine PW.exit ?_ | refine PW.ret ?_ | refine PW.scope ?_ | refine PW.label ?_ | refine PW.goto ?_)
    | (with_reducible refine PW.region ttOk ?_ ?_
       · rfl)
    | (with_reducible refine PW.regionD ttOk mixed ?_ ?_ ?_
       · rfl
       · rfl)
    | (with_reducible refine ifW_dec (fun g => ?_) (fun g => ?_) <;> first | (exfalso; omega) | (simp -dsimp only [g, wkI]))
    | (with_reducible refine condE_dec (fun g => ?_) (fun g => ?_) <;> try (exfalso; omega))
    | (with_reducible refine condE_not (fun g => ?_) (fun g => ?_) <;> try (exfalso; omega))
    | (simp -dsimp only [↓wkA, ↓wkE, ↓wkJ, wkB, ↓tt, Nat.reduceBEq, Nat.reduceEqDiff, ↓reduceIte, Nat.reduceLT, Array.toList, Nat.reduceAdd, Nat.reduceMul, Int.reduceToNat, Int.reducePow, UInt8.reduceToNat])
    | (refine call_by small_ten (views_data rfl) ⟨trivial, trivial, trivial⟩ rfl ?_)
    | (refine call_by bitlen_ten (views_data rfl) ⟨trivial, trivial⟩ rfl ?_)
    | (refine call_by hbl (views_data rfl) ⟨trivial, trivial⟩ rfl ?_)
    | (simp -dsimp (disch := first | assumption | omega) only [dec_t, dec_f])
    | (refine andI ?_)
    | (simp (disch := omega) only [wkW, Int.reduceToNat, Int.reducePow])
    | fail
  have hten : natL (10 ^ 0) = [1] := natL_oneL
  refine PW.meetB (fun F H => 10 ^ n < NMax ∧ F = [(9, .ints .u64 (natL (10 ^ n)))] ∧ H = ⟨1, [], [], []⟩) ?_ ?_
  · refine PW.loopA (fun i F H => i ≤ L + 1 ∧ 10 ^ (n / 2 ^ i) < NMax ∧ F = pwF n (natL (10 ^ (n / 2 ^ i))) i ∧ H = ⟨1, [], [], []⟩) (L + 1) (pwF n (natL (10 ^ (n / 2 ^ (L + 1)))) (L + 1)) ⟨1, [], [], []⟩ (Sub.trans (toData 9 0 0 1 true rfl (Nat.le_refl _)) (Sub.norm ⟨?_, ?_, rfl, rfl, trivial⟩ trivial (Nat.le_refl _) rfl rfl rfl rfl)) ⟨Nat.le_refl _, ?_, rfl, rfl⟩ ?_
    · simp (disch := omega) only [↓wkA, ↓wkE, ↓wkJ, wkB, ↓tt, Nat.reduceBEq, Nat.reduceEqDiff, ↓reduceIte, Nat.reduceLT, Array.toList, Nat.reduceAdd, Nat.reduceMul, Int.reduceToNat, Int.reducePow, UInt8.reduceToNat, wkW, Int.reduceToNat, Int.reducePow]
    · rw [Nat.div_eq_of_lt hL2, hten]; rfl
    · rw [Nat.div_eq_of_lt hL2]; exact h1
    rintro i F H ⟨hi, hlt, rfl, rfl⟩
    cases i with
    | zero =>
      rw [Nat.pow_zero, Nat.div_one] at hlt ⊢
      refine walk1 ?_
      exact Meet.mk [(9, .ints .u64 (natL (10 ^ n)))] ⟨1, [], [], []⟩ (Sub.norm ⟨rfl, trivial⟩ trivial (Nat.le_refl _) rfl rfl rfl rfl) ⟨hlt, rfl, rfl⟩
    | succ i =>
      have e1 : (((i + 1 : Nat)) : Int) - 1 = (i : Int) := by omega
      simp only [pwF, e1]
      have hne : ∀ k, 10 ^ k ≠ 0 := fun k => Nat.ne_of_gt (Nat.pow_pos (by decide))
      have hstep : n / 2 ^ i = 2 * (n / 2 ^ (i + 1)) + n / 2 ^ i % 2 := by rw [Nat.pow_succ, ← Nat.div_div_eq_div_mul]; omega
      have hmono : ∀ k, k ≤ n / 2 ^ i → ¬ 10 ^ k < NMax → R = .tup [.nil, .int .i64 2] := fun k hk hb => hR2 fun h => hb (Nat.lt_of_le_of_lt (Nat.pow_le_pow_right (by decide) (Nat.le_trans hk (Nat.div_le_self _ _))) h)
      have hsq : 10 ^ (n / 2 ^ (i + 1)) * 10 ^ (n / 2 ^ (i + 1)) = 10 ^ (2 * (n / 2 ^ (i + 1))) := by rw [← Nat.pow_add]; congr 1; omega
      have hshr : ((n : Int)).fdiv (2 ^ min ((i : Int)).toNat 64) = ((n / 2 ^ i : Nat) : Int) := by
        rw [Int.toNat_natCast, Nat.min_eq_left (by omega), fdiv_pos (Int.le_of_lt (Int.pow_pos (by decide)))]
        simp
      have hwi : IntKind.wrap .u64 (i : Int) = (i : Int) := wrap_u64 (by omega)
      have hqn : n / 2 ^ i ≤ n := Nat.div_le_self _ _
      generalize n / 2 ^ (i + 1) = p at *
      generalize hqe : n / 2 ^ i = q at *
      have hand : ibits .and .i64 ((q : Nat) : Int) 1 = ((q % 2 : Nat) : Int) := by rw [and1_i64 (by omega)]; omega
      by_cases hs : 10 ^ (2 * p) < NMax
      · have hm1 := mul_nat (hne p) (hne p) hlt hlt (by rw [hsq]; exact hs)
        rw [hsq] at hm1
        by_cases hbit : q % 2 = 1
        · have hq : 10 ^ (2 * p) * 10 = 10 ^ q := by rw [← Nat.pow_succ]; congr 1; omega
          by_cases hs2 : 10 ^ q < NMax
          · have hm2 := mul_nat (hne (2 * p)) (show (10 : Nat) ≠ 0 by decide) hs (Nat.lt_of_lt_of_le (by decide) (pow64_mono (show 1 ≤ 4096 by decide))) (by rw [hq]; exact hs2)
            rw [hq, natL_ten] at hm2
            have W := cj hwi (cj hshr hand)
            refine walk1 ?_
            exact Again.mk i (pwF n (natL (10 ^ q)) i) ⟨1, [], [], []⟩ (by omega) (Sub.norm ⟨rfl, rfl, rfl, rfl, trivial⟩ trivial (Nat.le_refl _) rfl rfl rfl rfl) ⟨by omega, by rw [hqe]; exact hs2, by rw [hqe], rfl⟩
          · have hm2 := mul_over (hne (2 * p)) (show (10 : Nat) ≠ 0 by decide) hs (Nat.lt_of_lt_of_le (by decide) (pow64_mono (show 1 ≤ 4096 by decide))) (by rw [hq]; exact hs2)
            rw [natL_ten] at hm2
            rw [hmono q (Nat.le_refl _) hs2]
            have W := cj hwi (cj hshr hand)
            exact walk
        · have hq : 2 * p = q := by omega
          rw [hq] at hm1 hs
          have W := cj hwi (cj hshr hand)
          refine walk1 ?_
          exact Again.mk i (pwF n (natL (10 ^ q)) i) ⟨1, [], [], []⟩ (by omega) (Sub.norm ⟨rfl, rfl, rfl, rfl, trivial⟩ trivial (Nat.le_refl _) rfl rfl rfl rfl) ⟨by omega, by rw [hqe]; exact hs, by rw [hqe], rfl⟩
      · have hm1 := mul_over (hne p) (hne p) hlt hlt (by rw [hsq]; exact hs)
        rw [hmono (2 * p) (by omega) hs]
        have W := cj hwi (cj hshr hand)
        exact walk
  rintro F H ⟨hfin, rfl, rfl⟩
  rw [hR1 hfin]
  exact walk
def endN (s : List Int) (c : Int) : Nat → Nat
  | 0 => 0
  | n + 1 => if s.getD n 0 = c then endN s c n else n + 1
theorem endN_le (s : List Int) (c : Int) : ∀ n, endN s c n ≤ n
  | 0 => Nat.le_refl _
  | n + 1 => by
    rw [endN]
    split
    · have := endN_le s c n; omega
    · exact Nat.le_refl _
theorem endN_zero {s : List Int} {c : Int} : ∀ n, endN s c n = 0 ↔ ∀ j, j < n → s.getD j 0 = c
  | 0 => ⟨fun _ j hj => by omega, fun _ => rfl⟩
  | n + 1 => by
    rw [endN]
    by_cases h : s.getD n 0 = c
    · rw [if_pos h, endN_zero n]
      constructor
      · intro h2 j hj
        by_cases e : j = n
        · rw [e]; exact h
        · exact h2 j (by omega)
      · intro h2 j hj; exact h2 j (by omega)
    · rw [if_neg h]
      constructor
      · intro h2; omega
      · intro h2; exact absurd (h2 n (by omega)) h
theorem endN_last {s : List Int} {c : Int} : ∀ n, endN s c n ≠ 0 → s.getD (endN s c n - 1) 0 ≠ c
  | 0, h => absurd rfl h
  | n + 1, h => by
    rw [endN] at h ⊢
    by_cases h2 : s.getD n 0 = c
    · rw [if_pos h2] at h ⊢; exact endN_last n h
    · rw [if_neg h2]; exact h2
def headL (c : Int) : List Int → List Int
  | [] => []
  | x :: r => if x = c then headL c r else x :: r
theorem trim_right (s : List Int) (c : Int) (hsl : s.length ≤ 1000000000000000) : Meets Tryz.prog 139 [.str s, .int .u8 c] (.str (s.take (endN s c s.length))) := by
  refine meets_by ttOk Tryz.func139 Tryz.ntmps139 Tryz.results139 (by kernel_rfl) (c := _) rfl rfl rfl fun E => ?_
  simp only [argsFrame]
  repeat' first
    | (with_reducible first | refine PW.seq ?_ | refine PW.block ?_ | refine PW.fork ?_ | refine PW.skip ?_ | refine PW.exit ?_ | refine PW.ret ?_ | refine PW.scope ?_ | refine PW.label ?_ | refine PW.goto ?_)
    | (with_reducible refine PW.region ttOk ?_ ?_
       · rfl)
    | (with_reducible refine PW.regionD ttOk mixed ?_ ?_ ?_
       · rfl
       · rfl)
    | (with_reducible refine ifW_dec (fun g => ?_) (fun g => ?_) <;> first | (exfalso; omega) | (simp -dsimp only [g, wkI]))
    | (with_reducible refine condE_dec (fun g => ?_) (fun g => ?_) <;> try (exfalso; omega))
    | (with_reducible refine condE_not (fun g => ?_) (fun g => ?_) <;> try (exfalso; omega))
    | (simp -dsimp only [↓wkA, ↓wkE, ↓wkJ, wkB, ↓tt, Nat.reduceBEq, Nat.reduceEqDiff, ↓reduceIte, Nat.reduceLT, Array.toList, Nat.reduceAdd, Nat.reduceMul, Int.reduceToNat, Int.reducePow, UInt8.reduceToNat])
    | (simp -dsimp (disch := first | assumption | omega) only [dec_t, dec_f])
    | (refine andI ?_)
    | (simp (disch := omega) only [wkW, Int.reduceToNat, Int.reducePow])
    | fail
  refine PW.loopA (fun m F H => m ≤ s.length ∧ endN s c m = endN s c s.length ∧ F = [(0, .str (s.take m)), (1, .int .u8 c)] ∧ H = ⟨0, [], [], []⟩) s.length [(0, .str (s.take s.length)), (1, .int .u8 c)] ⟨0, [], [], []⟩ (Sub.norm ⟨congrArg PV.str List.take_length.symm, rfl, trivial⟩ trivial (Nat.le_refl _) rfl rfl rfl rfl) ⟨Nat.le_refl _, rfl, rfl, rfl⟩ ?_
  rintro m F H ⟨hm, he, rfl, rfl⟩
  have hl : (s.take m).length = m := by simp; omega
  cases m with
  | zero =>
    have : s.take (endN s c s.length) = [] := by rw [← he]; rfl
    rw [this]
    repeat' first
      | (with_reducible first | refine PW.seq ?_ | refine PW.block ?_ | refine PW.fork ?_ | refine PW.skip ?_ | refine PW.exit ?_ | refine PW.ret ?_ | refine PW.scope ?_ | refine PW.label ?_ | refine PW.goto ?_)
      | (with_reducible refine PW.region ttOk ?_ ?_
         · rfl)
      | (with_reducible refine PW.regionD ttOk mixed ?_ ?_ ?_
         · rfl
         · rfl)
      | (with_reducible refine ifW_dec (fun g => ?_) (fun g => ?_) <;> first | (exfalso; omega) | (simp -dsimp only [g, wkI]))
      | (with_reducible refine condE_dec (fun g => ?_) (fun g => ?_) <;> try (exfalso; omega))
      | (with_reducible refine condE_not (fun g => ?_) (fun g => ?_) <;> try (exfalso; omega))
      | (simp -dsimp only [↓wkA, ↓wkE, ↓wkJ, wkB, ↓tt, Nat.reduceBEq, Nat.reduceEqDiff, ↓reduceIte, Nat.reduceLT, Array.toList, Nat.reduceAdd, Nat.reduceMul, Int.reduceToNat, Int.reducePow, UInt8.reduceToNat])
      | (simp -dsimp (disch := first | assumption | omega) only [dec_t, dec_f])
      | (refine andI ?_)
      | (simp (disch := omega) only [wkW, Int.reduceToNat, Int.reducePow])
      | fail
  | succ m =>
    have hg : (s.take (m + 1)).getD m 0 = s.getD m 0 := by
      rw [List.getD_eq_getElem?_getD, List.getElem?_take, if_pos (by omega), List.getD_eq_getElem?_getD]
    have e : ((m + 1 : Nat) : Int) - 1 = (m : Int) := by omega
    have hw : IntKind.wrap .i64 (m : Int) = (m : Int) := wrap_i64 (by omega)
    have htt : (s.take (m + 1)).take m = s.take m := by rw [List.take_take, Nat.min_eq_left (by omega)]
    obtain ⟨t, htd⟩ : ∃ t, s.take (m + 1) = t := ⟨_, rfl⟩
    rw [htd] at hl hg htt ⊢
    repeat' first
      | (simp only [hl, e, hw, Int.toNat_natCast, Int.sub_zero, hg, htt])
      | (with_reducible first | refine PW.seq ?_ | refine PW.block ?_ | refine PW.fork ?_ | refine PW.skip ?_ | refine PW.exit ?_ | refine PW.ret ?_ | refine PW.scope ?_ | refine PW.label ?_ | refine PW.goto ?_)
      | (with_reducible refine PW.region ttOk ?_ ?_
         · rfl)
      | (with_reducible refine PW.regionD ttOk mixed ?_ ?_ ?_
         · rfl
         · rfl)
      | (with_reducible refine ifW_dec (fun g => ?_) (fun g => ?_) <;> first | (exfalso; omega) | (simp -dsimp only [g, wkI]))
      | (with_reducible refine condE_dec (fun g => ?_) (fun g => ?_) <;> try (exfalso; omega))
      | (with_reducible refine condE_not (fun g => ?_) (fun g => ?_) <;> try (exfalso; omega))
      | (simp -dsimp only [↓wkA, ↓wkE, ↓wkJ, wkB, ↓tt, Nat.reduceBEq, Nat.reduceEqDiff, ↓reduceIte, Nat.reduceLT, Array.toList, Nat.reduceAdd, Nat.reduceMul, Int.reduceToNat, Int.reducePow, UInt8.reduceToNat])
      | (simp -dsimp (disch := first | assumption | omega) only [dec_t, dec_f])
      | (refine andI ?_)
      | (simp (disch := omega) only [wkW, Int.reduceToNat, Int.reducePow])
      | fail
    · have h0 : s.getD m 0 = c := by assumption
      exact Again.mk m [(0, .str (s.take m)), (1, .int .u8 c)] ⟨0, [], [], []⟩ (by omega) (Sub.norm ⟨rfl, rfl, trivial⟩ trivial (Nat.le_refl _) rfl rfl rfl rfl) ⟨by omega, by rw [← he, endN, if_pos h0], rfl, rfl⟩
    · have h0 : ¬ s.getD m 0 = c := by assumption
      rw [← he, endN, if_neg h0, htd]
theorem trim_left (s : List Int) (c : Int) (hsl : s.length ≤ 1000000000000000) : Meets Tryz.prog 135 [.str s, .int .u8 c] (.str (headL c s)) := by
  refine meets_by ttOk Tryz.func135 Tryz.ntmps135 Tryz.results135 (by kernel_rfl) (c := _) rfl rfl rfl fun E => ?_
  simp only [argsFrame]
  repeat' first
    | (with_reducible first | refine PW.seq ?_ | refine PW.block ?_ | refine PW.fork ?_ | refine PW.skip ?_ | refine PW.exit ?_ | refine PW.ret ?_ | refine PW.scope ?_ | refine PW.label ?_ | refine PW.goto ?_)
    | (with_reducible refine PW.region ttOk ?_ ?_
       · rfl)
    | (with_reducible refine PW.regionD ttOk mixed ?_ ?_ ?_
       · rfl
       · rfl)
    | (with_reducible refine ifW_dec (fun g => ?_) (fun g => ?_) <;> first | (exfalso; omega) | (simp -dsimp only [g, wkI]))
    | (with_reducible refine condE_dec (fun g => ?_) (fun g => ?_) <;> try (exfalso; omega))
    | (with_reducible refine condE_not (fun g => ?_) (fun g => ?_) <;> try (exfalso; omega))
    | (simp -dsimp only [↓wkA, ↓wkE, ↓wkJ, wkB, ↓tt, Nat.reduceBEq, Nat.reduceEqDiff, ↓reduceIte, Nat.reduceLT, Array.toList, Nat.reduceAdd, Nat.reduceMul, Int.reduceToNat, Int.reducePow, UInt8.reduceToNat])
    | (simp -dsimp (disch := first | assumption | omega) only [dec_t, dec_f])
    | (refine andI ?_)
    | (simp (disch := omega) only [wkW, Int.reduceToNat, Int.reducePow])
    | fail
  refine PW.loopA (fun m F H => ∃ t : List Int, t.length = m ∧ m ≤ s.length ∧ headL c t = headL c s ∧ F = [(0, .str t), (1, .int .u8 c)] ∧ H = ⟨0, [], [], []⟩) s.length [(0, .str s), (1, .int .u8 c)] ⟨0, [], [], []⟩ (Sub.norm ⟨rfl, rfl, trivial⟩ trivial (Nat.le_refl _) rfl rfl rfl rfl) ⟨s, rfl, Nat.le_refl _, rfl, rfl, rfl⟩ ?_
  rintro m F H ⟨t, ht, hm, he, rfl, rfl⟩
  rw [← he]
  clear he
  cases t with
  | nil =>
    repeat' first
      | (with_reducible first | refine PW.seq ?_ | refine PW.block ?_ | refine PW.fork ?_ | refine PW.skip ?_ | refine PW.exit ?_ | refine PW.ret ?_ | refine PW.scope ?_ | refine PW.label ?_ | refine PW.goto ?_)
      | (with_reducible refine PW.region ttOk ?_ ?_
         · rfl)
      | (with_reducible refine PW.regionD ttOk mixed ?_ ?_ ?_
         · rfl
         · rfl)
      | (with_reducible refine ifW_dec (fun g => ?_) (fun g => ?_) <;> first | (exfalso; omega) | (simp -dsimp only [g, wkI]))
      | (with_reducible refine condE_dec (fun g => ?_) (fun g => ?_) <;> try (exfalso; omega))
      | (with_reducible refine condE_not (fun g => ?_) (fun g => ?_) <;> try (exfalso; omega))
      | (simp -dsimp only [↓wkA, ↓wkE, ↓wkJ, wkB, ↓tt, Nat.reduceBEq, Nat.reduceEqDiff, ↓reduceIte, Nat.reduceLT, Array.toList, Nat.reduceAdd, Nat.reduceMul, Int.reduceToNat, Int.reducePow, UInt8.reduceToNat])
      | (simp -dsimp (disch := first | assumption | omega) only [dec_t, dec_f])
      | (refine andI ?_)
      | (simp (disch := omega) only [wkW, Int.reduceToNat, Int.reducePow])
      | fail
    rfl
  | cons x r =>
    simp only [List.length_cons] at ht
    have hr : List.take r.length r = r := List.take_length
    repeat' first
      | (simp only [List.drop_succ_cons, List.drop_zero, hr, Int.toNat_natCast])
      | (with_reducible first | refine PW.seq ?_ | refine PW.block ?_ | refine PW.fork ?_ | refine PW.skip ?_ | refine PW.exit ?_ | refine PW.ret ?_ | refine PW.scope ?_ | refine PW.label ?_ | refine PW.goto ?_)
      | (with_reducible refine PW.region ttOk ?_ ?_
         · rfl)
      | (with_reducible refine PW.regionD ttOk mixed ?_ ?_ ?_
         · rfl
         · rfl)
      | (with_reducible refine ifW_dec (fun g => ?_) (fun g => ?_) <;> first | (exfalso; omega) | (simp -dsimp only [g, wkI]))
      | (with_reducible refine condE_dec (fun g => ?_) (fun g => ?_) <;> try (exfalso; omega))
      | (with_reducible refine condE_not (fun g => ?_) (fun g => ?_) <;> try (exfalso; omega))
      | (simp -dsimp only [↓wkA, ↓wkE, ↓wkJ, wkB, ↓tt, Nat.reduceBEq, Nat.reduceEqDiff, ↓reduceIte, Nat.reduceLT, Array.toList, Nat.reduceAdd, Nat.reduceMul, Int.reduceToNat, Int.reducePow, UInt8.reduceToNat])
      | (simp -dsimp (disch := first | assumption | omega) only [dec_t, dec_f])
      | (refine andI ?_)
      | (simp (disch := omega) only [wkW, Int.reduceToNat, Int.reducePow])
      | fail
    · have h0 : x = c := by assumption
      exact Again.mk r.length [(0, .str r), (1, .int .u8 c)] ⟨0, [], [], []⟩ (by omega) (Sub.norm ⟨rfl, rfl, trivial⟩ trivial (Nat.le_refl _) rfl rfl rfl rfl) ⟨r, rfl, by omega, by conv => { rhs; rw [headL, if_pos h0] }, rfl, rfl⟩
    · have h0 : ¬ x = c := by assumption
      rw [headL, if_neg h0]
def Digs (s : List Int) : Prop := ∀ x ∈ s, 48 ≤ x ∧ x ≤ 57
theorem digs_get {s : List Int} (h : Digs s) {i : Nat} (hi : i < s.length) : 48 ≤ s.getD i 0 ∧ s.getD i 0 ≤ 57 := by
  rw [List.getD_eq_getElem?_getD, List.getElem?_eq_getElem hi]; exact h _ (List.getElem_mem hi)
theorem digs_take {s : List Int} (h : Digs s) (k : Nat) : Digs (s.take k) := fun x hx => h x (List.mem_of_mem_take hx)
theorem getD_set_ne {s : List Int} {k j : Nat} {x : Int} (h : k ≠ j) : (s.set k x).getD j 0 = s.getD j 0 := by
  rw [List.getD_eq_getElem?_getD, List.getD_eq_getElem?_getD, List.getElem?_set_ne h]
theorem getD_take' {s : List Int} {k j : Nat} (h : j < k) : (s.take k).getD j 0 = s.getD j 0 := by
  rw [List.getD_eq_getElem?_getD, List.getD_eq_getElem?_getD, List.getElem?_take_of_lt h]
theorem getD_drop' {s : List Int} {k j : Nat} : (s.drop k).getD j 0 = s.getD (k + j) 0 := by
  rw [List.getD_eq_getElem?_getD, List.getD_eq_getElem?_getD, List.getElem?_drop]
theorem worth_digit {c : Int} (h : 48 ≤ c ∧ c ≤ 57) : worth c = c - 48 := by unfold worth; rw [if_pos h]
theorem nmax_of {v k : Nat} (h : v < 2 ^ k) (hk : k ≤ 100000) : v < NMax := by
  rw [nmax_two]
  exact Nat.lt_of_lt_of_le h (Nat.pow_le_pow_right (by decide) (by omega))
theorem shl_zero (n : Nat) (hn : n ≤ 9223372036854775807) : Meets Tryz.prog 100 [.ints .u64 [], .int .i64 (n : Int)] (.tup [.ints .u64 [], .int .i64 0]) := by
  have s1 := size_as (a := []) (by decide) rfl
  have b1 := big_as (a := []) (by decide) rfl
  refine Meets.nil_head .u64 ?_
  refine meets_by ttOk Tryz.func100 Tryz.ntmps100 Tryz.results100 (by kernel_rfl) (c := _) rfl rfl rfl fun E => ?_
  simp only [argsFrame]
  exact walk
theorem shl_nat {u n : Nat} (hu : u < NMax) (hn : n ≤ 262144) (h : u * 2 ^ n < NMax) : Meets Tryz.prog 100 [.ints .u64 (natL u), .int .i64 (n : Int)] (.tup [.ints .u64 (natL (u * 2 ^ n)), .int .i64 0]) := by
  by_cases h0 : u = 0
  · subst h0
    rw [Nat.zero_mul, natL_zero]
    exact shl_zero n (by omega)
  · refine shl_list _ (natL_limbs u) (natL_small hu) (size_natL u) (fun e => h0 (natL_len0.1 e)) n (n / 64) (n % 64) hn rfl rfl _ ?_ h
    rw [val_natL]
    have e : (2 : Nat) ^ n = 2 ^ (n % 64) * 18446744073709551616 ^ (n / 64) := by
      rw [show (18446744073709551616 : Nat) = 2 ^ 64 from rfl, ← Nat.pow_mul, ← Nat.pow_add, show n % 64 + 64 * (n / 64) = n by omega]
    rw [e, Int.natCast_mul, Int.natCast_mul, Int.natCast_pow, Int.natCast_pow]
    simp only [B64]
    grind
theorem digs_getD {b : Nat} (hb : 2 ≤ b) : ∀ (k v : Nat), (digs b v).getD k 0 = v / b ^ k % b
  | 0, v => by
    by_cases h0 : v = 0
    · subst h0; simp [digs_zero]
    · rw [digs_step hb h0]; simp
  | k + 1, v => by
    by_cases h0 : v = 0
    · subst h0; simp [digs_zero]
    · rw [digs_step hb h0, List.getD_cons_succ, digs_getD hb k (v / b), Nat.div_div_eq_div_mul, Nat.pow_succ, Nat.mul_comm b]
theorem natL_getD (v k : Nat) : (natL v).getD k 0 = ((v / 18446744073709551616 ^ k % 18446744073709551616 : Nat) : Int) := by
  have h := digs_getD (b := 18446744073709551616) (by decide) k v
  rw [← h]
  unfold natL
  rw [List.getD_eq_getElem?_getD, List.getElem?_map, List.getD_eq_getElem?_getD]
  cases (digs 18446744073709551616 v)[k]? <;> rfl
theorem bit_parts (v k p : Nat) (hp : p < 64) : v / 18446744073709551616 ^ k % 18446744073709551616 / 2 ^ p % 2 = v / 2 ^ (64 * k + p) % 2 := by
  have e : (18446744073709551616 : Nat) = 2 ^ p * 2 ^ (64 - p) := by rw [← Nat.pow_add, show p + (64 - p) = 64 by omega]
  rw [Nat.pow_add, ← Nat.div_div_eq_div_mul, Nat.pow_mul]
  have e2 : (2 : Nat) ^ 64 = 18446744073709551616 := rfl
  rw [e2]
  generalize v / 18446744073709551616 ^ k = m
  rw [e, Nat.mod_mul_right_div_self, Nat.mod_mod_of_dvd _ (by rw [show 64 - p = (63 - p) + 1 by omega, Nat.pow_succ]; exact Nat.dvd_mul_left ..)]
theorem nat64 (y : Nat) (h : y < 18446744073709551616) : (y : Int) < 18446744073709551616 := by omega
theorem bit_nat (v i : Nat) (hv : v < NMax) (hi : i ≤ 1000000000000) : Meets Tryz.prog 60 [.ints .u64 (natL v), .int .i64 (i : Int)] (.int .i64 ((v / 2 ^ i % 2 : Nat) : Int)) := by
  have hl := natL_small hv
  have hlt := natL_lt v
  have hg := natL_getD v (i / 64)
  have hgl := getD_limb (natL_limbs v) (i / 64)
  have hb := bit_parts v (i / 64) (i % 64) (by omega)
  rw [show 64 * (i / 64) + i % 64 = i by omega] at hb
  have e1 : ((i : Int)).tdiv 64 = ((i / 64 : Nat) : Int) := by rw [Int.tdiv_eq_ediv_of_nonneg (by omega)]; omega
  have e2 : ((i : Int)).tmod 64 = ((i % 64 : Nat) : Int) := by rw [Int.tmod_eq_emod_of_nonneg (by omega)]; omega
  have w1 : IntKind.wrap .i64 ((i / 64 : Nat) : Int) = ((i / 64 : Nat) : Int) := wrap_i64 (by omega)
  have w2 : IntKind.wrap .u64 ((i % 64 : Nat) : Int) = ((i % 64 : Nat) : Int) := wrap_u64 (by omega)
  have ez : (natL v).length ≤ i / 64 → v / 2 ^ i % 2 = 0 := fun h => by
    have h1 : 18446744073709551616 ^ (natL v).length ≤ 2 ^ i := by
      rw [show (18446744073709551616 : Nat) = 2 ^ 64 from rfl, ← Nat.pow_mul]
      exact Nat.pow_le_pow_right (by omega) (by omega)
    rw [Nat.div_eq_of_lt (by omega)]
  have e3 : ((natL v).getD (i / 64) 0).fdiv (2 ^ min (i % 64) 64) = ((v / 18446744073709551616 ^ (i / 64) % 18446744073709551616 / 2 ^ (i % 64) : Nat) : Int) := by
    rw [hg, Nat.min_eq_left (by omega), Int.fdiv_eq_ediv_of_nonneg _ (by exact_mod_cast Nat.zero_le _)]
    simp
  have hsm : v / 18446744073709551616 ^ (i / 64) % 18446744073709551616 / 2 ^ (i % 64) < 18446744073709551616 := Nat.lt_of_le_of_lt (Nat.div_le_self _ _) (Nat.mod_lt _ (by decide))
  have e4 := and_low 1 (by omega) (a := ((v / 18446744073709551616 ^ (i / 64) % 18446744073709551616 / 2 ^ (i % 64) : Nat) : Int)) ⟨Int.natCast_nonneg _, nat64 _ hsm⟩
  have e5 : ibits .and .u64 ((v / 18446744073709551616 ^ (i / 64) % 18446744073709551616 / 2 ^ (i % 64) : Nat) : Int) 1 = ((v / 2 ^ i % 2 : Nat) : Int) := by
    rw [← hb]
    refine e4.trans ?_
    simp
  have w3 : IntKind.wrap .i64 ((v / 2 ^ i % 2 : Nat) : Int) = ((v / 2 ^ i % 2 : Nat) : Int) := wrap_i64 (by omega)
  refine meets_by ttOk Tryz.func60 Tryz.ntmps60 Tryz.results60 (by kernel_rfl) (c := _) rfl rfl rfl fun E => ?_
  simp only [argsFrame]
  clear hlt hg hb e4 hsm
  by_cases hk : (natL v).length ≤ i / 64
  · rw [ez hk]
    clear e3 e5 w3 ez
    generalize natL v = a at *
    have W := cj e1 w1
    exact walk
  · clear ez
    generalize v / 18446744073709551616 ^ (i / 64) % 18446744073709551616 / 2 ^ (i % 64) = y at *
    generalize v / 2 ^ i % 2 = z at *
    generalize natL v = a at *
    have W := cj e1 (cj e2 (cj w1 (cj w2 (cj w3 (cj e3 (cj e5 Int.toNat_natCast))))))
    exact walk
theorem pow10_ok (n : Nat) (hn : n < 9223372036854775807) (h : 10 ^ n < NMax) : Meets Tryz.prog 92 [.int .i64 (n : Int)] (.tup [.ints .u64 (natL (10 ^ n)), .int .i64 0]) := by
  have hp := pow_ten n hn _ (fun _ => rfl) (fun h2 => absurd h h2)
  refine meets_by ttOk Tryz.func92 Tryz.ntmps92 Tryz.results92 (by kernel_rfl) (c := _) rfl rfl rfl fun E => ?_
  simp only [argsFrame]
  repeat' first
    | (with_reducible first | refine PW.seq ?_ | refine PW.block ?_ | refine PW.fork ?_ | refine PW.skip ?_ | refine PW.exit ?_ | refine PW.ret ?_ | refine PW.scope ?_ | refine PW.label ?_ | refine PW.goto ?_)
    | (with_reducible refine PW.region ttOk ?_ ?_
       · rfl)
    | (with_reducible refine PW.regionD ttOk mixed ?_ ?_ ?_
       · rfl
       · rfl)
    | (with_reducible refine ifW_dec (fun g => ?_) (fun g => ?_) <;> first | (exfalso; omega) | (simp -dsimp only [g, wkI]))
    | (with_reducible refine condE_dec (fun g => ?_) (fun g => ?_) <;> try (exfalso; omega))
    | (with_reducible refine condE_not (fun g => ?_) (fun g => ?_) <;> try (exfalso; omega))
    | (simp -dsimp only [↓wkA, ↓wkE, ↓wkJ, wkB, ↓tt, Nat.reduceBEq, Nat.reduceEqDiff, ↓reduceIte, Nat.reduceLT, Array.toList, Nat.reduceAdd, Nat.reduceMul, Int.reduceToNat, Int.reducePow, UInt8.reduceToNat])
    | (refine call_drop (args' := [.ints .u64 [10], .int .i64 (n : Int)]) rfl hp (by simp -dsimp only [okViews, ↓wkA, ↓wkE, ↓wkJ, wkB, ↓tt, Nat.reduceBEq, Nat.reduceEqDiff, ↓reduceIte, Nat.reduceLT, Array.toList, Nat.reduceAdd, Nat.reduceMul, Int.reduceToNat, Int.reducePow, UInt8.reduceToNat]; decide) rfl ?_)
    | (simp -dsimp (disch := first | assumption | omega) only [dec_t, dec_f])
    | (refine andI ?_)
    | (simp (disch := omega) only [wkW, Int.reduceToNat, Int.reducePow])
    | fail
theorem text_ge {b : Nat} (hb : 2 ≤ b) (u : Bool) : ∀ v, v ≠ 0 → b ^ ((text b u v).length - 1) ≤ v := by
  intro v
  induction v using Nat.strongRecOn with
  | _ v ih =>
    intro h0
    rw [text_step hb u h0, List.length_append, List.length_singleton, Nat.add_sub_cancel]
    by_cases h1 : v / b = 0
    · rw [h1, text_nil]; simp; omega
    · have h2 := ih _ (Nat.div_lt_self (by omega) (show 1 < b by omega)) h1
      have h3 : 0 < (text b u (v / b)).length := List.length_pos_iff.2 (text_ne hb u h1)
      have h4 : b ^ (text b u (v / b)).length = b ^ ((text b u (v / b)).length - 1) * b := by
        rw [← Nat.pow_succ]; congr 1; omega
      rw [h4]
      have h5 := Nat.div_mul_le_self v b
      have h6 : b ^ ((text b u (v / b)).length - 1) * b ≤ v / b * b := Nat.mul_le_mul_right _ h2
      omega
def digL : Nat → Nat → List Int
  | 0, _ => []
  | L + 1, N => digL L (N / 10) ++ [48 + ((N % 10 : Nat) : Int)]
theorem digs_last {s : List Int} {L : Nat} (hs : Digs s) (hl : s.length = L + 1) : ∃ t x, s = t ++ [x] ∧ t.length = L ∧ Digs t ∧ 48 ≤ x ∧ x ≤ 57 := by
  refine ⟨s.take L, s.getD L 0, ?_, by simp; omega, digs_take hs L, digs_get hs (by omega)⟩
  refine list_ext (by simp; omega) fun j hj => ?_
  by_cases h : j < L
  · rw [List.getD_eq_getElem?_getD, List.getD_eq_getElem?_getD, List.getElem?_append_left (by simp; omega), List.getElem?_take, if_pos h]
  · obtain rfl : j = L := by omega
    have : (s.take j).length = j := by simp; omega
    rw [List.getD_eq_getElem?_getD (l := s.take j ++ _), List.getElem?_append_right (by omega), this]
    simp
theorem digs_digL : ∀ (L : Nat) (s : List Int), Digs s → s.length = L → s = digL L (num 10 s)
  | 0, s, _, hl => by rw [List.length_eq_zero_iff] at hl; subst hl; rfl
  | L + 1, s, hs, hl => by
    obtain ⟨t, x, rfl, ht, hd, hx⟩ := digs_last hs hl
    rw [num_append, worth_digit hx, digL]
    have e : (num 10 t * 10 + (x - 48).toNat) / 10 = num 10 t := by omega
    rw [e, ← digs_digL L t hd ht]
    have e2 : (num 10 t * 10 + (x - 48).toNat) % 10 = (x - 48).toNat := by omega
    rw [e2]
    congr 2
    omega
theorem worth_dec {c : Int} : worth c < 10 ↔ 48 ≤ c ∧ c ≤ 57 := by
  unfold worth
  repeat' split
  all_goals omega
def ndig (v : Nat) : Nat := (text 10 false v).length
theorem text_digs {v : Nat} : Digs (text 10 false v) := fun x hx => by
  obtain ⟨d, hd, rfl⟩ := text_all (by decide) false v x hx
  have h := (letter_all false ⟨d, by omega⟩).1
  simp only at h
  have := worth_dec (c := letter false d)
  omega
theorem text_digL (v : Nat) : text 10 false v = digL (ndig v) v := by
  have h := digs_digL _ _ (text_digs (v := v)) rfl
  rwa [num_text (by decide)] at h
theorem ndig_lt (v : Nat) : v < 10 ^ ndig v := text_lt (by decide) false v
theorem ndig_ge {v : Nat} (h : v ≠ 0) : 0 < ndig v ∧ 10 ^ (ndig v - 1) ≤ v := ⟨List.length_pos_iff.2 (text_ne (by decide) false h), text_ge (by decide) false v h⟩
theorem ndig_of {v k : Nat} (h1 : 10 ^ k ≤ v) (h2 : v < 10 ^ (k + 1)) : ndig v = k + 1 := by
  have h0 : v ≠ 0 := by have := Nat.pow_pos (n := k) (show 0 < 10 by decide); omega
  obtain ⟨g1, g2⟩ := ndig_ge h0
  have g3 := ndig_lt v
  have a1 : k < ndig v := (Nat.pow_lt_pow_iff_right (show 1 < 10 by decide)).1 (Nat.lt_of_le_of_lt h1 g3)
  have a2 : ndig v - 1 < k + 1 := (Nat.pow_lt_pow_iff_right (show 1 < 10 by decide)).1 (Nat.lt_of_le_of_lt g2 h2)
  omega
def absD (d : Nat) : Nat := d % 9223372036854775808
def fieldD (d : Nat) : Nat := absD d / 4503599627370496
def fracD (d : Nat) : Nat := d % 4503599627370496
def negD (d : Nat) : Bool := decide (9223372036854775808 ≤ d)
def classD (d : Nat) : Int := if absD d = 0 then 0 else if fieldD d = 0 then 1 else if fieldD d < 2047 then 2 else if fracD d = 0 then 3 else 4
def mantD (d : Nat) : Nat := if fieldD d = 0 then fracD d else 4503599627370496 + fracD d
def expD (d : Nat) : Int := if fieldD d = 0 then -1074 else (fieldD d : Int) - 1075
def finD (d : Nat) : Prop := fieldD d < 2047
instance (d : Nat) : Decidable (finD d) := inferInstanceAs (Decidable (_ < _))
def partsM (d : Nat) : Int := if classD d = 1 ∨ classD d = 2 then (mantD d : Int) else (fracD d : Int)
def partsE (d : Nat) : Int := if classD d = 1 ∨ classD d = 2 then expD d else 0
def partsP (d : Nat) : PV := .agg [.bool (negD d), .int .i64 (classD d), .int .u64 (partsM d), .int .i64 (partsE d)]
theorem abs_lt (d : Nat) : absD d < 9223372036854775808 := Nat.mod_lt _ (by decide)
theorem abs_frac (d : Nat) : absD d % 4503599627370496 = fracD d := by unfold absD fracD; omega
theorem abs_parts (d : Nat) : absD d = fieldD d * 4503599627370496 + fracD d := by have := abs_frac d; unfold fieldD; omega
theorem frac_lt (d : Nat) : fracD d < 4503599627370496 := Nat.mod_lt _ (by decide)
theorem field_lt (d : Nat) : fieldD d < 2048 := by have := abs_lt d; unfold fieldD; omega
theorem abs_zero {d : Nat} : absD d = 0 ↔ fieldD d = 0 ∧ fracD d = 0 := by have := abs_parts d; omega
theorem mantD_zero {d : Nat} : mantD d = 0 ↔ absD d = 0 := by
  rw [abs_zero]; unfold mantD; split <;> omega
theorem mantD_lt (d : Nat) : mantD d < 9007199254740992 := by have := frac_lt d; unfold mantD; split <;> omega
theorem expD_ge (d : Nat) : -1074 ≤ expD d := by unfold expD; split <;> omega
theorem expD_le {d : Nat} (h : finD d) : expD d ≤ 971 := by unfold finD at h; unfold expD; split <;> omega
theorem fin_class {d : Nat} : finD d ↔ classD d < 3 := by
  have := @abs_zero d
  unfold finD classD
  split
  · omega
  · split
    · omega
    · split
      · omega
      · split <;> omega
theorem classD_le (d : Nat) : 0 ≤ classD d ∧ classD d ≤ 4 := by unfold classD; split; omega; split; omega; split; omega; split <;> omega
theorem class_zero {d : Nat} : classD d = 0 ↔ absD d = 0 := by unfold classD; split; omega; split; omega; split; omega; split <;> omega
theorem parts_fin {d : Nat} (h : finD d) (h0 : absD d ≠ 0) : partsM d = mantD d ∧ partsE d = expD d := by
  have h1 := fin_class.1 h
  have h2 := class_zero (d := d)
  have h3 := classD_le d
  unfold partsM partsE
  rw [if_pos (by omega), if_pos (by omega)]
  exact ⟨rfl, rfl⟩
theorem and_bit (d i : Nat) : d &&& 2 ^ i = d / 2 ^ i % 2 * 2 ^ i := by
  have := Nat.mod_lt (d / 2 ^ i) (show 2 > 0 by decide)
  refine Nat.eq_of_testBit_eq fun j => ?_
  rw [Nat.testBit_and, Nat.testBit_two_pow]
  by_cases e : i = j
  · subst e
    rw [Nat.testBit_eq_decide_div_mod_eq]
    by_cases h : d / 2 ^ i % 2 = 1
    · rw [h]; simp
    · have h0 : d / 2 ^ i % 2 = 0 := by omega
      rw [h0]; simp
  · by_cases h : d / 2 ^ i % 2 = 1
    · rw [h, Nat.one_mul, Nat.testBit_two_pow]; simp [e]
    · have h0 : d / 2 ^ i % 2 = 0 := by omega
      rw [h0]; simp [e]
theorem and_sign {d : Nat} (hd : d < 18446744073709551616) : ibits .and .u64 (d : Int) 9223372036854775808 = if 9223372036854775808 ≤ d then 9223372036854775808 else 0 := by
  rw [ibits_and_u64 ⟨by omega, by omega⟩ (by decide), Int.toNat_natCast]
  have e : (9223372036854775808 : Int).toNat = 2 ^ 63 := by decide
  rw [e, and_bit]
  have e2 : (2 : Nat) ^ 63 = 9223372036854775808 := by decide
  rw [e2]
  split <;> omega
theorem andNot_sign {d : Nat} (hd : d < 18446744073709551616) : ibits .andNot .u64 (d : Int) 9223372036854775808 = (absD d : Int) := by
  rw [ibits_andNot_u64 ⟨by omega, by omega⟩ (by decide), Int.toNat_natCast]
  have e : (9223372036854775808 : Int).toNat = 2 ^ 63 := by decide
  rw [e, and_bit]
  have e2 : (2 : Nat) ^ 63 = 9223372036854775808 := by decide
  rw [e2]
  unfold absD
  omega
theorem and_frac {d : Nat} (hd : d < 18446744073709551616) : ibits .and .u64 (d : Int) 4503599627370495 = (fracD d : Int) := by
  have h := and_low 52 (by decide) (a := (d : Int)) ⟨by omega, by omega⟩
  rw [show (((2 ^ 52 - 1 : Nat)) : Int) = 4503599627370495 from rfl] at h
  rw [h]
  unfold fracD
  have e2 : (2 : Int) ^ 52 = 4503599627370496 := by decide
  rw [e2]
  omega
theorem or_hidden {f : Nat} (hf : f < 4503599627370496) : ibits .or .u64 4503599627370496 (f : Int) = ((4503599627370496 + f : Nat) : Int) := by
  rw [ibits_or_u64 (by decide) ⟨by omega, by omega⟩, Int.toNat_natCast]
  have h := Nat.two_pow_add_eq_or_of_lt (i := 52) (b := f) (by simpa using hf) 1
  have e : (4503599627370496 : Int).toNat = 2 ^ 52 * 1 := by decide
  rw [e, ← h]
theorem and_field {x : Nat} (hx : x < 4096) : ibits .and .u64 (x : Int) 2047 = ((x % 2048 : Nat) : Int) := by
  have h := and_low 11 (by decide) (a := (x : Int)) ⟨by omega, by omega⟩
  rw [show (((2 ^ 11 - 1 : Nat)) : Int) = 2047 from rfl] at h
  rw [h]
  have e2 : (2 : Int) ^ 11 = 2048 := by decide
  rw [e2]
  omega
theorem shr_52 {d : Nat} : d / 4503599627370496 % 2048 = fieldD d := by unfold fieldD absD; omega
def tzRen : Go.Shelf.Ren := ⟨fun | 29 => 168 | n => n, fun | 0 => 0 | 3 => 3 | 4 => 4 | 5 => 5 | 22 => 25 | 25 => 65 | 54 => 174 | n => n, fun | 1 => 5 | n => n⟩
theorem tzLays : Go.Proofs.Lays7.n29 Tryz.prog tzRen := {
  mixed := by kernel_rfl
  f29 := Tryz.func168.trans (congrArg some (by kernel_rfl))
  t0 := Tryz.underlying0
  a0 := Tryz.isAgg0
  z0 := Tryz.sizeOf0
  v0 := Tryz.zeroValue0
  i0 := by kernel_rfl
  t3 := Tryz.underlying3
  a3 := Tryz.isAgg3
  z3 := Tryz.sizeOf3
  v3 := Tryz.zeroValue3
  i3 := by kernel_rfl
  t4 := Tryz.underlying4
  a4 := Tryz.isAgg4
  z4 := Tryz.sizeOf4
  v4 := Tryz.zeroValue4
  i4 := by kernel_rfl
  t5 := Tryz.underlying5
  a5 := Tryz.isAgg5
  z5 := Tryz.sizeOf5
  v5 := Tryz.zeroValue5
  i5 := by kernel_rfl
  t22 := Tryz.underlying25
  a22 := Tryz.isAgg25
  z22 := Tryz.sizeOf25
  v22 := Tryz.zeroValue25
  i22 := by kernel_rfl
  t25 := Tryz.underlying65
  a25 := Tryz.isAgg65
  z25 := Tryz.sizeOf65
  v25 := Tryz.zeroValue65
  i25 := by kernel_rfl
  t54 := Tryz.underlying174
  a54 := Tryz.isAgg174
  z54 := Tryz.sizeOf174
  g1 := by kernel_rfl }
theorem trailing64 (x : Nat) (hx : x < 18446744073709551616) : Meets Tryz.prog 168 [.int .u64 (x : Int)] (.int .i64 ((Lib.ctz 64 x : Nat) : Int)) := by
  refine ⟨fun w A vs hA hl ha => .inl ⟨call_enters Tryz.func168 (by kernel_rfl) (c := _) rfl vs w, ?_⟩⟩
  have hs : vs.size = 1 := by simpa using hl.symm
  obtain ⟨v, rfl⟩ : ∃ v, vs = #[v] := ⟨vs[0], Array.ext (by simp [hs]) fun i h1 h2 => by
    have : i = 0 := by omega
    subst this; rfl⟩
  have h0 := ha 0 (by simp)
  simp only [List.getD_cons_zero, Array.getD] at h0
  obtain rfl := rd_int h0
  obtain ⟨gl, hg, hn⟩ := Option.map_eq_some_iff.1 (show (Tryz.prog.globals[5]?).map (·.name) = some "math/bits.deBruijn64tab" by kernel_rfl)
  refine (Go.Proofs.Any7.bits_TrailingZeros64 tzLays x hx w fun _ j hj => (by
    have h := hA.1.cell (tab := (.u8, Lib.deBruijn64tab.map fun k : Nat => (k : Int))) hg (by rw [hn]; rfl) j (by simpa using hj)
    refine h.trans ?_
    simp [List.getD_eq_getElem?_getD, hj])).mono fun e w' ⟨he, hw⟩ => ⟨_, he, ?_⟩
  rw [hw]
  exact ⟨Go.RowKit.Below.refl _ _, .int _ _⟩
theorem ctz_spec {x : Nat} (h0 : x ≠ 0) (hx : x < 18446744073709551616) : Lib.ctz 64 x < 64 ∧ ∃ m, x = 2 ^ Lib.ctz 64 x * (2 * m + 1) := by
  unfold Lib.ctz
  rw [if_neg h0]
  obtain ⟨m, h1, h2⟩ := Lib.ctzFrom_spec 64 x (by omega) (by simpa using hx)
  exact ⟨h2, m, h1⟩
end Go.Proofs.YtmoilbeomnapfaaGreatDoor

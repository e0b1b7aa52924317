/- Contracts and laws that the row leans on, part 9: texts that were built one by one, laid together. -/
import Derived.Test.YtbmhnjghpjkjpaaGreatDoorPart8
import Derived.Test.YtbmhnjghpjkjpaaGreatDoorPart6
import Derived.Shelf.Small.Strs
import Derived.Shelf.Strconv.Clone
import Derived.Shelf.Strings.Search1
import Derived.Test.YtbmhnjghpjkjpaaGreatDoorProg
import Derived.Test.YtbmhnjghpjkjpaaGreatDoorPart4
set_option maxHeartbeats 4000000
set_option maxRecDepth 4000
set_option exponentiation.threshold 300000
set_option linter.unusedVariables false
set_option linter.unusedSimpArgs false
namespace Go.Proofs.YtbmhnjghpjkjpaaGreatDoor
open Go Go.PV
abbrev tenL : List PV := [.int .u64 1, .int .u64 10, .int .u64 100, .int .u64 1000, .int .u64 10000, .int .u64 100000, .int .u64 1000000, .int .u64 10000000, .int .u64 100000000, .int .u64 1000000000, .int .u64 10000000000, .int .u64 100000000000, .int .u64 1000000000000, .int .u64 10000000000000, .int .u64 100000000000000, .int .u64 1000000000000000, .int .u64 10000000000000000, .int .u64 100000000000000000, .int .u64 1000000000000000000, .int .u64 10000000000000000000]
theorem ten_at : ∀ i, i < 20 → tenL.getD i .undef = .int .u64 ((10 ^ i : Nat) : Int)
  | 0, _ => rfl | 1, _ => rfl | 2, _ => rfl | 3, _ => rfl | 4, _ => rfl | 5, _ => rfl | 6, _ => rfl | 7, _ => rfl | 8, _ => rfl | 9, _ => rfl
  | 10, _ => rfl | 11, _ => rfl | 12, _ => rfl | 13, _ => rfl | 14, _ => rfl | 15, _ => rfl | 16, _ => rfl | 17, _ => rfl | 18, _ => rfl | 19, _ => rfl
  | n + 20, h => by omega
theorem quick_tens (i : Nat) (hi : i < 20) : Meets Tryz.prog 97 [.int .i64 (i : Int)] (.int .u64 ((10 ^ i : Nat) : Int)) := by
  have h := ten_at i hi
  have h2 : ([PV.int .u64 1, .int .u64 10, .int .u64 100, .int .u64 1000, .int .u64 10000, .int .u64 100000, .int .u64 1000000, .int .u64 10000000, .int .u64 100000000, .int .u64 1000000000, .int .u64 10000000000, .int .u64 100000000000, .int .u64 1000000000000, .int .u64 10000000000000, .int .u64 100000000000000, .int .u64 1000000000000000, .int .u64 10000000000000000, .int .u64 100000000000000000, .int .u64 1000000000000000000, .int .u64 10000000000000000000] : List PV).getD i .undef = .int .u64 ((10 ^ i : Nat) : Int) := h
  refine meets_by ttOk Tryz.func97 Tryz.ntmps97 Tryz.results97 (by kernel_rfl) (c := _) rfl rfl rfl fun E => ?_
  simp only [argsFrame]
  repeat' first
    | (with_reducible first | refine PW.seq ?_ | refine PW.block ?_ | refine PW.fork ?_ | refine PW.skip ?_ | refine PW.exit ?_ | refine PW.ret ?_ | refine PW.scope ?_ | refine PW.label ?_ | refine PW.goto ?_) | (simp only [h2, Nat.mul_one, Nat.zero_add, Int.toNat_natCast])
    | (with_reducible refine PW.region ttOk ?_ ?_
       · rfl)
    | (with_reducible refine PW.regionD ttOk mixed ?_ ?_ ?_
       · rfl
       · rfl) | (with_reducible refine ifW_dec (fun g => ?_) (fun g => ?_) <;> first | (exfalso; omega) | (simp -dsimp only [g, wkI])) | (with_reducible refine condE_dec (fun g => ?_) (fun g => ?_) <;> try (exfalso; omega)) | (with_reducible refine condE_not (fun g => ?_) (fun g => ?_) <;> try (exfalso; omega)) | (simp -dsimp only [↓wkA, ↓wkE, ↓wkJ, wkB, ↓tt, Nat.reduceBEq, Nat.reduceEqDiff, ↓reduceIte, Nat.reduceLT, Array.toList, Nat.reduceAdd, Nat.reduceMul, Int.reduceToNat, Int.reducePow, UInt8.reduceToNat]) | (simp -dsimp (disch := first | assumption | omega) only [dec_t, dec_f])
    | (refine And.intro ?_ ?_
       · first | omega | decide | (simp (disch := omega) only [wkW, Int.reduceToNat, Int.reducePow] <;> omega) | (simp <;> omega)) | (simp (disch := omega) only [wkW, Int.reduceToNat, Int.reducePow]) | fail
theorem quick_limbs (lo hi : Int) : Meets Tryz.prog 145 [.ints .u64 [lo, hi]] (.agg [.int .u64 hi, .int .u64 lo]) := by
  refine meets_by ttOk Tryz.func145 Tryz.ntmps145 Tryz.results145 (by kernel_rfl) (c := _) rfl rfl rfl fun E => ?_
  simp only [argsFrame]
  repeat' first
    | (with_reducible first | refine PW.seq ?_ | refine PW.block ?_ | refine PW.fork ?_ | refine PW.skip ?_ | refine PW.exit ?_ | refine PW.ret ?_ | refine PW.scope ?_ | refine PW.label ?_ | refine PW.goto ?_)
    | (with_reducible refine PW.region ttOk ?_ ?_
       · rfl)
    | (with_reducible refine PW.regionD ttOk mixed ?_ ?_ ?_
       · rfl
       · rfl) | (with_reducible refine ifW_dec (fun g => ?_) (fun g => ?_) <;> first | (exfalso; omega) | (simp -dsimp only [g, wkI])) | (with_reducible refine condE_dec (fun g => ?_) (fun g => ?_) <;> try (exfalso; omega)) | (with_reducible refine condE_not (fun g => ?_) (fun g => ?_) <;> try (exfalso; omega)) | (simp -dsimp only [↓wkA, ↓wkE, ↓wkJ, wkB, ↓tt, Nat.reduceBEq, Nat.reduceEqDiff, ↓reduceIte, Nat.reduceLT, Array.toList, Nat.reduceAdd, Nat.reduceMul, Int.reduceToNat, Int.reducePow, UInt8.reduceToNat]) | (simp -dsimp (disch := first | assumption | omega) only [dec_t, dec_f])
    | (refine And.intro ?_ ?_
       · first | omega | decide | (simp (disch := omega) only [wkW, Int.reduceToNat, Int.reducePow] <;> omega) | (simp <;> omega)) | (simp (disch := omega) only [wkW, Int.reduceToNat, Int.reducePow]) | fail
theorem quick_next (v v' c : Nat) (hv : v < 340282366920938463463374607431768211456) (hv' : v + 1 = c * 340282366920938463463374607431768211456 + v') (hlt : v' < 340282366920938463463374607431768211456) : Meets Tryz.prog 103 [.agg [.int .u64 ((v / 18446744073709551616 : Nat) : Int), .int .u64 ((v % 18446744073709551616 : Nat) : Int)]] (.tup [.int .u64 (c : Int), .agg [.int .u64 ((v' / 18446744073709551616 : Nat) : Int), .int .u64 ((v' % 18446744073709551616 : Nat) : Int)]]) := by
  have h1 := add64 (x := ((v % 18446744073709551616 : Nat) : Int)) (y := 1) (c := 0) (by omega) (by decide) (by decide)
  have h2 := add64 (x := ((v / 18446744073709551616 : Nat) : Int)) (y := 0) (c := (((v % 18446744073709551616 : Nat) : Int) + 1 + 0) / 18446744073709551616) (by omega) (by decide) (by omega)
  have e1 : (((v % 18446744073709551616 : Nat) : Int) + 1 + 0) % 18446744073709551616 = ((v' % 18446744073709551616 : Nat) : Int) := by omega
  have e2 : (((v / 18446744073709551616 : Nat) : Int) + 0 + (((v % 18446744073709551616 : Nat) : Int) + 1 + 0) / 18446744073709551616) % 18446744073709551616 = ((v' / 18446744073709551616 : Nat) : Int) := by omega
  have e3 : (((v / 18446744073709551616 : Nat) : Int) + 0 + (((v % 18446744073709551616 : Nat) : Int) + 1 + 0) / 18446744073709551616) / 18446744073709551616 = (c : Int) := by omega
  rw [e1] at h1
  rw [e2, e3] at h2
  clear e1 e2 e3 hv hv' hlt
  generalize ((v' / 18446744073709551616 : Nat) : Int) = a' at *
  generalize ((v' % 18446744073709551616 : Nat) : Int) = b' at *
  generalize ((v / 18446744073709551616 : Nat) : Int) = a at *
  generalize ((v % 18446744073709551616 : Nat) : Int) = b at *
  generalize (b + 1 + 0) / 18446744073709551616 = k at *
  refine meets_by ttOk Tryz.func103 Tryz.ntmps103 Tryz.results103 (by kernel_rfl) (c := _) rfl rfl rfl fun E => ?_
  simp only [argsFrame]
  repeat' first
    | (with_reducible first | refine PW.seq ?_ | refine PW.block ?_ | refine PW.fork ?_ | refine PW.skip ?_ | refine PW.exit ?_ | refine PW.ret ?_ | refine PW.scope ?_ | refine PW.label ?_ | refine PW.goto ?_)
    | (with_reducible refine PW.region ttOk ?_ ?_
       · rfl)
    | (with_reducible refine PW.regionD ttOk mixed ?_ ?_ ?_
       · rfl
       · rfl) | (with_reducible refine ifW_dec (fun g => ?_) (fun g => ?_) <;> first | (exfalso; omega) | (simp -dsimp only [g, wkI])) | (with_reducible refine condE_dec (fun g => ?_) (fun g => ?_) <;> try (exfalso; omega)) | (with_reducible refine condE_not (fun g => ?_) (fun g => ?_) <;> try (exfalso; omega)) | (simp -dsimp only [↓wkA, ↓wkE, ↓wkJ, wkB, ↓tt, Nat.reduceBEq, Nat.reduceEqDiff, ↓reduceIte, Nat.reduceLT, Array.toList, Nat.reduceAdd, Nat.reduceMul, Int.reduceToNat, Int.reducePow, UInt8.reduceToNat]) | (refine call_by (h1) (views_data rfl) ⟨trivial, trivial, trivial, trivial⟩ rfl ?_) | (refine call_by (h2) (views_data rfl) ⟨trivial, trivial, trivial, trivial⟩ rfl ?_) | (simp -dsimp (disch := first | assumption | omega) only [dec_t, dec_f])
    | (refine And.intro ?_ ?_
       · first | omega | decide | (simp (disch := omega) only [wkW, Int.reduceToNat, Int.reducePow] <;> omega) | (simp <;> omega)) | (simp (disch := omega) only [wkW, Int.reduceToNat, Int.reducePow]) | fail
def rowP (q : Int) : Nat := if 0 ≤ q then (if bitlen (5 ^ q.toNat) ≤ 128 then 5 ^ q.toNat * 2 ^ (128 - bitlen (5 ^ q.toNat)) else 5 ^ q.toNat / 2 ^ (bitlen (5 ^ q.toNat) - 128)) else 2 ^ (bitlen (5 ^ (-q).toNat) + 127) / 5 ^ (-q).toNat
def rowE (q : Int) : Int := if 0 ≤ q then (bitlen (5 ^ q.toNat) : Int) - 128 else -((bitlen (5 ^ (-q).toNat) : Int) + 127)
theorem five_odd (m : Nat) : 5 ^ m % 2 = 1 := by
  induction m with
  | zero => rfl
  | succ m ih => rw [Nat.pow_succ]; omega
theorem five_pos (m : Nat) : 0 < 5 ^ m := Nat.pow_pos (by decide)
theorem five_bits (m : Nat) : ∃ n, bitlen (5 ^ m) = n ∧ 1 ≤ n ∧ 2 ^ (n - 1) ≤ 5 ^ m ∧ 5 ^ m < 2 ^ n ∧ (m ≠ 0 → 2 ^ (n - 1) < 5 ^ m) := by
  obtain ⟨k, hk, h1, h2⟩ := bitlen_spec (n := 5 ^ m) (Nat.ne_of_gt (five_pos m))
  refine ⟨k + 1, hk, by omega, h1, h2, fun hm => ?_⟩
  rw [Nat.add_sub_cancel]
  refine Nat.lt_of_le_of_ne h1 fun e => ?_
  have ho := five_odd m
  have h5 : 5 ≤ 5 ^ m := by
    obtain ⟨j, rfl⟩ : ∃ j, m = j + 1 := ⟨m - 1, by omega⟩
    rw [Nat.pow_succ]
    have := five_pos j
    omega
  cases k with
  | zero => rw [Nat.pow_zero] at e; omega
  | succ k => rw [← e, Nat.pow_succ] at ho; omega
theorem five_len {m : Nat} (h : m ≤ 342) : bitlen (5 ^ m) ≤ 795 := by
  refine bitlen_le ?_
  refine Nat.lt_of_le_of_lt (Nat.pow_le_pow_right (by decide) h) ?_
  decide +kernel
theorem rowP_bounds (q : Int) : 2 ^ 127 ≤ rowP q ∧ rowP q < 2 ^ 128 := by
  unfold rowP
  by_cases hq : 0 ≤ q
  · rw [if_pos hq]
    obtain ⟨n, hn, h0, h1, h2, _⟩ := five_bits q.toNat
    rw [hn]
    generalize 5 ^ q.toNat = f at *
    by_cases hc : n ≤ 128
    · rw [if_pos hc]
      constructor
      · have := Nat.mul_le_mul_right (2 ^ (128 - n)) h1
        rw [← Nat.pow_add, show n - 1 + (128 - n) = 127 by omega] at this
        exact this
      · have := Nat.mul_lt_mul_of_pos_right h2 (Nat.two_pow_pos (128 - n))
        rw [← Nat.pow_add, show n + (128 - n) = 128 by omega] at this
        exact this
    · rw [if_neg hc]
      have hp := Nat.two_pow_pos (n - 128)
      constructor
      · rw [Nat.le_div_iff_mul_le hp, ← Nat.pow_add, show 127 + (n - 128) = n - 1 by omega]
        exact h1
      · rw [Nat.div_lt_iff_lt_mul hp, ← Nat.pow_add, show 128 + (n - 128) = n by omega]
        exact h2
  · rw [if_neg hq]
    obtain ⟨n, hn, h0, _, h2, h3⟩ := five_bits (-q).toNat
    have h3 := h3 (by omega)
    rw [hn]
    have hp := five_pos (-q).toNat
    generalize 5 ^ (-q).toNat = f at *
    constructor
    · rw [Nat.le_div_iff_mul_le hp, Nat.pow_add, Nat.mul_comm]
      exact Nat.mul_le_mul_right _ (Nat.le_of_lt h2)
    · rw [Nat.div_lt_iff_lt_mul hp, show n + 127 = 128 + (n - 1) by omega, Nat.pow_add]
      exact (Nat.mul_lt_mul_left (Nat.two_pow_pos 128)).2 h3
theorem two_limbs {P : Nat} (h1 : 2 ^ 127 ≤ P) (h2 : P < 2 ^ 128) : natL P = [((P % 18446744073709551616 : Nat) : Int), ((P / 18446744073709551616 : Nat) : Int)] := by
  have e1 : (2 : Nat) ^ 127 = 170141183460469231731687303715884105728 := by decide
  have e2 : (2 : Nat) ^ 128 = 340282366920938463463374607431768211456 := by decide
  rw [e1] at h1
  rw [e2] at h2
  unfold natL
  rw [digs_step (by decide) (by omega), digs_step (by decide) (by omega), Nat.div_div_eq_div_mul, Nat.div_eq_of_lt (show P < 18446744073709551616 * 18446744073709551616 by omega), digs_zero, Nat.mod_eq_of_lt (show P / 18446744073709551616 < 18446744073709551616 by omega)]
  rfl
abbrev wideV (P : Nat) : PV := .agg [.int .u64 ((P / 18446744073709551616 : Nat) : Int), .int .u64 ((P % 18446744073709551616 : Nat) : Int)]
theorem row_walk (q ab : Int) (hab : (if 0 - q > q then 0 - q else q) = ab) (hq : IntKind.wrap .i64 (0 - q) = 0 - q) (five R : List Int) (n : Int) (hn : 1 ≤ n ∧ n ≤ 800) (hi lo e : Int) (h5 : Meets Tryz.prog 75 [.int .i64 ab] (.tup [.ints .u64 five, .int .i64 0])) (hbl : Meets Tryz.prog 144 [.ints .u64 five] (.int .i64 n))
    (hlim : Meets Tryz.prog 145 [.ints .u64 R] (.agg [.int .u64 hi, .int .u64 lo]))
    (hc : (0 ≤ q ∧ n ≤ 128 ∧ e = n - 128 ∧ Meets Tryz.prog 39 [.ints .u64 five, .int .i64 (128 - n)] (.tup [.ints .u64 R, .int .i64 0])) ∨ (0 ≤ q ∧ ¬ n ≤ 128 ∧ e = n - 128 ∧ ∃ b : Bool, Meets Tryz.prog 146 [.ints .u64 five, .int .i64 (n - 128)] (.tup [.ints .u64 R, .bool b, .int .i64 0])) ∨
      (q < 0 ∧ e = -(n + 127) ∧ ∃ one rest : List Int, Meets Tryz.prog 39 [.ints .u64 [1], .int .i64 (n + 127)] (.tup [.ints .u64 one, .int .i64 0]) ∧ Meets Tryz.prog 147 [.ints .u64 one, .ints .u64 five] (.tup [.ints .u64 R, .ints .u64 rest, .int .i64 0]))) :
    Meets Tryz.prog 100 [.int .i64 q] (.tup [.agg [.int .u64 hi, .int .u64 lo], .int .i64 e]) := by
  have w1 : IntKind.wrap .i64 (128 - n) = 128 - n := wrap_i64 (by omega)
  have w2 : IntKind.wrap .i64 (n - 128) = n - 128 := wrap_i64 (by omega)
  have w3 : IntKind.wrap .i64 (n + 127) = n + 127 := wrap_i64 (by omega)
  have w4 : IntKind.wrap .i64 (0 - (n + 127)) = -(n + 127) := by rw [wrap_i64 (by omega)]; omega
  rcases hc with ⟨c1, c2, rfl, hs⟩ | ⟨c1, c2, rfl, b, hs⟩ | ⟨c1, rfl, one, rest, hs, hd⟩
  · have d1 : decide (0 ≤ q) = true := decide_eq_true c1
    have d2 : decide (n ≤ 128) = true := decide_eq_true c2
    refine meets_by ttOk Tryz.func100 Tryz.ntmps100 Tryz.results100 (by kernel_rfl) (c := _) rfl rfl rfl fun E => ?_
    simp only [argsFrame]
    repeat' first
      | (with_reducible first | refine PW.seq ?_ | refine PW.block ?_ | refine PW.fork ?_ | refine PW.skip ?_ | refine PW.exit ?_ | refine PW.ret ?_ | refine PW.scope ?_ | refine PW.label ?_ | refine PW.goto ?_) | (simp only [hab, hq, w1, w2, d1, d2])
      | (with_reducible refine PW.region ttOk ?_ ?_
         · rfl)
      | (with_reducible refine PW.regionD ttOk mixed ?_ ?_ ?_
         · rfl
         · rfl) | (with_reducible refine ifW_dec (fun g => ?_) (fun g => ?_) <;> first | (exfalso; omega) | (simp -dsimp only [g, wkI])) | (with_reducible refine condE_dec (fun g => ?_) (fun g => ?_) <;> try (exfalso; omega)) | (with_reducible refine condE_not (fun g => ?_) (fun g => ?_) <;> try (exfalso; omega)) | (simp -dsimp only [↓wkA, ↓wkE, ↓wkJ, wkB, ↓tt, Nat.reduceBEq, Nat.reduceEqDiff, ↓reduceIte, Nat.reduceLT, Array.toList, Nat.reduceAdd, Nat.reduceMul, Int.reduceToNat, Int.reducePow, UInt8.reduceToNat]) | (refine call_by (h5) (views_data rfl) ⟨trivial, trivial⟩ rfl ?_) | (refine call_by (hbl) (views_data rfl) ⟨trivial, trivial⟩ rfl ?_) | (refine call_by (hs) (views_data rfl) ⟨trivial, trivial, trivial⟩ rfl ?_) | (refine call_by (hlim) (views_data rfl) ⟨trivial, trivial⟩ rfl ?_) | (simp -dsimp (disch := first | assumption | omega) only [dec_t, dec_f])
      | (refine And.intro ?_ ?_
         · first | omega | decide | (simp (disch := omega) only [wkW, Int.reduceToNat, Int.reducePow] <;> omega) | (simp <;> omega)) | (simp (disch := omega) only [wkW, Int.reduceToNat, Int.reducePow]) | fail
  · have d1 : decide (0 ≤ q) = true := decide_eq_true c1
    have d2 : decide (n ≤ 128) = false := decide_eq_false c2
    refine meets_by ttOk Tryz.func100 Tryz.ntmps100 Tryz.results100 (by kernel_rfl) (c := _) rfl rfl rfl fun E => ?_
    simp only [argsFrame]
    repeat' first
      | (with_reducible first | refine PW.seq ?_ | refine PW.block ?_ | refine PW.fork ?_ | refine PW.skip ?_ | refine PW.exit ?_ | refine PW.ret ?_ | refine PW.scope ?_ | refine PW.label ?_ | refine PW.goto ?_) | (simp only [hab, hq, w1, w2, d1, d2])
      | (with_reducible refine PW.region ttOk ?_ ?_
         · rfl)
      | (with_reducible refine PW.regionD ttOk mixed ?_ ?_ ?_
         · rfl
         · rfl) | (with_reducible refine ifW_dec (fun g => ?_) (fun g => ?_) <;> first | (exfalso; omega) | (simp -dsimp only [g, wkI])) | (with_reducible refine condE_dec (fun g => ?_) (fun g => ?_) <;> try (exfalso; omega)) | (with_reducible refine condE_not (fun g => ?_) (fun g => ?_) <;> try (exfalso; omega)) | (simp -dsimp only [↓wkA, ↓wkE, ↓wkJ, wkB, ↓tt, Nat.reduceBEq, Nat.reduceEqDiff, ↓reduceIte, Nat.reduceLT, Array.toList, Nat.reduceAdd, Nat.reduceMul, Int.reduceToNat, Int.reducePow, UInt8.reduceToNat]) | (refine call_by (h5) (views_data rfl) ⟨trivial, trivial⟩ rfl ?_) | (refine call_by (hbl) (views_data rfl) ⟨trivial, trivial⟩ rfl ?_) | (refine call_by (hs) (views_data rfl) ⟨trivial, trivial, trivial⟩ rfl ?_) | (refine call_by (hlim) (views_data rfl) ⟨trivial, trivial⟩ rfl ?_) | (simp -dsimp (disch := first | assumption | omega) only [dec_t, dec_f])
      | (refine And.intro ?_ ?_
         · first | omega | decide | (simp (disch := omega) only [wkW, Int.reduceToNat, Int.reducePow] <;> omega) | (simp <;> omega)) | (simp (disch := omega) only [wkW, Int.reduceToNat, Int.reducePow]) | fail
  · have d1 : decide (0 ≤ q) = false := decide_eq_false (by omega)
    refine meets_by ttOk Tryz.func100 Tryz.ntmps100 Tryz.results100 (by kernel_rfl) (c := _) rfl rfl rfl fun E => ?_
    simp only [argsFrame]
    repeat' first
      | (with_reducible first | refine PW.seq ?_ | refine PW.block ?_ | refine PW.fork ?_ | refine PW.skip ?_ | refine PW.exit ?_ | refine PW.ret ?_ | refine PW.scope ?_ | refine PW.label ?_ | refine PW.goto ?_) | (simp only [hab, hq, w3, w4, d1])
      | (with_reducible refine PW.region ttOk ?_ ?_
         · rfl)
      | (with_reducible refine PW.regionD ttOk mixed ?_ ?_ ?_
         · rfl
         · rfl) | (with_reducible refine ifW_dec (fun g => ?_) (fun g => ?_) <;> first | (exfalso; omega) | (simp -dsimp only [g, wkI])) | (with_reducible refine condE_dec (fun g => ?_) (fun g => ?_) <;> try (exfalso; omega)) | (with_reducible refine condE_not (fun g => ?_) (fun g => ?_) <;> try (exfalso; omega)) | (simp -dsimp only [↓wkA, ↓wkE, ↓wkJ, wkB, ↓tt, Nat.reduceBEq, Nat.reduceEqDiff, ↓reduceIte, Nat.reduceLT, Array.toList, Nat.reduceAdd, Nat.reduceMul, Int.reduceToNat, Int.reducePow, UInt8.reduceToNat]) | (refine call_by (h5) (views_data rfl) ⟨trivial, trivial⟩ rfl ?_) | (refine call_by (hbl) (views_data rfl) ⟨trivial, trivial⟩ rfl ?_) | (refine call_by' (args' := [.ints .u64 [1], .int .i64 (n + 127)]) (by simp -dsimp only [↓wkA, ↓wkE, ↓wkJ, wkB, ↓tt, Nat.reduceBEq, Nat.reduceEqDiff, ↓reduceIte, Nat.reduceLT, Array.toList, Nat.reduceAdd, Nat.reduceMul, Int.reduceToNat, Int.reducePow, UInt8.reduceToNat]) hs (by simp -dsimp only [okViews, okView, okViews0, okView0, ↓wkA, ↓wkE, ↓wkJ, wkB, ↓tt, Nat.reduceBEq, Nat.reduceEqDiff, ↓reduceIte, Nat.reduceLT, Array.toList, Nat.reduceAdd, Nat.reduceMul, Int.reduceToNat, Int.reducePow, UInt8.reduceToNat] <;> decide) rfl ?_) | (refine call_drop (args' := [.ints .u64 [1], .int .i64 (n + 127)]) (by simp -dsimp only [↓wkA, ↓wkE, ↓wkJ, wkB, ↓tt, Nat.reduceBEq, Nat.reduceEqDiff, ↓reduceIte, Nat.reduceLT, Array.toList, Nat.reduceAdd, Nat.reduceMul, Int.reduceToNat, Int.reducePow, UInt8.reduceToNat]) hs (by simp -dsimp only [okViews, okView, okViews0, okView0, ↓wkA, ↓wkE, ↓wkJ, wkB, ↓tt, Nat.reduceBEq, Nat.reduceEqDiff, ↓reduceIte, Nat.reduceLT, Array.toList, Nat.reduceAdd, Nat.reduceMul, Int.reduceToNat, Int.reducePow, UInt8.reduceToNat] <;> decide) rfl ?_; simp only [wkD, Nat.reduceBEq]) | (refine call_by (hd) (views_data rfl) ⟨trivial, trivial, trivial⟩ rfl ?_) | (refine call_by (hlim) (views_data rfl) ⟨trivial, trivial⟩ rfl ?_) | (simp -dsimp (disch := first | assumption | omega) only [dec_t, dec_f])
      | (refine And.intro ?_ ?_
         · first | omega | decide | (simp (disch := omega) only [wkW, Int.reduceToNat, Int.reducePow] <;> omega) | (simp <;> omega)) | (simp (disch := omega) only [wkW, Int.reduceToNat, Int.reducePow]) | fail
theorem quick_row (q : Int) (hq : -342 ≤ q ∧ q ≤ 308) : Meets Tryz.prog 100 [.int .i64 q] (.tup [wideV (rowP q), .int .i64 (rowE q)]) := by
  obtain ⟨b1, b2⟩ := rowP_bounds q
  have hlim := quick_limbs ((rowP q % 18446744073709551616 : Nat) : Int) ((rowP q / 18446744073709551616 : Nat) : Int)
  rw [← two_limbs b1 b2] at hlim
  have hw : IntKind.wrap .i64 (0 - q) = 0 - q := wrap_i64 (by omega)
  have hM : ∀ {m : Nat}, m ≤ 342 → 5 ^ m < NMax := fun h => nmax_of (bitlen_lt (five_len h)) (by decide)
  by_cases h0 : 0 ≤ q
  · obtain ⟨m, rfl⟩ := Int.eq_ofNat_of_zero_le h0
    have h5 := pow5_ok m (by omega) (hM (by omega))
    have hbl := nat_bitlen (5 ^ m) (hM (by omega))
    have hlen := five_len (m := m) (by omega)
    obtain ⟨n, hn, hn1, n1, n2, _⟩ := five_bits m
    have hP : rowP (m : Int) = if n ≤ 128 then 5 ^ m * 2 ^ (128 - n) else 5 ^ m / 2 ^ (n - 128) := by
      unfold rowP; rw [if_pos h0, Int.toNat_natCast, hn]
    have hE : rowE (m : Int) = (n : Int) - 128 := by unfold rowE; rw [if_pos h0, Int.toNat_natCast, hn]
    rw [hn] at hbl hlen
    refine row_walk (m : Int) (m : Int) (if_neg (by omega)) hw _ _ (n : Int) ⟨by omega, by omega⟩ _ _ _ h5 hbl hlim ?_
    rw [hE]
    by_cases hc : n ≤ 128
    · refine .inl ⟨h0, by omega, rfl, ?_⟩
      rw [hP, if_pos hc] at b2 ⊢
      have hs := shl_nat (u := 5 ^ m) (n := 128 - n) (hM (by omega)) (by omega) (nmax_of b2 (by decide))
      rw [show (((128 - n : Nat) : Nat) : Int) = 128 - (n : Int) by omega] at hs
      exact hs
    · refine .inr (.inl ⟨h0, by omega, rfl, decide (5 ^ m % 2 ^ (n - 128) ≠ 0), ?_⟩)
      rw [hP, if_neg hc]
      have hs := nat_shr (u := 5 ^ m) (n := n - 128) (hM (by omega)) (by omega)
      rw [show (((n - 128 : Nat) : Nat) : Int) = (n : Int) - 128 by omega] at hs
      exact hs
  · obtain ⟨m, hm⟩ : ∃ m : Nat, -q = (m : Int) := ⟨(-q).toNat, by omega⟩
    have h5 := pow5_ok m (by omega) (hM (by omega))
    have hbl := nat_bitlen (5 ^ m) (hM (by omega))
    have hlen := five_len (m := m) (by omega)
    have hmq : (-q).toNat = m := by omega
    obtain ⟨n, hn, hn1, n1, n2, _⟩ := five_bits m
    have hP : rowP q = 2 ^ (n + 127) / 5 ^ m := by unfold rowP; rw [if_neg h0, hmq, hn]
    have hE : rowE q = -((n : Int) + 127) := by unfold rowE; rw [if_neg h0, hmq, hn]
    rw [hn] at hbl hlen
    refine row_walk q (m : Int) (by rw [if_pos (by omega)]; omega) hw _ _ (n : Int) ⟨by omega, by omega⟩ _ _ _ h5 hbl hlim (.inr (.inr ⟨by omega, hE, natL (2 ^ (n + 127)), natL (2 ^ (n + 127) % 5 ^ m), ?_, ?_⟩))
    · have hpw : 2 ^ (n + 127) < NMax := nmax_of (k := 1000) (Nat.pow_lt_pow_right (by decide) (by omega)) (by decide)
      have hs := shl_nat (u := 1) (n := n + 127) (by have := nmax_of (v := 1) (k := 1) (by decide) (by decide); exact this) (by omega) (by rw [Nat.one_mul]; exact hpw)
      rw [Nat.one_mul, natL_oneL] at hs
      exact hs
    · rw [hP]
      have hpw : 2 ^ (n + 127) < NMax := nmax_of (k := 1000) (Nat.pow_lt_pow_right (by decide) (by omega)) (by decide)
      exact div_mod hpw (hM (by omega)) (Nat.ne_of_gt (five_pos m))
abbrev exF (i q : Nat) : PV.Frame := [(16, .int .i64 (i : Int)), (15, .int .i64 (q : Int)), (5, .ptr 1 0 0), (3, .ptr 0 0 0)]
abbrev exG : PV.Frame := [(5, .ptr 1 0 0), (3, .ptr 0 0 0)]
abbrev exH (hi lo v : Nat) : PV.Heap := ⟨2, [(0, .var [.int .u64 (hi : Int), .int .u64 (lo : Int)]), (1, .var [.int .u64 ((v / 18446744073709551616 : Nat) : Int), .int .u64 ((v % 18446744073709551616 : Nat) : Int)])], [], []⟩
theorem five55 {m : Nat} (h : m ≤ 55) : 5 ^ m < 340282366920938463463374607431768211456 :=
  Nat.lt_of_le_of_lt (Nat.pow_le_pow_right (by decide) h) (by decide)
theorem exact_no (q : Int) (p0 p1 : Int) (h : q < 0 ∨ 55 < q) : Meets Tryz.prog 102 [.int .i64 q, .agg [.int .u64 p0, .int .u64 p1]] (.bool false) := by
  rcases h with h | h
  all_goals (refine meets_by ttOk Tryz.func102 Tryz.ntmps102 Tryz.results102 (by kernel_rfl) (c := _) rfl rfl rfl fun E => ?_; simp only [argsFrame])
  all_goals
    repeat' first
      | (with_reducible first | refine PW.seq ?_ | refine PW.block ?_ | refine PW.fork ?_ | refine PW.skip ?_ | refine PW.exit ?_ | refine PW.ret ?_ | refine PW.scope ?_ | refine PW.label ?_ | refine PW.goto ?_)
      | (with_reducible refine PW.region ttOk ?_ ?_
         · rfl)
      | (with_reducible refine PW.regionD ttOk mixed ?_ ?_ ?_
         · rfl
         · rfl) | (with_reducible refine ifW_dec (fun g => ?_) (fun g => ?_) <;> first | (exfalso; omega) | (simp -dsimp only [g, wkI])) | (with_reducible refine condE_dec (fun g => ?_) (fun g => ?_) <;> try (exfalso; omega)) | (with_reducible refine condE_not (fun g => ?_) (fun g => ?_) <;> try (exfalso; omega)) | (simp -dsimp only [↓wkA, ↓wkE, ↓wkJ, wkB, ↓tt, Nat.reduceBEq, Nat.reduceEqDiff, ↓reduceIte, Nat.reduceLT, Array.toList, Nat.reduceAdd, Nat.reduceMul, Int.reduceToNat, Int.reducePow, UInt8.reduceToNat]) | (simp -dsimp (disch := first | assumption | omega) only [dec_t, dec_f])
      | (refine And.intro ?_ ?_
         · first | omega | decide | (simp (disch := omega) only [wkW, Int.reduceToNat, Int.reducePow] <;> omega) | (simp <;> omega)) | (simp (disch := omega) only [wkW, Int.reduceToNat, Int.reducePow]) | fail
theorem exact_yes (q P hi lo : Nat) (hq : q ≤ 55) (hP : rowP (q : Int) = P) (hhi : P / 18446744073709551616 = hi) (hlo : P % 18446744073709551616 = lo) : Meets Tryz.prog 102 [.int .i64 (q : Int), .agg [.int .u64 (hi : Int), .int .u64 (lo : Int)]] (.bool true) := by
  obtain ⟨n, hn, hn1, n1, n2, _⟩ := five_bits q
  have hend : ∀ s v : Nat, v = 5 ^ q * 2 ^ s → 170141183460469231731687303715884105728 ≤ v → v < 340282366920938463463374607431768211456 → v = P := fun s v hv h1 h2 => by
    have e1 : (170141183460469231731687303715884105728 : Nat) = 2 ^ 127 := by decide
    have e2 : (340282366920938463463374607431768211456 : Nat) = 2 ^ 128 := by decide
    rw [e1] at h1
    rw [e2] at h2
    have k1 : 2 ^ (n - 1 + s) < 2 ^ 128 := by
      rw [Nat.pow_add]
      exact Nat.lt_of_le_of_lt (Nat.mul_le_mul_right _ n1) (by rw [← hv]; exact h2)
    have k2 : 2 ^ 127 < 2 ^ (n + s) := by
      rw [Nat.pow_add]
      exact Nat.lt_of_le_of_lt h1 (by rw [hv]; exact Nat.mul_lt_mul_of_pos_right n2 (Nat.two_pow_pos s))
    have k3 := (Nat.pow_lt_pow_iff_right (by decide)).1 k1
    have k4 := (Nat.pow_lt_pow_iff_right (by decide)).1 k2
    have hns : 128 - n = s := by omega
    rw [← hP]
    unfold rowP
    rw [if_pos (by omega), Int.toNat_natCast, hn, if_pos (by omega), hns]
    exact hv
  have d1 : decide ((q : Int) < 0) = false := decide_eq_false (by omega)
  have d2 : decide (55 < (q : Int)) = false := decide_eq_false (by omega)
  refine meets_by ttOk Tryz.func102 Tryz.ntmps102 Tryz.results102 (by kernel_rfl) (c := _) rfl rfl rfl fun E => ?_
  simp only [argsFrame]
  repeat' first
    | (with_reducible first | refine PW.seq ?_ | refine PW.block ?_ | refine PW.fork ?_ | refine PW.skip ?_ | refine PW.exit ?_ | refine PW.ret ?_ | refine PW.scope ?_ | refine PW.label ?_ | refine PW.goto ?_) | (simp only [d1, d2])
    | (with_reducible refine PW.region ttOk ?_ ?_
       · rfl)
    | (with_reducible refine PW.regionD ttOk mixed ?_ ?_ ?_
       · rfl
       · rfl) | (with_reducible refine ifW_dec (fun g => ?_) (fun g => ?_) <;> first | (exfalso; omega) | (simp -dsimp only [g, wkI])) | (with_reducible refine condE_dec (fun g => ?_) (fun g => ?_) <;> try (exfalso; omega)) | (with_reducible refine condE_not (fun g => ?_) (fun g => ?_) <;> try (exfalso; omega)) | (simp -dsimp only [↓wkA, ↓wkE, ↓wkJ, wkB, ↓tt, Nat.reduceBEq, Nat.reduceEqDiff, ↓reduceIte, Nat.reduceLT, Array.toList, Nat.reduceAdd, Nat.reduceMul, Int.reduceToNat, Int.reducePow, UInt8.reduceToNat]) | (simp -dsimp (disch := first | assumption | omega) only [dec_t, dec_f])
    | (refine And.intro ?_ ?_
       · first | omega | decide | (simp (disch := omega) only [wkW, Int.reduceToNat, Int.reducePow] <;> omega) | (simp <;> omega)) | (simp (disch := omega) only [wkW, Int.reduceToNat, Int.reducePow]) | fail
  refine PW.loopA (fun m F H => ∃ i, i + m = q ∧ F = exF i q ∧ H = exH hi lo (5 ^ i)) q (exF 0 q) (exH hi lo (5 ^ 0)) (Sub.norm ⟨rfl, rfl, rfl, rfl, trivial⟩ ⟨rfl, rfl, trivial⟩ (Nat.le_refl _) rfl rfl rfl rfl) ⟨0, by omega, rfl, rfl⟩ ?_
  rintro m F H ⟨i, hi', rfl, rfl⟩
  cases m with
  | zero =>
    obtain rfl : i = q := by omega
    repeat' first
      | (with_reducible first | refine PW.seq ?_ | refine PW.block ?_ | refine PW.fork ?_ | refine PW.skip ?_ | refine PW.exit ?_ | refine PW.ret ?_ | refine PW.scope ?_ | refine PW.label ?_ | refine PW.goto ?_)
      | (with_reducible refine PW.region ttOk ?_ ?_
         · rfl)
      | (with_reducible refine PW.regionD ttOk mixed ?_ ?_ ?_
         · rfl
         · rfl) | (with_reducible refine ifW_dec (fun g => ?_) (fun g => ?_) <;> first | (exfalso; omega) | (simp -dsimp only [g, wkI])) | (with_reducible refine condE_dec (fun g => ?_) (fun g => ?_) <;> try (exfalso; omega)) | (with_reducible refine condE_not (fun g => ?_) (fun g => ?_) <;> try (exfalso; omega)) | (simp -dsimp only [↓wkA, ↓wkE, ↓wkJ, wkB, ↓tt, Nat.reduceBEq, Nat.reduceEqDiff, ↓reduceIte, Nat.reduceLT, Array.toList, Nat.reduceAdd, Nat.reduceMul, Int.reduceToNat, Int.reducePow, UInt8.reduceToNat]) | (simp -dsimp (disch := first | assumption | omega) only [dec_t, dec_f])
      | (refine And.intro ?_ ?_
         · first | omega | decide | (simp (disch := omega) only [wkW, Int.reduceToNat, Int.reducePow] <;> omega) | (simp <;> omega)) | (simp (disch := omega) only [wkW, Int.reduceToNat, Int.reducePow]) | fail
    refine PW.loopA (fun m F H => ∃ s v, m + s = 128 ∧ v = 5 ^ i * 2 ^ s ∧ v < 340282366920938463463374607431768211456 ∧ F = exG ∧ H = exH hi lo v) 128 exG (exH hi lo (5 ^ i)) (Sub.norm ⟨rfl, rfl, trivial⟩ ⟨rfl, rfl, trivial⟩ (Nat.le_refl _) rfl rfl rfl rfl) ⟨0, _, rfl, by rw [Nat.pow_zero, Nat.mul_one], five55 hq, rfl, rfl⟩ ?_
    rintro m F H ⟨s, v, hs, hv, hlt, rfl, rfl⟩
    have e1 : ((v / 18446744073709551616 : Nat) : Int).fdiv (2 ^ min 63 64) = ((v / 170141183460469231731687303715884105728 : Nat) : Int) := by
      rw [show (2 : Int) ^ min 63 64 = 9223372036854775808 from rfl, Int.fdiv_eq_ediv_of_nonneg _ (by decide)]
      omega
    by_cases hc : v < 170141183460469231731687303715884105728
    · have d3 : decide (((v / 170141183460469231731687303715884105728 : Nat) : Int) = 0) = true := decide_eq_true (by omega)
      have e2 : IntKind.wrap .u64 (((v / 18446744073709551616 : Nat) : Int) * 2 ^ min 1 64) = ((v / 18446744073709551616 : Nat) : Int) * 2 ^ 1 := by
        rw [show (2 : Int) ^ min 1 64 = 2 from rfl, show (2 : Int) ^ 1 = 2 from rfl, wrap_u64 (by omega)]
      have e3 : ((v % 18446744073709551616 : Nat) : Int).fdiv (2 ^ min 63 64) = ((v % 18446744073709551616 / 9223372036854775808 : Nat) : Int) := by
        rw [show (2 : Int) ^ min 63 64 = 9223372036854775808 from rfl, Int.fdiv_eq_ediv_of_nonneg _ (by decide)]
        omega
      have e4 : ibits .or .u64 (((v / 18446744073709551616 : Nat) : Int) * 2 ^ 1) ((v % 18446744073709551616 / 9223372036854775808 : Nat) : Int) = ((v * 2 / 18446744073709551616 : Nat) : Int) := by
        rw [or_low _ _ 1 (by omega) ⟨by omega, by rw [show (2 : Int) ^ 1 = 2 from rfl]; omega⟩ (by rw [show (2 : Int) ^ 1 = 2 from rfl]; omega), show (2 : Int) ^ 1 = 2 from rfl]
        omega
      have e5 : IntKind.wrap .u64 (((v % 18446744073709551616 : Nat) : Int) * 2 ^ min 1 64) = ((v * 2 % 18446744073709551616 : Nat) : Int) := by
        rw [show (2 : Int) ^ min 1 64 = 2 from rfl, wrap_u64']
        omega
      have hv2 : v * 2 = 5 ^ i * 2 ^ (s + 1) := by rw [Nat.pow_succ, ← Nat.mul_assoc, ← hv]
      have hs127 : s < 128 := by
        refine Nat.lt_of_not_le fun h => ?_
        have h1 : 2 ^ 128 ≤ 2 ^ s := Nat.pow_le_pow_right (by decide) h
        have h2 : 1 * 2 ^ s ≤ 5 ^ i * 2 ^ s := Nat.mul_le_mul_right _ (five_pos i)
        rw [← hv] at h2
        have e2 : (340282366920938463463374607431768211456 : Nat) = 2 ^ 128 := by decide
        omega
      have hlt2 : v * 2 < 340282366920938463463374607431768211456 := by omega
      clear hend hv
      repeat' first
        | (with_reducible first | refine PW.seq ?_ | refine PW.block ?_ | refine PW.fork ?_ | refine PW.skip ?_ | refine PW.exit ?_ | refine PW.ret ?_ | refine PW.scope ?_ | refine PW.label ?_ | refine PW.goto ?_) | (simp only [e1, e2, e3, e4, e5, d3])
        | (with_reducible refine PW.region ttOk ?_ ?_
           · rfl)
        | (with_reducible refine PW.regionD ttOk mixed ?_ ?_ ?_
           · rfl
           · rfl) | (with_reducible refine ifW_dec (fun g => ?_) (fun g => ?_) <;> first | (exfalso; omega) | (simp -dsimp only [g, wkI])) | (with_reducible refine condE_dec (fun g => ?_) (fun g => ?_) <;> try (exfalso; omega)) | (with_reducible refine condE_not (fun g => ?_) (fun g => ?_) <;> try (exfalso; omega)) | (simp -dsimp only [↓wkA, ↓wkE, ↓wkJ, wkB, ↓tt, Nat.reduceBEq, Nat.reduceEqDiff, ↓reduceIte, Nat.reduceLT, Array.toList, Nat.reduceAdd, Nat.reduceMul, Int.reduceToNat, Int.reducePow, UInt8.reduceToNat]) | (simp -dsimp (disch := first | assumption | omega) only [dec_t, dec_f])
        | (refine And.intro ?_ ?_
           · first | omega | decide | (simp (disch := omega) only [wkW, Int.reduceToNat, Int.reducePow] <;> omega) | (simp <;> omega)) | (simp (disch := omega) only [wkW, Int.reduceToNat, Int.reducePow]) | fail
      exact Again.mk (m - 1) exG (exH hi lo (v * 2)) (by omega) (Sub.norm ⟨rfl, rfl, trivial⟩ ⟨rfl, rfl, trivial⟩ (Nat.le_refl _) rfl rfl rfl rfl) ⟨s + 1, _, by omega, hv2, hlt2, rfl, rfl⟩
    · have d3 : decide (((v / 170141183460469231731687303715884105728 : Nat) : Int) = 0) = false := decide_eq_false (by omega)
      obtain rfl := hend s v hv (by omega) hlt
      rw [hhi] at e1
      clear hend hv
      repeat' first
        | (with_reducible first | refine PW.seq ?_ | refine PW.block ?_ | refine PW.fork ?_ | refine PW.skip ?_ | refine PW.exit ?_ | refine PW.ret ?_ | refine PW.scope ?_ | refine PW.label ?_ | refine PW.goto ?_) | (simp only [hhi, hlo, e1, d3, eq_self, decide_true, Bool.and_self])
        | (with_reducible refine PW.region ttOk ?_ ?_
           · rfl)
        | (with_reducible refine PW.regionD ttOk mixed ?_ ?_ ?_
           · rfl
           · rfl) | (with_reducible refine ifW_dec (fun g => ?_) (fun g => ?_) <;> first | (exfalso; omega) | (simp -dsimp only [g, wkI])) | (with_reducible refine condE_dec (fun g => ?_) (fun g => ?_) <;> try (exfalso; omega)) | (with_reducible refine condE_not (fun g => ?_) (fun g => ?_) <;> try (exfalso; omega)) | (simp -dsimp only [↓wkA, ↓wkE, ↓wkJ, wkB, ↓tt, Nat.reduceBEq, Nat.reduceEqDiff, ↓reduceIte, Nat.reduceLT, Array.toList, Nat.reduceAdd, Nat.reduceMul, Int.reduceToNat, Int.reducePow, UInt8.reduceToNat]) | (simp -dsimp (disch := first | assumption | omega) only [dec_t, dec_f])
        | (refine And.intro ?_ ?_
           · first | omega | decide | (simp (disch := omega) only [wkW, Int.reduceToNat, Int.reducePow] <;> omega) | (simp <;> omega)) | (simp (disch := omega) only [wkW, Int.reduceToNat, Int.reducePow]) | fail
  | succ m =>
    have hlt : 5 ^ (i + 1) < 340282366920938463463374607431768211456 := five55 (by omega)
    rw [Nat.pow_succ] at hlt
    obtain ⟨v, hv⟩ : ∃ v, 5 ^ i = v := ⟨_, rfl⟩
    have hv1 : 5 ^ (i + 1) = v * 5 := by rw [Nat.pow_succ, hv]
    rw [hv] at hlt ⊢
    have hmul := mul64 ((v % 18446744073709551616 : Nat) : Int) 5 (by simp only [B64]; omega) (by decide)
    simp only [B64] at hmul
    have e2 : ((v % 18446744073709551616 : Nat) : Int) * 5 % 18446744073709551616 = ((v * 5 % 18446744073709551616 : Nat) : Int) := by omega
    have e3 : IntKind.wrap .u64 (IntKind.wrap .u64 (((v / 18446744073709551616 : Nat) : Int) * 5) + ((v % 18446744073709551616 : Nat) : Int) * 5 / 18446744073709551616) = ((v * 5 / 18446744073709551616 : Nat) : Int) := by
      rw [wrap_u64 (n := ((v / 18446744073709551616 : Nat) : Int) * 5) (by omega), wrap_u64 (by omega)]
      omega
    clear hend hv
    repeat' first
      | (with_reducible first | refine PW.seq ?_ | refine PW.block ?_ | refine PW.fork ?_ | refine PW.skip ?_ | refine PW.exit ?_ | refine PW.ret ?_ | refine PW.scope ?_ | refine PW.label ?_ | refine PW.goto ?_) | (simp only [e2, e3])
      | (with_reducible refine PW.region ttOk ?_ ?_
         · rfl)
      | (with_reducible refine PW.regionD ttOk mixed ?_ ?_ ?_
         · rfl
         · rfl) | (with_reducible refine ifW_dec (fun g => ?_) (fun g => ?_) <;> first | (exfalso; omega) | (simp -dsimp only [g, wkI])) | (with_reducible refine condE_dec (fun g => ?_) (fun g => ?_) <;> try (exfalso; omega)) | (with_reducible refine condE_not (fun g => ?_) (fun g => ?_) <;> try (exfalso; omega)) | (simp -dsimp only [↓wkA, ↓wkE, ↓wkJ, wkB, ↓tt, Nat.reduceBEq, Nat.reduceEqDiff, ↓reduceIte, Nat.reduceLT, Array.toList, Nat.reduceAdd, Nat.reduceMul, Int.reduceToNat, Int.reducePow, UInt8.reduceToNat]) | (refine call_by (hmul) (views_data rfl) ⟨trivial, trivial, trivial⟩ rfl ?_) | (simp -dsimp (disch := first | assumption | omega) only [dec_t, dec_f])
      | (refine And.intro ?_ ?_
         · first | omega | decide | (simp (disch := omega) only [wkW, Int.reduceToNat, Int.reducePow] <;> omega) | (simp <;> omega)) | (simp (disch := omega) only [wkW, Int.reduceToNat, Int.reducePow]) | fail
    exact Again.mk m (exF (i + 1) q) (exH hi lo (5 ^ (i + 1))) (by omega) (Sub.norm ⟨rfl, rfl, rfl, rfl, trivial⟩ ⟨rfl, by rw [hv1]; rfl, trivial⟩ (Nat.le_refl _) rfl rfl rfl rfl) ⟨i + 1, by omega, rfl, rfl⟩
theorem quick_exact (q : Int) : Meets Tryz.prog 102 [.int .i64 q, wideV (rowP q)] (.bool (decide (0 ≤ q ∧ q ≤ 55))) := by
  by_cases h : 0 ≤ q ∧ q ≤ 55
  · rw [decide_eq_true h]
    obtain ⟨m, rfl⟩ := Int.eq_ofNat_of_zero_le h.1
    exact exact_yes m _ _ _ (by omega) rfl rfl rfl
  · rw [decide_eq_false h]
    exact exact_no q _ _ (by omega)
theorem repr_ex {m j : Nat} (hm0 : m ≠ 0) (hm : m < 9007199254740992) (hj : 53 ≤ j ∧ j ≤ 2045) : ∃ b, b < infB ∧ b ≠ 0 ∧ dv b = m * 2 ^ j := by
  obtain ⟨k, hk, h1, h2⟩ := bitlen_spec hm0
  have hk52 : k ≤ 52 := by
    refine Nat.le_of_not_lt fun h => ?_
    have : 2 ^ 53 ≤ 2 ^ k := Nat.pow_le_pow_right (by decide) h
    omega
  have g1 : 4503599627370496 ≤ m * 2 ^ (52 - k) := by
    have := Nat.mul_le_mul_right (2 ^ (52 - k)) h1
    rw [← Nat.pow_add, show k + (52 - k) = 52 by omega] at this
    exact this
  have g2 : m * 2 ^ (52 - k) < 9007199254740992 := by
    have := Nat.mul_lt_mul_of_pos_right h2 (Nat.two_pow_pos (52 - k))
    rw [← Nat.pow_add, show k + 1 + (52 - k) = 53 by omega] at this
    exact this
  refine ⟨m * 2 ^ (52 - k) + (j - (52 - k)) * 4503599627370496, by unfold infB; omega, by omega, ?_⟩
  rw [dv_at (by omega) (by omega), Nat.mul_assoc, ← Nat.pow_add]
  congr 2
  omega
theorem fin_lt {b : Nat} (h : b < infB) : b < 9223372036854775808 ∧ finD b := by
  unfold infB at h
  refine ⟨by omega, ?_⟩
  unfold finD fieldD absD
  omega
theorem rnd_repr {b D : Nat} (hD : 0 < D) (h : b < infB) : rndU (dv b * D) D = b := rndU_dv hD (Nat.le_of_lt h)
theorem ten_repr {n : Nat} (hn : n ≤ 22) : ∃ b, b < infB ∧ b ≠ 0 ∧ dv b = 10 ^ n * 2 ^ 1074 ∧ (n ≤ 19 → rnat (10 ^ n) = b) := by
  obtain ⟨b, h1, h2, h3⟩ := repr_ex (m := 5 ^ n) (j := n + 1074) (Nat.ne_of_gt (five_pos n)) (Nat.lt_of_le_of_lt (Nat.pow_le_pow_right (by decide) hn) (by decide)) ⟨by omega, by omega⟩
  have e : dv b = 10 ^ n * 2 ^ 1074 := by rw [h3, Nat.pow_add, ← Nat.mul_assoc, ← Nat.mul_pow]
  refine ⟨b, h1, h2, e, fun _ => ?_⟩
  have := rnd_repr (b := b) (D := 1) (by decide) h1
  rw [Nat.mul_one, e] at this
  exact this
theorem whole_repr {w : Nat} (hw : w ≤ 9007199254740992) : ∃ b, b < infB ∧ dv b = w * 2 ^ 1074 ∧ rnat w = b := by
  by_cases h0 : w = 0
  · subst h0
    exact ⟨0, by decide, by rw [dv_zero, Nat.zero_mul], by unfold rnat; rw [Nat.zero_mul]; exact rndU_zero (by decide)⟩
  · have : ∃ b, b < infB ∧ b ≠ 0 ∧ dv b = w * 2 ^ 1074 := by
      by_cases h1 : w = 9007199254740992
      · obtain ⟨b, g1, g2, g3⟩ := repr_ex (m := 1) (j := 53 + 1074) (by decide) (by decide) ⟨by decide, by decide⟩
        refine ⟨b, g1, g2, ?_⟩
        rw [g3, h1, Nat.pow_add, Nat.one_mul]
      · exact repr_ex h0 (by omega) ⟨by decide, by decide⟩
    obtain ⟨b, g1, g2, g3⟩ := this
    refine ⟨b, g1, g3, ?_⟩
    have := rnd_repr (b := b) (D := 1) (by decide) g1
    rw [Nat.mul_one, g3] at this
    exact this
theorem small_no (w q : Int) (h : 9007199254740992 < w ∨ q < -22 ∨ 22 < q) : Meets Tryz.prog 52 [.int .u64 w, .int .i64 q] (.tup [.int .u64 0, .bool false]) := by
  refine meets_by ttOk Tryz.func52 Tryz.ntmps52 Tryz.results52 (by kernel_rfl) (c := _) rfl rfl rfl fun E => ?_
  simp only [argsFrame]
  repeat' first
    | (with_reducible first | refine PW.seq ?_ | refine PW.block ?_ | refine PW.fork ?_ | refine PW.skip ?_ | refine PW.exit ?_ | refine PW.ret ?_ | refine PW.scope ?_ | refine PW.label ?_ | refine PW.goto ?_)
    | (with_reducible refine PW.region ttOk ?_ ?_
       · rfl)
    | (with_reducible refine PW.regionD ttOk mixed ?_ ?_ ?_
       · rfl
       · rfl) | (with_reducible refine ifW_dec (fun g => ?_) (fun g => ?_) <;> first | (exfalso; omega) | (simp -dsimp only [g, wkI])) | (with_reducible refine condE_dec (fun g => ?_) (fun g => ?_) <;> try (exfalso; omega)) | (with_reducible refine condE_not (fun g => ?_) (fun g => ?_) <;> try (exfalso; omega)) | (simp -dsimp only [↓wkA, ↓wkE, ↓wkJ, wkB, ↓tt, Nat.reduceBEq, Nat.reduceEqDiff, ↓reduceIte, Nat.reduceLT, Array.toList, Nat.reduceAdd, Nat.reduceMul, Int.reduceToNat, Int.reducePow, UInt8.reduceToNat]) | (simp -dsimp (disch := first | assumption | omega) only [dec_t, dec_f])
    | (refine And.intro ?_ ?_
       · first | omega | decide | (simp (disch := omega) only [wkW, Int.reduceToNat, Int.reducePow] <;> omega) | (simp <;> omega)) | (simp (disch := omega) only [wkW, Int.reduceToNat, Int.reducePow]) | fail
theorem small_walk (w q ab mn t T d R : Int) (hw : ¬ 9007199254740992 < w) (hq : -22 ≤ q ∧ q ≤ 22) (hab : (if 0 - q > q then 0 - q else q) = ab) (hmn : (if (19 : Int) < ab then 19 else ab) = mn) (h1 : Meets Tryz.prog 97 [.int .i64 mn] (.int .u64 t)) (h2 : Meets Tryz.prog 96 [.int .u64 t] (.int .u64 T))
    (h3 : Meets Tryz.prog 96 [.int .u64 w] (.int .u64 d)) (T2 : Int) (hc : (¬ 19 < ab ∧ T2 = T) ∨ (19 < ab ∧ ∃ t' T' : Int, Meets Tryz.prog 97 [.int .i64 (ab - 19)] (.int .u64 t') ∧ Meets Tryz.prog 96 [.int .u64 t'] (.int .u64 T') ∧ Meets Tryz.prog 98 [.int .u64 T, .int .u64 T'] (.int .u64 T2)))
    (hR : (q < 0 ∧ Meets Tryz.prog 99 [.int .u64 d, .int .u64 T2] (.int .u64 R)) ∨ (¬ q < 0 ∧ Meets Tryz.prog 98 [.int .u64 d, .int .u64 T2] (.int .u64 R))) :
    Meets Tryz.prog 52 [.int .u64 w, .int .i64 q] (.tup [.int .u64 R, .bool true]) := by
  have hab2 : 0 ≤ ab ∧ ab ≤ 22 := by rw [← hab]; split <;> omega
  have w1 : IntKind.wrap .i64 (0 - q) = 0 - q := wrap_i64 (by omega)
  have w2 : IntKind.wrap .i64 (ab - 19) = ab - 19 := wrap_i64 (by omega)
  have d1 : decide (9007199254740992 < w) = false := decide_eq_false hw
  have d2 : decide (q < -22) = false := decide_eq_false (by omega)
  have d3 : decide (22 < q) = false := decide_eq_false (by omega)
  rcases hc with ⟨c1, rfl⟩ | ⟨c1, t', T', g1, g2, g3⟩ <;> rcases hR with ⟨r1, r2⟩ | ⟨r1, r2⟩
  case' inl.inl => have d4 : decide (19 < ab) = false := decide_eq_false c1; have d5 : decide (q < 0) = true := decide_eq_true r1; have g1 := h1; have g2 := h2; have g3 := r2
  case' inl.inr => have d4 : decide (19 < ab) = false := decide_eq_false c1; have d5 : decide (q < 0) = false := decide_eq_false r1; have g1 := h1; have g2 := h2; have g3 := r2
  case' inr.inl => have d4 : decide (19 < ab) = true := decide_eq_true c1; have d5 : decide (q < 0) = true := decide_eq_true r1
  case' inr.inr => have d4 : decide (19 < ab) = true := decide_eq_true c1; have d5 : decide (q < 0) = false := decide_eq_false r1
  all_goals clear hq hw
  all_goals (refine meets_by ttOk Tryz.func52 Tryz.ntmps52 Tryz.results52 (by kernel_rfl) (c := _) rfl rfl rfl fun E => ?_; simp only [argsFrame])
  all_goals
    repeat' first
      | (with_reducible first | refine PW.seq ?_ | refine PW.block ?_ | refine PW.fork ?_ | refine PW.skip ?_ | refine PW.exit ?_ | refine PW.ret ?_ | refine PW.scope ?_ | refine PW.label ?_ | refine PW.goto ?_) | (simp only [hab, hmn, w1, w2, d1, d2, d3, d4, d5])
      | (with_reducible refine PW.region ttOk ?_ ?_
         · rfl)
      | (with_reducible refine PW.regionD ttOk mixed ?_ ?_ ?_
         · rfl
         · rfl) | (with_reducible refine ifW_dec (fun g => ?_) (fun g => ?_) <;> first | (exfalso; omega) | (simp -dsimp only [g, wkI])) | (with_reducible refine condE_dec (fun g => ?_) (fun g => ?_) <;> try (exfalso; omega)) | (with_reducible refine condE_not (fun g => ?_) (fun g => ?_) <;> try (exfalso; omega)) | (simp -dsimp only [↓wkA, ↓wkE, ↓wkJ, wkB, ↓tt, Nat.reduceBEq, Nat.reduceEqDiff, ↓reduceIte, Nat.reduceLT, Array.toList, Nat.reduceAdd, Nat.reduceMul, Int.reduceToNat, Int.reducePow, UInt8.reduceToNat]) | (refine call_by (h1) (views_data rfl) ⟨trivial, trivial⟩ rfl ?_) | (refine call_by (h2) (views_data rfl) ⟨trivial, trivial⟩ rfl ?_) | (refine call_by (h3) (views_data rfl) ⟨trivial, trivial⟩ rfl ?_) | (refine call_by (g1) (views_data rfl) ⟨trivial, trivial⟩ rfl ?_) | (refine call_by (g2) (views_data rfl) ⟨trivial, trivial⟩ rfl ?_) | (refine call_by (g3) (views_data rfl) ⟨trivial, trivial, trivial⟩ rfl ?_) | (refine call_by (r2) (views_data rfl) ⟨trivial, trivial, trivial⟩ rfl ?_) | (simp -dsimp (disch := first | assumption | omega) only [dec_t, dec_f])
      | (refine And.intro ?_ ?_
         · first | omega | decide | (simp (disch := omega) only [wkW, Int.reduceToNat, Int.reducePow] <;> omega) | (simp <;> omega)) | (simp (disch := omega) only [wkW, Int.reduceToNat, Int.reducePow]) | fail
theorem quick_small (w : Nat) (hw : w ≤ 9007199254740992) (q : Int) (hq : -22 ≤ q ∧ q ≤ 22) : Meets Tryz.prog 52 [.int .u64 (w : Int), .int .i64 q] (.tup [.int .u64 (rdec w q : Int), .bool true]) := by
  obtain ⟨n, hn⟩ : ∃ n : Nat, (n : Int) = if 0 - q > q then 0 - q else q := ⟨(if 0 - q > q then 0 - q else q).toNat, by split <;> omega⟩
  have hn22 : n ≤ 22 := by split at hn <;> omega
  obtain ⟨T2, t1, t0, t2, t3⟩ := ten_repr hn22
  obtain ⟨d, d1, d2, d3⟩ := whole_repr hw
  have hfd := ieee_from_uint w (by omega)
  rw [d3] at hfd
  obtain ⟨ld, fd⟩ := fin_lt d1
  obtain ⟨lt, ft⟩ := fin_lt t1
  have hpos : (0 : Nat) < 2 ^ 1074 := Nat.two_pow_pos _
  have hten : 0 < 10 ^ n * 2 ^ 1074 := Nat.mul_pos (ten_pos n) hpos
  have hR : (q < 0 ∧ Meets Tryz.prog 99 [.int .u64 (d : Int), .int .u64 (T2 : Int)] (.int .u64 (rdec w q : Int))) ∨ (¬ q < 0 ∧ Meets Tryz.prog 98 [.int .u64 (d : Int), .int .u64 (T2 : Int)] (.int .u64 (rdec w q : Int))) := by
    by_cases h : q < 0
    · refine .inl ⟨h, ?_⟩
      have hd := soft_div ld lt fd ft t0
      have e : rndU (dv d * 2 ^ 1074) (dv T2) = rdec w q := by
        rw [d2, t2]
        unfold rdec
        have hq : (-q).toNat = n := by split at hn <;> omega
        have hq0 : q.toNat = 0 := by omega
        rw [hq, hq0]
        exact rndU_congr hten (ten_pos n) (by rw [Nat.pow_zero, Nat.mul_one]; ac_rfl)
      rw [e] at hd
      exact hd
    · refine .inr ⟨h, ?_⟩
      have hd := soft_mul ld lt fd ft
      have e : rndU (dv d * dv T2) (2 ^ 1074) = rdec w q := by
        rw [d2, t2]
        unfold rdec
        have hq : q.toNat = n := by split at hn <;> omega
        have hq0 : (-q).toNat = 0 := by omega
        rw [hq, hq0]
        exact rndU_congr hpos (by decide) (by rw [Nat.pow_zero, Nat.mul_one]; ac_rfl)
      rw [e] at hd
      exact hd
  by_cases h19 : n ≤ 19
  · have ht := quick_tens n (by omega)
    have hft := ieee_from_uint (10 ^ n) (Nat.lt_of_le_of_lt (Nat.pow_le_pow_right (by decide) h19) (by decide))
    rw [t3 h19] at hft
    exact small_walk _ q (n : Int) (n : Int) _ _ _ _ (by omega) hq hn.symm (if_neg (by omega)) ht hft hfd _ (.inl ⟨by omega, rfl⟩) hR
  · obtain ⟨a, a1, _, a2, a3⟩ := ten_repr (n := 19) (by decide)
    obtain ⟨b, b1, _, b2, b3⟩ := ten_repr (n := n - 19) (by omega)
    obtain ⟨la, fa⟩ := fin_lt a1
    obtain ⟨lb, fb⟩ := fin_lt b1
    have ht := quick_tens 19 (by decide)
    have hft := ieee_from_uint (10 ^ 19) (by decide)
    rw [a3 (by decide)] at hft
    have ht2 := quick_tens (n - 19) (by omega)
    have hft2 := ieee_from_uint (10 ^ (n - 19)) (Nat.lt_of_le_of_lt (Nat.pow_le_pow_right (by decide) (show n - 19 ≤ 19 by omega)) (by decide))
    rw [b3 (by omega)] at hft2
    have hm := soft_mul la lb fa fb
    have e : rndU (dv a * dv b) (2 ^ 1074) = T2 := by
      have h1 : dv a * dv b = dv T2 * 2 ^ 1074 := by
        rw [a2, b2, t2]
        have : 10 ^ n = 10 ^ 19 * 10 ^ (n - 19) := by rw [← Nat.pow_add]; congr 1; omega
        rw [this]; ac_rfl
      rw [h1]
      exact rnd_repr hpos t1
    rw [e] at hm
    rw [show (((n - 19 : Nat) : Nat) : Int) = (n : Int) - 19 by omega] at ht2
    exact small_walk _ q (n : Int) 19 _ _ _ _ (by omega) hq hn.symm (if_pos (by omega)) ht hft hfd _ (.inr ⟨by omega, _, _, ht2, hft2, hm⟩) hR
theorem val_two (x y : Int) : val [x, y] = x + B64 * y := by simp [val, vt, Int.pow_succ]
theorem val_three (x y z : Int) : val [x, y, z] = x + B64 * y + B64 * B64 * z := by simp [val, vt, Int.pow_succ]
theorem mul_list {a b : List Int} (ha : Limbs a) (hb : Limbs b) (hla : a.length ≤ 10) (hlb : b.length ≤ 10) {u v : Nat} (hu : val a = u) (hv : val b = v) (hu0 : u ≠ 0) (hv0 : v ≠ 0) : Meets Tryz.prog 61 [.ints .u64 a, .ints .u64 b] (.tup [.ints .u64 (natL (u * v)), .int .i64 0]) := by
  have sa := size_le a
  have sb := size_le b
  have sa0 : 0 < size a := Nat.pos_of_ne_zero fun e => hu0 (by have := (size_zero ha).1 e; omega)
  have sb0 : 0 < size b := Nat.pos_of_ne_zero fun e => hv0 (by have := (size_zero hb).1 e; omega)
  have h := nat_mul a b ha hb (by omega) (by omega) (by omega) (by omega) sa0 sb0 (by omega) _ rfl
  have e : (val a * val b).toNat = u * v := by rw [hu, hv, ← Int.natCast_mul, Int.toNat_natCast]
  have bound : ∀ {l : List Int} {x : Nat}, Limbs l → val l = x → x < 18446744073709551616 ^ size l := fun {l x} hl hx => by
    have h1 := (vt_bound hl (size l)).2
    rw [vt_size, hx] at h1
    have e : B64 ^ size l = ((18446744073709551616 ^ size l : Nat) : Int) := by rw [Int.natCast_pow]; rfl
    rw [e] at h1
    exact Int.ofNat_lt.1 h1
  have huv : u * v < 18446744073709551616 ^ (size a + size b) := by
    rw [Nat.pow_add]
    exact Nat.mul_lt_mul_of_lt_of_lt (bound ha hu) (bound hb hv)
  rw [e, trim_limbsOf huv, if_neg (by
    have := size_le (limbsOf (size a + size b) (u * v))
    rw [limbsOf_length] at this
    omega)] at h
  exact h
def rbin (n : Nat) (e : Int) : Nat := rndU (n * 2 ^ (e + 1074).toNat) (2 ^ (-(e + 1074)).toNat)
theorem round_bin {n : Nat} (hn : n < NMax) (neg : Bool) (e : Int) (he : -700000 ≤ e ∧ e ≤ 700000) : Meets Tryz.prog 101 [.bool neg, .ints .u64 (natL n), .int .i64 e, .bool false] (.tup [.int .u64 (signed neg (rbin n e) : Int), .int .i64 0]) :=
  ieee_round hn neg e he false (Nat.two_pow_pos _) (.inl ⟨rfl, by rw [Nat.mul_assoc]⟩) (fun h => by cases h)
theorem rowE_bounds {q : Int} (hq : -342 ≤ q ∧ q ≤ 308) : -1000 ≤ rowE q ∧ rowE q ≤ 700 := by
  unfold rowE
  by_cases h : 0 ≤ q
  · rw [if_pos h]
    have := five_len (m := q.toNat) (by omega)
    obtain ⟨n, hn, h1, _⟩ := five_bits q.toNat
    have h2 : bitlen (5 ^ q.toNat) ≤ 3 * 308 := bitlen_le (Nat.lt_of_le_of_lt (Nat.pow_le_pow_right (by decide) (show q.toNat ≤ 308 by omega)) (by decide +kernel))
    omega
  · rw [if_neg h]
    have := five_len (m := (-q).toNat) (by omega)
    omega
theorem step_zero (q : Int) : Meets Tryz.prog 53 [.int .u64 0, .int .i64 q] (.tup [.int .u64 0, .bool true]) := by
  refine meets_by ttOk Tryz.func53 Tryz.ntmps53 Tryz.results53 (by kernel_rfl) (c := _) rfl rfl rfl fun E => ?_
  simp only [argsFrame]
  repeat' first
    | (with_reducible first | refine PW.seq ?_ | refine PW.block ?_ | refine PW.fork ?_ | refine PW.skip ?_ | refine PW.exit ?_ | refine PW.ret ?_ | refine PW.scope ?_ | refine PW.label ?_ | refine PW.goto ?_)
    | (with_reducible refine PW.region ttOk ?_ ?_
       · rfl)
    | (with_reducible refine PW.regionD ttOk mixed ?_ ?_ ?_
       · rfl
       · rfl) | (with_reducible refine ifW_dec (fun g => ?_) (fun g => ?_) <;> first | (exfalso; omega) | (simp -dsimp only [g, wkI])) | (with_reducible refine condE_dec (fun g => ?_) (fun g => ?_) <;> try (exfalso; omega)) | (with_reducible refine condE_not (fun g => ?_) (fun g => ?_) <;> try (exfalso; omega)) | (simp -dsimp only [↓wkA, ↓wkE, ↓wkJ, wkB, ↓tt, Nat.reduceBEq, Nat.reduceEqDiff, ↓reduceIte, Nat.reduceLT, Array.toList, Nat.reduceAdd, Nat.reduceMul, Int.reduceToNat, Int.reducePow, UInt8.reduceToNat]) | (simp -dsimp (disch := first | assumption | omega) only [dec_t, dec_f])
    | (refine And.intro ?_ ?_
       · first | omega | decide | (simp (disch := omega) only [wkW, Int.reduceToNat, Int.reducePow] <;> omega) | (simp <;> omega)) | (simp (disch := omega) only [wkW, Int.reduceToNat, Int.reducePow]) | fail
theorem step_none (w q : Int) (hw : w ≠ 0) (hq : q < -342 ∨ 308 < q) : Meets Tryz.prog 53 [.int .u64 w, .int .i64 q] (.tup [.int .u64 0, .bool false]) := by
  have d1 : decide (w = 0) = false := decide_eq_false hw
  refine meets_by ttOk Tryz.func53 Tryz.ntmps53 Tryz.results53 (by kernel_rfl) (c := _) rfl rfl rfl fun E => ?_
  simp only [argsFrame]
  repeat' first
    | (with_reducible first | refine PW.seq ?_ | refine PW.block ?_ | refine PW.fork ?_ | refine PW.skip ?_ | refine PW.exit ?_ | refine PW.ret ?_ | refine PW.scope ?_ | refine PW.label ?_ | refine PW.goto ?_) | (simp only [d1])
    | (with_reducible refine PW.region ttOk ?_ ?_
       · rfl)
    | (with_reducible refine PW.regionD ttOk mixed ?_ ?_ ?_
       · rfl
       · rfl) | (with_reducible refine ifW_dec (fun g => ?_) (fun g => ?_) <;> first | (exfalso; omega) | (simp -dsimp only [g, wkI])) | (with_reducible refine condE_dec (fun g => ?_) (fun g => ?_) <;> try (exfalso; omega)) | (with_reducible refine condE_not (fun g => ?_) (fun g => ?_) <;> try (exfalso; omega)) | (simp -dsimp only [↓wkA, ↓wkE, ↓wkJ, wkB, ↓tt, Nat.reduceBEq, Nat.reduceEqDiff, ↓reduceIte, Nat.reduceLT, Array.toList, Nat.reduceAdd, Nat.reduceMul, Int.reduceToNat, Int.reducePow, UInt8.reduceToNat]) | (simp -dsimp (disch := first | assumption | omega) only [dec_t, dec_f])
    | (refine And.intro ?_ ?_
       · first | omega | decide | (simp (disch := omega) only [wkW, Int.reduceToNat, Int.reducePow] <;> omega) | (simp <;> omega)) | (simp (disch := omega) only [wkW, Int.reduceToNat, Int.reducePow]) | fail
theorem step_walk (w q e e2 hi lo hi2 lo2 top A B : Int) (hw : w ≠ 0) (hq : -342 ≤ q ∧ q ≤ 308) (below above : List Int) (h1 : Meets Tryz.prog 100 [.int .i64 q] (.tup [.agg [.int .u64 hi, .int .u64 lo], .int .i64 e])) (h2 : Meets Tryz.prog 61 [.ints .u64 [w], .ints .u64 [lo, hi]] (.tup [.ints .u64 below, .int .i64 0]))
    (he : IntKind.wrap .i64 (e + q) = e2) (h3 : Meets Tryz.prog 101 [.bool false, .ints .u64 below, .int .i64 e2, .bool false] (.tup [.int .u64 A, .int .i64 0])) (ex : Bool) (h4 : Meets Tryz.prog 102 [.int .i64 q, .agg [.int .u64 hi, .int .u64 lo]] (.bool ex))
    (h5 : Meets Tryz.prog 103 [.agg [.int .u64 hi, .int .u64 lo]] (.tup [.int .u64 top, .agg [.int .u64 hi2, .int .u64 lo2]])) (h6 : Meets Tryz.prog 61 [.ints .u64 [w], .ints .u64 [lo2, hi2, top]] (.tup [.ints .u64 above, .int .i64 0])) (h7 : Meets Tryz.prog 101 [.bool false, .ints .u64 above, .int .i64 e2, .bool false] (.tup [.int .u64 B, .int .i64 0]))
    (R : Int) (ok : Bool) (hR : (ex = true ∨ A = B → R = A ∧ ok = true) ∧ (ex = false ∧ A ≠ B → R = 0 ∧ ok = false)) : Meets Tryz.prog 53 [.int .u64 w, .int .i64 q] (.tup [.int .u64 R, .bool ok]) := by
  have d1 : decide (w = 0) = false := decide_eq_false hw
  have d2 : decide (q < -342) = false := decide_eq_false (by omega)
  have d3 : decide (308 < q) = false := decide_eq_false (by omega)
  clear hq hw
  cases ex
  case' true => obtain ⟨rfl, rfl⟩ := hR.1 (.inl rfl)
  case' false => by_cases hab : A = B
  case' pos => obtain ⟨rfl, rfl⟩ := hR.1 (.inr hab); have d4 : decide (R = B) = true := decide_eq_true hab
  case' neg => obtain ⟨rfl, rfl⟩ := hR.2 ⟨rfl, hab⟩; have d4 : decide (A = B) = false := decide_eq_false hab
  case' true => have d4 := d3
  all_goals clear hR
  all_goals (refine meets_by ttOk Tryz.func53 Tryz.ntmps53 Tryz.results53 (by kernel_rfl) (c := _) rfl rfl rfl fun E => ?_; simp only [argsFrame])
  all_goals
    repeat' first
      | (with_reducible first | refine PW.seq ?_ | refine PW.block ?_ | refine PW.fork ?_ | refine PW.skip ?_ | refine PW.exit ?_ | refine PW.ret ?_ | refine PW.scope ?_ | refine PW.label ?_ | refine PW.goto ?_) | (simp only [d1, d2, d3, d4, he])
      | (with_reducible refine PW.region ttOk ?_ ?_
         · rfl)
      | (with_reducible refine PW.regionD ttOk mixed ?_ ?_ ?_
         · rfl
         · rfl) | (with_reducible refine ifW_dec (fun g => ?_) (fun g => ?_) <;> first | (exfalso; omega) | (simp -dsimp only [g, wkI])) | (with_reducible refine condE_dec (fun g => ?_) (fun g => ?_) <;> try (exfalso; omega)) | (with_reducible refine condE_not (fun g => ?_) (fun g => ?_) <;> try (exfalso; omega)) | (simp -dsimp only [↓wkA, ↓wkE, ↓wkJ, wkB, ↓tt, Nat.reduceBEq, Nat.reduceEqDiff, ↓reduceIte, Nat.reduceLT, Array.toList, Nat.reduceAdd, Nat.reduceMul, Int.reduceToNat, Int.reducePow, UInt8.reduceToNat]) | (refine call_by (h1) (views_data rfl) ⟨trivial, trivial⟩ rfl ?_) | (refine call_drop (args' := [.ints .u64 [w], .ints .u64 [lo, hi]]) rfl h2 ⟨Nat.le_refl _, Nat.le_refl _, trivial⟩ rfl ?_; simp only [wkD, Nat.reduceBEq]) | (refine call_drop (args' := [.ints .u64 [w], .ints .u64 [lo2, hi2, top]]) rfl h6 ⟨Nat.le_refl _, Nat.le_refl _, trivial⟩ rfl ?_; simp only [wkD, Nat.reduceBEq]) | (refine call_by (h3) (views_data rfl) ⟨trivial, trivial, trivial, trivial, trivial⟩ rfl ?_) | (refine call_by (h7) (views_data rfl) ⟨trivial, trivial, trivial, trivial, trivial⟩ rfl ?_) | (refine call_by (h4) (views_data rfl) (by simp only [okViews, okView, okViews0, okView0, and_self]) rfl ?_) | (refine call_by (h5) (views_data rfl) (by simp only [okViews, okView, okViews0, okView0, and_self]) rfl ?_) | (simp -dsimp (disch := first | assumption | omega) only [dec_t, dec_f])
      | (refine And.intro ?_ ?_
         · first | omega | decide | (simp (disch := omega) only [wkW, Int.reduceToNat, Int.reducePow] <;> omega) | (simp <;> omega)) | (simp (disch := omega) only [wkW, Int.reduceToNat, Int.reducePow]) | fail
def stepLo (w : Nat) (q : Int) : Nat := rbin (w * rowP q) (rowE q + q)
def stepHi (w : Nat) (q : Int) : Nat := rbin (w * (rowP q + 1)) (rowE q + q)
def stepOk (w : Nat) (q : Int) : Prop := w = 0 ∨ ((-342 ≤ q ∧ q ≤ 308) ∧ ((0 ≤ q ∧ q ≤ 55) ∨ stepLo w q = stepHi w q))
instance (w : Nat) (q : Int) : Decidable (stepOk w q) := inferInstanceAs (Decidable (_ ∨ _))
def stepV (w : Nat) (q : Int) : Nat := if w = 0 then 0 else if stepOk w q then stepLo w q else 0
theorem quick_step (w : Nat) (hw : w < 18446744073709551616) (q : Int) : Meets Tryz.prog 53 [.int .u64 (w : Int), .int .i64 q] (.tup [.int .u64 (stepV w q : Int), .bool (decide (stepOk w q))]) := by
  by_cases h0 : w = 0
  · subst h0
    rw [decide_eq_true (show stepOk 0 q from .inl rfl)]
    unfold stepV
    rw [if_pos rfl]
    exact step_zero q
  by_cases hq : -342 ≤ q ∧ q ≤ 308
  · have hw' : ((w : Nat) : Int) ≠ 0 := by omega
    obtain ⟨b1, b2⟩ := rowP_bounds q
    have e1 : (2 : Nat) ^ 127 = 170141183460469231731687303715884105728 := by decide
    have e2 : (2 : Nat) ^ 128 = 340282366920938463463374607431768211456 := by decide
    rw [e1] at b1
    rw [e2] at b2
    have hE := rowE_bounds hq
    have h1 := quick_row q hq
    have hex := quick_exact q
    obtain ⟨P, hP⟩ : ∃ P, rowP q = P := ⟨_, rfl⟩
    rw [hP] at h1 b1 b2 hex
    obtain ⟨v', hv'⟩ : ∃ v', v' = (P + 1) % 340282366920938463463374607431768211456 := ⟨_, rfl⟩
    obtain ⟨c, hc⟩ : ∃ c, c = (P + 1) / 340282366920938463463374607431768211456 := ⟨_, rfl⟩
    have hn := quick_next P v' c b2 (by omega) (by omega)
    have lw : Limbs [(w : Int)] := fun x hx => by rw [List.mem_singleton] at hx; subst hx; omega
    have vw : val [(w : Int)] = (w : Int) := by simp [val, vt]
    have l2 : Limbs [((P % 18446744073709551616 : Nat) : Int), ((P / 18446744073709551616 : Nat) : Int)] := fun x hx => by
      simp only [List.mem_cons, List.not_mem_nil, or_false] at hx
      rcases hx with rfl | rfl <;> omega
    have v2 : val [((P % 18446744073709551616 : Nat) : Int), ((P / 18446744073709551616 : Nat) : Int)] = (P : Int) := by rw [val_two]; simp only [B64]; omega
    have l3 : Limbs [((v' % 18446744073709551616 : Nat) : Int), ((v' / 18446744073709551616 : Nat) : Int), (c : Int)] := fun x hx => by
      simp only [List.mem_cons, List.not_mem_nil, or_false] at hx
      rcases hx with rfl | rfl | rfl <;> omega
    have v3 : val [((v' % 18446744073709551616 : Nat) : Int), ((v' / 18446744073709551616 : Nat) : Int), (c : Int)] = ((P + 1 : Nat) : Int) := by rw [val_three]; simp only [B64]; omega
    have hm1 := mul_list lw l2 (show 1 ≤ 10 by decide) (show 2 ≤ 10 by decide) vw v2 h0 (by omega)
    have hm2 := mul_list lw l3 (show 1 ≤ 10 by decide) (show 3 ≤ 10 by decide) vw v3 h0 (by omega)
    have hb1 : w * P < 2 ^ 200 := by
      have := Nat.mul_lt_mul_of_lt_of_lt hw b2
      exact Nat.lt_trans this (by decide)
    have hb2 : w * (P + 1) < 2 ^ 200 := by
      have := Nat.mul_lt_mul_of_lt_of_lt hw (show P + 1 < 2 * 340282366920938463463374607431768211456 by omega)
      exact Nat.lt_trans this (by decide)
    have hr1 := round_bin (n := w * P) (nmax_of hb1 (by decide)) false (rowE q + q) ⟨by omega, by omega⟩
    have hr2 := round_bin (n := w * (P + 1)) (nmax_of hb2 (by decide)) false (rowE q + q) ⟨by omega, by omega⟩
    rw [signed_f] at hr1 hr2
    have s1 : stepLo w q = rbin (w * P) (rowE q + q) := by unfold stepLo; rw [hP]
    have s2 : stepHi w q = rbin (w * (P + 1)) (rowE q + q) := by unfold stepHi; rw [hP]
    rw [← s1] at hr1
    rw [← s2] at hr2
    refine step_walk (w : Int) q (rowE q) (rowE q + q) _ _ _ _ _ _ _ hw' hq _ _ h1 hm1 (wrap_i64 (by omega)) hr1 _ hex hn hm2 hr2 _ _ ⟨fun h => ?_, fun h => ?_⟩
    · have hok : stepOk w q := .inr ⟨hq, h.elim (fun h => .inl (of_decide_eq_true h)) fun h => .inr (by omega)⟩
      refine ⟨?_, decide_eq_true hok⟩
      unfold stepV
      rw [if_neg h0, if_pos hok]
    · have hno : ¬ stepOk w q := fun hk => by
        rcases hk with hk | ⟨_, hk | hk⟩
        · exact h0 hk
        · exact of_decide_eq_false h.1 hk
        · exact h.2 (by omega)
      refine ⟨?_, decide_eq_false hno⟩
      unfold stepV
      rw [if_neg h0, if_neg hno]
      rfl
  · have hno : ¬ stepOk w q := fun hk => by
      rcases hk with hk | ⟨hk, _⟩
      · exact h0 hk
      · exact hq hk
    rw [decide_eq_false hno]
    unfold stepV
    rw [if_neg h0, if_neg hno]
    exact step_none _ q (by omega) (by omega)
theorem trim_right_zero (s : List Int) (hsl : s.length ≤ 1000000000000000) : Meets Tryz.prog 94 [.str s, .str [48]] (.str (s.take (endN s 48 s.length))) := by
  have h1 := trim_right s 48 hsl
  refine meets_by ttOk Tryz.func94 Tryz.ntmps94 Tryz.results94 (by kernel_rfl) (c := _) rfl rfl rfl fun E => ?_
  simp only [argsFrame]
  by_cases hs : s = []
  · subst hs
    repeat' first
      | (simp only [eq_self, decide_true])
      | (with_reducible first | refine PW.seq ?_ | refine PW.block ?_ | refine PW.fork ?_ | refine PW.skip ?_ | refine PW.exit ?_ | refine PW.ret ?_ | refine PW.scope ?_ | refine PW.label ?_ | refine PW.goto ?_)
      | (with_reducible refine PW.region ttOk ?_ ?_
         · rfl)
      | (with_reducible refine PW.regionD ttOk mixed ?_ ?_ ?_
         · rfl
         · rfl) | (with_reducible refine ifW_dec (fun g => ?_) (fun g => ?_) <;> first | (exfalso; omega) | (simp -dsimp only [g, wkI])) | (with_reducible refine condE_dec (fun g => ?_) (fun g => ?_) <;> try (exfalso; omega)) | (with_reducible refine condE_not (fun g => ?_) (fun g => ?_) <;> try (exfalso; omega)) | (simp -dsimp only [↓wkA, ↓wkE, ↓wkJ, wkB, ↓tt, Nat.reduceBEq, Nat.reduceEqDiff, ↓reduceIte, Nat.reduceLT, Array.toList, Nat.reduceAdd, Nat.reduceMul, Int.reduceToNat, Int.reducePow, UInt8.reduceToNat]) | (simp -dsimp (disch := first | assumption | omega) only [dec_t, dec_f])
      | (refine And.intro ?_ ?_
         · first | omega | decide | (simp (disch := omega) only [wkW, Int.reduceToNat, Int.reducePow] <;> omega) | (simp <;> omega)) | (simp (disch := omega) only [wkW, Int.reduceToNat, Int.reducePow]) | fail
    all_goals rfl
  · have hd : decide (s = []) = false := decide_eq_false hs
    repeat' first
      | (simp only [hd, reduceCtorEq, decide_false])
      | (with_reducible first | refine PW.seq ?_ | refine PW.block ?_ | refine PW.fork ?_ | refine PW.skip ?_ | refine PW.exit ?_ | refine PW.ret ?_ | refine PW.scope ?_ | refine PW.label ?_ | refine PW.goto ?_)
      | (with_reducible refine PW.region ttOk ?_ ?_
         · rfl)
      | (with_reducible refine PW.regionD ttOk mixed ?_ ?_ ?_
         · rfl
         · rfl) | (with_reducible refine ifW_dec (fun g => ?_) (fun g => ?_) <;> first | (exfalso; omega) | (simp -dsimp only [g, wkI])) | (with_reducible refine condE_dec (fun g => ?_) (fun g => ?_) <;> try (exfalso; omega)) | (with_reducible refine condE_not (fun g => ?_) (fun g => ?_) <;> try (exfalso; omega)) | (simp -dsimp only [↓wkA, ↓wkE, ↓wkJ, wkB, ↓tt, Nat.reduceBEq, Nat.reduceEqDiff, ↓reduceIte, Nat.reduceLT, Array.toList, Nat.reduceAdd, Nat.reduceMul, Int.reduceToNat, Int.reducePow, UInt8.reduceToNat]) | (refine call_by (h1) (views_data rfl) ⟨trivial, trivial, trivial⟩ rfl ?_) | (refine callD_by (h1) (views_data rfl) ⟨trivial, trivial, trivial⟩ rfl ?_) | (simp -dsimp (disch := first | assumption | omega) only [dec_t, dec_f])
      | (refine And.intro ?_ ?_
         · first | omega | decide | (simp (disch := omega) only [wkW, Int.reduceToNat, Int.reducePow] <;> omega) | (simp <;> omega)) | (simp (disch := omega) only [wkW, Int.reduceToNat, Int.reducePow]) | fail
theorem trim_left_zero (s : List Int) (hsl : s.length ≤ 1000000000000000) : Meets Tryz.prog 93 [.str s, .str [48]] (.str (headL 48 s)) := by
  have h1 := trim_left s 48 hsl
  refine meets_by ttOk Tryz.func93 Tryz.ntmps93 Tryz.results93 (by kernel_rfl) (c := _) rfl rfl rfl fun E => ?_
  simp only [argsFrame]
  by_cases hs : s = []
  · subst hs
    repeat' first
      | (simp only [eq_self, decide_true])
      | (with_reducible first | refine PW.seq ?_ | refine PW.block ?_ | refine PW.fork ?_ | refine PW.skip ?_ | refine PW.exit ?_ | refine PW.ret ?_ | refine PW.scope ?_ | refine PW.label ?_ | refine PW.goto ?_)
      | (with_reducible refine PW.region ttOk ?_ ?_
         · rfl)
      | (with_reducible refine PW.regionD ttOk mixed ?_ ?_ ?_
         · rfl
         · rfl) | (with_reducible refine ifW_dec (fun g => ?_) (fun g => ?_) <;> first | (exfalso; omega) | (simp -dsimp only [g, wkI])) | (with_reducible refine condE_dec (fun g => ?_) (fun g => ?_) <;> try (exfalso; omega)) | (with_reducible refine condE_not (fun g => ?_) (fun g => ?_) <;> try (exfalso; omega)) | (simp -dsimp only [↓wkA, ↓wkE, ↓wkJ, wkB, ↓tt, Nat.reduceBEq, Nat.reduceEqDiff, ↓reduceIte, Nat.reduceLT, Array.toList, Nat.reduceAdd, Nat.reduceMul, Int.reduceToNat, Int.reducePow, UInt8.reduceToNat]) | (simp -dsimp (disch := first | assumption | omega) only [dec_t, dec_f])
      | (refine And.intro ?_ ?_
         · first | omega | decide | (simp (disch := omega) only [wkW, Int.reduceToNat, Int.reducePow] <;> omega) | (simp <;> omega)) | (simp (disch := omega) only [wkW, Int.reduceToNat, Int.reducePow]) | fail
    all_goals rfl
  · have hd : decide (s = []) = false := decide_eq_false hs
    repeat' first
      | (simp only [hd, reduceCtorEq, decide_false])
      | (with_reducible first | refine PW.seq ?_ | refine PW.block ?_ | refine PW.fork ?_ | refine PW.skip ?_ | refine PW.exit ?_ | refine PW.ret ?_ | refine PW.scope ?_ | refine PW.label ?_ | refine PW.goto ?_)
      | (with_reducible refine PW.region ttOk ?_ ?_
         · rfl)
      | (with_reducible refine PW.regionD ttOk mixed ?_ ?_ ?_
         · rfl
         · rfl) | (with_reducible refine ifW_dec (fun g => ?_) (fun g => ?_) <;> first | (exfalso; omega) | (simp -dsimp only [g, wkI])) | (with_reducible refine condE_dec (fun g => ?_) (fun g => ?_) <;> try (exfalso; omega)) | (with_reducible refine condE_not (fun g => ?_) (fun g => ?_) <;> try (exfalso; omega)) | (simp -dsimp only [↓wkA, ↓wkE, ↓wkJ, wkB, ↓tt, Nat.reduceBEq, Nat.reduceEqDiff, ↓reduceIte, Nat.reduceLT, Array.toList, Nat.reduceAdd, Nat.reduceMul, Int.reduceToNat, Int.reducePow, UInt8.reduceToNat]) | (refine call_by (h1) (views_data rfl) ⟨trivial, trivial, trivial⟩ rfl ?_) | (refine callD_by (h1) (views_data rfl) ⟨trivial, trivial, trivial⟩ rfl ?_) | (simp -dsimp (disch := first | assumption | omega) only [dec_t, dec_f])
      | (refine And.intro ?_ ?_
         · first | omega | decide | (simp (disch := omega) only [wkW, Int.reduceToNat, Int.reducePow] <;> omega) | (simp <;> omega)) | (simp (disch := omega) only [wkW, Int.reduceToNat, Int.reducePow]) | fail
end Go.Proofs.YtbmhnjghpjkjpaaGreatDoor
namespace Go.Proofs
open Go.Shelf
open Go.RowKit in
def Tryz.laysM316_ren : Go.Shelf.Ren := ⟨fun | 316 => 140 | n => n, fun | 9 => 9 | 3 => 3 | 4 => 4 | 37 => 23 | 0 => 0 | 127 => 189 | 5 => 5 | n => n, fun | n => n⟩
theorem Tryz.laysM316 : Go.Proofs.LaysM.n316 Tryz.prog Tryz.laysM316_ren := {
  mixed := by kernel_rfl
  f316 := Tryz.func140.trans (congrArg some (by kernel_rfl))
  t0 := Tryz.underlying0
  a0 := Tryz.isAgg0
  z0 := Tryz.sizeOf0
  v0 := Tryz.zeroValue0
  t3 := Tryz.underlying3
  a3 := Tryz.isAgg3
  z3 := Tryz.sizeOf3
  v3 := Tryz.zeroValue3
  t4 := Tryz.underlying4
  a4 := Tryz.isAgg4
  z4 := Tryz.sizeOf4
  v4 := Tryz.zeroValue4
  t9 := Tryz.underlying9
  a9 := Tryz.isAgg9
  z9 := Tryz.sizeOf9
  v9 := Tryz.zeroValue9
  t37 := Tryz.underlying23
  a37 := Tryz.isAgg23
  z37 := Tryz.sizeOf23
  v37 := Tryz.zeroValue23
  t127 := Tryz.underlying189
  a127 := Tryz.isAgg189
  z127 := Tryz.sizeOf189
  v127 := Tryz.zeroValue189
  t5 := Tryz.underlying5
  a5 := Tryz.isAgg5
  z5 := Tryz.sizeOf5
  v5 := Tryz.zeroValue5
  i0 := by kernel_rfl
  i3 := by kernel_rfl
  i4 := by kernel_rfl
  i5 := by kernel_rfl
  i9 := by kernel_rfl
  i37 := by kernel_rfl
  i127 := by kernel_rfl }
open Go.RowKit in
theorem Tryz.stringslite_Clone (s : ByteArray) (w : World) (hlim : s.size ≤ 281474976710656) :
    Calls Tryz.prog 140 #[.string s] w fun e w' => e = .returned (.string s) ∧ Below w.heap.size w w' := Any.stringslite_Clone Tryz.laysM316 s w hlim
end Go.Proofs
namespace Go.Proofs.YtbmhnjghpjkjpaaGreatDoor
open Go Go.PV
theorem meets_lib1 {f : FuncId} {fn : Func} {c : Code} {args : List PV} {res : PV} (hf : Tryz.prog.funcs[f]? = some fn) (hname : (fn.name == "runtime.NumGoroutine") = false) (hb : fn.body = some c)
    (h : ∀ (w : World) (A : Nat → Prop) (vs : Array Value), args.length = vs.size → (∀ i, i < args.length → RD w A (args.getD i .undef) (vs.getD i undef)) →
      ∃ v, (∀ w' A, RD w' A res v) ∧ Calls Tryz.prog f vs w fun e w' => e = .returned v ∧ Go.RowKit.Below w.heap.size w w') : Meets Tryz.prog f args res := by
  refine ⟨fun w A vs hA hl ha => ?_⟩
  obtain ⟨v, hv, hc⟩ := h w A vs hl ha
  exact .inl ⟨call_enters hf hname hb vs w, hc.mono fun e w' ⟨he, hbel⟩ => ⟨v, he, hbel, hv _ _⟩⟩
theorem lite_clone (s : List Int) (hsl : s.length ≤ 281474976710656) : Meets Tryz.prog 140 [.str s] (.str s) := by
  refine meets_lib1 Tryz.func140 (by kernel_rfl) (c := _) rfl fun w A vs hl ha => ?_
  have hs : vs.size = 1 := by simpa using hl.symm
  obtain ⟨u, rfl⟩ : ∃ u, vs = #[u] := ⟨vs[0], Array.ext (by simp [hs]) fun i h1 h2 => by
    match i, h1 with
    | 0, _ => rfl
    | i + 1, h1 => omega⟩
  have h1 := ha 0 (by simp)
  have h1 : RD w A (.str s) u := by simpa using h1
  cases h1 with
  | str b _ h =>
    refine ⟨.string b, fun w' A => .str _ _ h, Tryz.stringslite_Clone b w ?_⟩
    have := bytesI_length b
    rw [h] at this
    omega
theorem str_clone (s : List Int) (hsl : s.length ≤ 281474976710656) : Meets Tryz.prog 95 [.str s] (.str s) := by
  have h1 := lite_clone s hsl
  refine meets_by ttOk Tryz.func95 Tryz.ntmps95 Tryz.results95 (by kernel_rfl) (c := _) rfl rfl rfl fun E => ?_
  simp only [argsFrame]
  repeat' first
    | (with_reducible first | refine PW.seq ?_ | refine PW.block ?_ | refine PW.fork ?_ | refine PW.skip ?_ | refine PW.exit ?_ | refine PW.ret ?_ | refine PW.scope ?_ | refine PW.label ?_ | refine PW.goto ?_)
    | (with_reducible refine PW.region ttOk ?_ ?_
       · rfl)
    | (with_reducible refine PW.regionD ttOk mixed ?_ ?_ ?_
       · rfl
       · rfl) | (with_reducible refine ifW_dec (fun g => ?_) (fun g => ?_) <;> first | (exfalso; omega) | (simp -dsimp only [g, wkI])) | (with_reducible refine condE_dec (fun g => ?_) (fun g => ?_) <;> try (exfalso; omega)) | (with_reducible refine condE_not (fun g => ?_) (fun g => ?_) <;> try (exfalso; omega)) | (simp -dsimp only [↓wkA, ↓wkE, ↓wkJ, wkB, ↓tt, Nat.reduceBEq, Nat.reduceEqDiff, ↓reduceIte, Nat.reduceLT, Array.toList, Nat.reduceAdd, Nat.reduceMul, Int.reduceToNat, Int.reducePow, UInt8.reduceToNat]) | (refine call_by (h1) (views_data rfl) ⟨trivial, trivial⟩ rfl ?_) | (refine callD_by (h1) (views_data rfl) ⟨trivial, trivial⟩ rfl ?_) | (simp -dsimp (disch := first | assumption | omega) only [dec_t, dec_f])
    | (refine And.intro ?_ ?_
       · first | omega | decide | (simp (disch := omega) only [wkW, Int.reduceToNat, Int.reducePow] <;> omega) | (simp <;> omega)) | (simp (disch := omega) only [wkW, Int.reduceToNat, Int.reducePow]) | fail
def isDig (x : Int) : Prop := 48 ≤ x ∧ x ≤ 57
instance (x : Int) : Decidable (isDig x) := inferInstanceAs (Decidable (_ ∧ _))
theorem digit_at (s : List Int) (i : Nat) (hi : i < s.length) (hsl : s.length ≤ 281474976710656) : Meets Tryz.prog 57 [.str s, .int .i64 (i : Int)] (.bool (decide (isDig (s.getD i 0)))) := by
  have d1 : decide ((i : Int) < (s.length : Int)) = true := decide_eq_true (by omega)
  rw [show decide (isDig (s.getD i 0)) = (decide (48 ≤ s.getD i 0) && decide (s.getD i 0 ≤ 57)) from Bool.decide_and ..]
  by_cases h1 : 48 ≤ s.getD i 0
  case' pos => have d2 : decide (48 ≤ s.getD i 0) = true := decide_eq_true h1
  case' neg => have d2 : decide (48 ≤ s.getD i 0) = false := decide_eq_false h1
  all_goals rw [d2]
  all_goals (refine meets_by ttOk Tryz.func57 Tryz.ntmps57 Tryz.results57 (by kernel_rfl) (c := _) rfl rfl rfl fun E => ?_; simp only [argsFrame])
  all_goals
    repeat' first
      | (with_reducible first | refine PW.seq ?_ | refine PW.block ?_ | refine PW.fork ?_ | refine PW.skip ?_ | refine PW.exit ?_ | refine PW.ret ?_ | refine PW.scope ?_ | refine PW.label ?_ | refine PW.goto ?_) | (simp only [d1, d2, Int.toNat_natCast, Bool.true_and, Bool.false_and])
      | (with_reducible refine PW.region ttOk ?_ ?_
         · rfl)
      | (with_reducible refine PW.regionD ttOk mixed ?_ ?_ ?_
         · rfl
         · rfl) | (with_reducible refine ifW_dec (fun g => ?_) (fun g => ?_) <;> first | (exfalso; omega) | (simp -dsimp only [g, wkI])) | (with_reducible refine condE_dec (fun g => ?_) (fun g => ?_) <;> try (exfalso; omega)) | (with_reducible refine condE_not (fun g => ?_) (fun g => ?_) <;> try (exfalso; omega)) | (simp -dsimp only [↓wkA, ↓wkE, ↓wkJ, wkB, ↓tt, Nat.reduceBEq, Nat.reduceEqDiff, ↓reduceIte, Nat.reduceLT, Array.toList, Nat.reduceAdd, Nat.reduceMul, Int.reduceToNat, Int.reducePow, UInt8.reduceToNat]) | (simp -dsimp (disch := first | assumption | omega) only [dec_t, dec_f])
      | (refine And.intro ?_ ?_
         · first | omega | decide | (simp (disch := omega) only [wkW, Int.reduceToNat, Int.reducePow] <;> omega) | (simp <;> omega)) | (simp (disch := omega) only [wkW, Int.reduceToNat, Int.reducePow]) | fail
section
variable {P : Program} {tt : Tab}
theorem opsE_nil {all : List Oper} {F : PV.Frame} {H H1 : PV.Heap} {K : PV.Frame → PV.Heap → Prop} : opsE P tt all [] F H H1 K = K F H1 := rfl
theorem opsE_cons {all : List Oper} {o : Oper} {rest : List Oper} {F : PV.Frame} {H H1 : PV.Heap} {K : PV.Frame → PV.Heap → Prop} : opsE P tt all (o :: rest) F H H1 K = match o.op with
    | .store t p v => storeW tt t (ev F.get p) (ev F.get v) H fun H' => opsE P tt all rest (F.put o.dst (.tup [])) H H' K
    | _ => wantW all F o (stepD P tt o (ev F.get) H fun q => opsE P tt all rest (F.put o.dst q) H H1 K) (opsE P tt all rest (F.put o.dst (.tup [])) H H1 K) := by
  obtain ⟨d, op, _, _, _, _⟩ := o
  cases op <;> rfl
theorem opsX_nil {all : List Oper} {F : PV.Frame} {H : PV.Heap} {K : PV.Frame → Prop} : opsX P tt all [] F H K = K F := rfl
theorem opsX_cons {all : List Oper} {o : Oper} {rest : List Oper} {F : PV.Frame} {H : PV.Heap} {K : PV.Frame → Prop} : opsX P tt all (o :: rest) F H K = match o.op with
    | .store t p v => opsX P tt all rest (F.put o.dst (.tup [])) H K
    | _ => wantW all F o (stepD P tt o (ev F.get) H fun q => opsX P tt all rest (F.put o.dst q) H K) (opsX P tt all rest (F.put o.dst (.tup [])) H K) := by
  obtain ⟨d, op, _, _, _, _⟩ := o
  cases op <;> rfl
end
theorem headL_le (c : Int) : ∀ l : List Int, (headL c l).length ≤ l.length
  | [] => Nat.le_refl _
  | x :: r => by
    rw [headL]
    split
    · have := headL_le c r; simp; omega
    · exact Nat.le_refl _
def normS (s : List Int) : List Int := if headL 48 s = [] then [48] else (headL 48 s).take (endN (headL 48 s) 48 (headL 48 s).length)
def normX (s : List Int) (x : Int) : Int := if headL 48 s = [] then 0 else x + (headL 48 s).length - endN (headL 48 s) 48 (headL 48 s).length
theorem scan_normal (neg : Bool) (s : List Int) (x : Int) (hx : -1152921504606846976 ≤ x ∧ x ≤ 1152921504606846976) (hsl : s.length ≤ 281474976710656) :
    Meets Tryz.prog 50 [.agg [.bool neg, .str s, .int .i64 x]] (.agg [.bool neg, .str (normS s), .int .i64 (normX s x)]) := by
  have h1 := trim_left_zero s (by omega)
  have hl1 := headL_le 48 s
  have h2 := trim_right_zero (headL 48 s) (by omega)
  have hl2 := endN_le (headL 48 s) 48 (headL 48 s).length
  have h3 := str_clone ((headL 48 s).take (endN (headL 48 s) 48 (headL 48 s).length)) (by rw [List.length_take]; omega)
  have hl3 : ((headL 48 s).take (endN (headL 48 s) 48 (headL 48 s).length)).length = endN (headL 48 s) 48 (headL 48 s).length := by rw [List.length_take]; omega
  unfold normS normX
  generalize (headL 48 s).take (endN (headL 48 s) 48 (headL 48 s).length) = u at *
  generalize endN (headL 48 s) 48 (headL 48 s).length = k at *
  generalize headL 48 s = t at *
  have w1 : IntKind.wrap .i64 (x + (t.length : Int)) = x + t.length := wrap_i64 (by omega)
  have w2 : IntKind.wrap .i64 (x + (t.length : Int) - (k : Int)) = x + t.length - k := wrap_i64 (by omega)
  by_cases ht : t = []
  case' pos => rw [if_pos ht, if_pos ht]; have d1 : decide (t = []) = true := decide_eq_true ht
  case' neg => rw [if_neg ht, if_neg ht]; have d1 : decide (t = []) = false := decide_eq_false ht
  all_goals (refine meets_by ttOk Tryz.func50 Tryz.ntmps50 Tryz.results50 (by kernel_rfl) (c := _) rfl rfl rfl fun E => ?_; simp only [argsFrame])
  all_goals
    repeat' first
      | (with_reducible first | refine PW.seq ?_ | refine PW.block ?_ | refine PW.fork ?_ | refine PW.skip ?_ | refine PW.exit ?_ | refine PW.ret ?_ | refine PW.scope ?_ | refine PW.label ?_ | refine PW.goto ?_) | (simp only [d1, w1, w2, hl3])
      | (with_reducible refine PW.region ttOk ?_ ?_
         · rfl)
      | (with_reducible refine PW.regionS ttOk mixed ?_ ?_ ?_ ?_
         · rfl
         · rfl
         · rfl)
      | (with_reducible refine PW.regionD ttOk mixed ?_ ?_ ?_
         · rfl
         · rfl) | (with_reducible refine ifW_dec (fun g => ?_) (fun g => ?_) <;> first | (exfalso; omega) | (simp -dsimp only [g, wkI])) | (with_reducible refine condE_dec (fun g => ?_) (fun g => ?_) <;> try (exfalso; omega)) | (with_reducible refine condE_not (fun g => ?_) (fun g => ?_) <;> try (exfalso; omega)) | (simp -dsimp only [↓opsE_nil, ↓opsE_cons, ↓opsX_nil, ↓opsX_cons, same_self, and_true, true_and, ↓wkA, ↓wkE, ↓wkJ, wkB, ↓tt, Nat.reduceBEq, Nat.reduceEqDiff, ↓reduceIte, Nat.reduceLT, Array.toList, Nat.reduceAdd, Nat.reduceMul, Int.reduceToNat, Int.reducePow, UInt8.reduceToNat]) | (refine call_by (h1) (views_data rfl) ⟨trivial, trivial, trivial⟩ rfl ?_) | (refine call_by (h2) (views_data rfl) ⟨trivial, trivial, trivial⟩ rfl ?_) | (refine callD_by (h3) (views_data rfl) ⟨trivial, trivial⟩ rfl ?_) | (simp only [ne_eq, Nat.one_ne_zero, not_false_eq_true, true_and])
      | (refine And.intro (callD_by h3 (views_data rfl) ⟨trivial, trivial⟩ rfl ?_) ?_) | (simp -dsimp (disch := first | assumption | omega) only [dec_t, dec_f])
      | (refine And.intro ?_ ?_
         · first | omega | decide | (simp (disch := omega) only [wkW, Int.reduceToNat, Int.reducePow] <;> omega) | (simp <;> omega)) | (simp (disch := omega) only [wkW, Int.reduceToNat, Int.reducePow]) | fail
  all_goals exact Nat.le_refl _
def AllD (s : List Int) : Prop := ∀ j, j < s.length → isDig (s.getD j 0)
def InR (x : Int) : Prop := -1152921504606846976 ≤ x ∧ x ≤ 1152921504606846976
theorem scan_norm_loop (neg : Bool) (s : List Int) (x : Int) (hs : s ≠ []) (hx : InR x) (hsl : s.length ≤ 281474976710656) (u : List Int) (e : Int) (hn : AllD s → Meets Tryz.prog 50 [.agg [.bool neg, .str s, .int .i64 x]] (.agg [.bool neg, .str u, .int .i64 e])) (res : PV)
    (hr1 : ¬ AllD s → res = .tup [.agg [.bool false, .str [], .int .i64 0], .int .i64 80]) (hr2 : AllD s → 1152921504606846976 < e → res = .tup [.agg [.bool false, .str [], .int .i64 0], .int .i64 80]) (hr3 : AllD s → ¬ 1152921504606846976 < e → res = .tup [.agg [.bool neg, .str u, .int .i64 e], .int .i64 0]) :
    Meets Tryz.prog 25 [.agg [.bool neg, .str s, .int .i64 x]] res := by
  have d1 : decide (s = []) = false := decide_eq_false hs
  have d2 : decide (x < -1152921504606846976) = false := decide_eq_false (by have := hx.1; omega)
  have d3 : decide (1152921504606846976 < x) = false := decide_eq_false (by have := hx.2; omega)
  refine meets_by ttOk Tryz.func25 Tryz.ntmps25 Tryz.results25 (by kernel_rfl) (c := _) rfl rfl rfl fun E => ?_
  simp only [argsFrame]
  repeat' first
    | (with_reducible first | refine PW.seq ?_ | refine PW.block ?_ | refine PW.fork ?_ | refine PW.skip ?_ | refine PW.exit ?_ | refine PW.ret ?_ | refine PW.scope ?_ | refine PW.label ?_ | refine PW.goto ?_) | (simp only [d1, d2, d3, Bool.or_false, Bool.or_self])
    | (with_reducible refine PW.region ttOk ?_ ?_
       · rfl)
    | (with_reducible refine PW.regionD ttOk mixed ?_ ?_ ?_
       · rfl
       · rfl) | (with_reducible refine ifW_dec (fun g => ?_) (fun g => ?_) <;> first | (exfalso; omega) | (simp -dsimp only [g, wkI])) | (with_reducible refine condE_dec (fun g => ?_) (fun g => ?_) <;> try (exfalso; omega)) | (with_reducible refine condE_not (fun g => ?_) (fun g => ?_) <;> try (exfalso; omega)) | (simp -dsimp only [↓wkA, ↓wkE, ↓wkJ, wkB, ↓tt, Nat.reduceBEq, Nat.reduceEqDiff, ↓reduceIte, Nat.reduceLT, Array.toList, Nat.reduceAdd, Nat.reduceMul, Int.reduceToNat, Int.reducePow, UInt8.reduceToNat]) | (simp -dsimp (disch := first | assumption | omega) only [dec_t, dec_f])
    | (refine And.intro ?_ ?_
       · first | omega | decide | (simp (disch := omega) only [wkW, Int.reduceToNat, Int.reducePow] <;> omega) | (simp <;> omega)) | (simp (disch := omega) only [wkW, Int.reduceToNat, Int.reducePow]) | fail
  refine PW.loopA (fun m F H => ∃ i : Nat, i + m = s.length ∧ (∀ j, j < i → isDig (s.getD j 0)) ∧ F = [(23, .int .i64 (i : Int)), (22, .int .i64 (s.length : Int)), (3, .int .i64 0), (2, .ptr 1 0 0), (1, .ptr 0 0 0)] ∧ H = ⟨2, [(0, .var [.bool neg, .str s, .int .i64 x]), (1, .var [.bool false, .str [], .int .i64 0])], [], [(1, 35), (0, 35)]⟩) s.length [(23, .int .i64 ((0 : Nat) : Int)), (22, .int .i64 (s.length : Int)), (3, .int .i64 0), (2, .ptr 1 0 0), (1, .ptr 0 0 0)] ⟨2, [(0, .var [.bool neg, .str s, .int .i64 x]), (1, .var [.bool false, .str [], .int .i64 0])], [], [(1, 35), (0, 35)]⟩ (Sub.norm ⟨rfl, rfl, rfl, rfl, rfl, trivial⟩ ⟨rfl, rfl, trivial⟩ (Nat.le_refl _) rfl rfl rfl rfl (tyOk_spec rfl)) ⟨0, by omega, fun j hj => by omega, rfl, rfl⟩ ?_
  rintro m F H ⟨i, hi, hd, rfl, rfl⟩
  cases m with
  | zero =>
    have e0 : i = s.length := by omega
    have hA : AllD s := fun j hj => hd j (by omega)
    have d4 : decide ((i : Int) < (s.length : Int)) = false := decide_eq_false (by omega)
    replace hn := hn hA
    replace hr2 := hr2 hA
    replace hr3 := hr3 hA
    by_cases h5 : 1152921504606846976 < e
    case' pos => replace hr2 := hr2 h5; subst hr2; have d5 : decide (1152921504606846976 < e) = true := decide_eq_true h5
    case' neg => replace hr3 := hr3 h5; subst hr3; have d5 : decide (1152921504606846976 < e) = false := decide_eq_false h5
    all_goals clear hd hi h5
    all_goals
      repeat' first
        | (with_reducible first | refine PW.seq ?_ | refine PW.block ?_ | refine PW.fork ?_ | refine PW.skip ?_ | refine PW.exit ?_ | refine PW.ret ?_ | refine PW.scope ?_ | refine PW.label ?_ | refine PW.goto ?_) | (simp only [d4, d5])
        | (with_reducible refine PW.region ttOk ?_ ?_
           · rfl)
        | (refine PW.regionA ttOk mixed rfl rfl rfl rfl rfl rfl rfl ?_)
        | (with_reducible refine PW.regionD ttOk mixed ?_ ?_ ?_
           · rfl
           · rfl) | (with_reducible refine ifW_dec (fun g => ?_) (fun g => ?_) <;> first | (exfalso; omega) | (simp -dsimp only [g, wkI])) | (with_reducible refine condE_dec (fun g => ?_) (fun g => ?_) <;> try (exfalso; omega)) | (with_reducible refine condE_not (fun g => ?_) (fun g => ?_) <;> try (exfalso; omega)) | (simp -dsimp only [↓opsA_nil, ↓opsA_cons, same_self, and_true, true_and, ↓wkA, ↓wkE, ↓wkJ, wkB, ↓tt, Nat.reduceBEq, Nat.reduceEqDiff, ↓reduceIte, Nat.reduceLT, Array.toList, Nat.reduceAdd, Nat.reduceMul, Int.reduceToNat, Int.reducePow, UInt8.reduceToNat]) | (refine call_by (hn) (views_data rfl) (by simp only [okViews, okView, okViews0, okView0, and_self]) rfl ?_) | (simp -dsimp (disch := first | assumption | omega) only [dec_t, dec_f])
        | (refine And.intro ?_ ?_
           · first | omega | decide | (simp (disch := omega) only [wkW, Int.reduceToNat, Int.reducePow] <;> omega) | (simp <;> omega)) | (simp (disch := omega) only [wkW, Int.reduceToNat, Int.reducePow]) | fail
  | succ m =>
    have d4 : decide ((i : Int) < (s.length : Int)) = true := decide_eq_true (by omega)
    have hg := digit_at s i (by omega) hsl
    have w1 : IntKind.wrap .i64 ((i : Int) + 1) = ((i + 1 : Nat) : Int) := wrap_i64 (by omega)
    by_cases h5 : isDig (s.getD i 0)
    case' pos => rw [decide_eq_true h5] at hg
    case' neg => rw [decide_eq_false h5] at hg; have h6 := hr1 fun h => h5 (h i (by omega)); subst h6
    all_goals
      repeat' first
        | (with_reducible first | refine PW.seq ?_ | refine PW.block ?_ | refine PW.fork ?_ | refine PW.skip ?_ | refine PW.exit ?_ | refine PW.ret ?_ | refine PW.scope ?_ | refine PW.label ?_ | refine PW.goto ?_) | (simp only [d4, w1, Bool.not_true, Bool.not_false])
        | (with_reducible refine PW.region ttOk ?_ ?_
           · rfl)
        | (with_reducible refine PW.regionD ttOk mixed ?_ ?_ ?_
           · rfl
           · rfl) | (with_reducible refine ifW_dec (fun g => ?_) (fun g => ?_) <;> first | (exfalso; omega) | (simp -dsimp only [g, wkI])) | (with_reducible refine condE_dec (fun g => ?_) (fun g => ?_) <;> try (exfalso; omega)) | (with_reducible refine condE_not (fun g => ?_) (fun g => ?_) <;> try (exfalso; omega)) | (simp -dsimp only [↓wkA, ↓wkE, ↓wkJ, wkB, ↓tt, Nat.reduceBEq, Nat.reduceEqDiff, ↓reduceIte, Nat.reduceLT, Array.toList, Nat.reduceAdd, Nat.reduceMul, Int.reduceToNat, Int.reducePow, UInt8.reduceToNat]) | (refine call_by (hg) (views_data rfl) ⟨trivial, trivial, trivial⟩ rfl ?_) | (simp -dsimp (disch := first | assumption | omega) only [dec_t, dec_f])
        | (refine And.intro ?_ ?_
           · first | omega | decide | (simp (disch := omega) only [wkW, Int.reduceToNat, Int.reducePow] <;> omega) | (simp <;> omega)) | (simp (disch := omega) only [wkW, Int.reduceToNat, Int.reducePow]) | fail
    exact Again.mk m [(23, .int .i64 ((i + 1 : Nat) : Int)), (22, .int .i64 (s.length : Int)), (3, .int .i64 0), (2, .ptr 1 0 0), (1, .ptr 0 0 0)] ⟨2, [(0, .var [.bool neg, .str s, .int .i64 x]), (1, .var [.bool false, .str [], .int .i64 0])], [], [(1, 35), (0, 35)]⟩ (by omega) (Sub.norm ⟨rfl, rfl, rfl, rfl, rfl, trivial⟩ ⟨rfl, rfl, trivial⟩ (Nat.le_refl _) rfl rfl rfl rfl (tyOk_spec rfl)) ⟨i + 1, by omega, fun j hj => by
      rcases Nat.lt_succ_iff_lt_or_eq.1 hj with h | rfl
      · exact hd j h
      · exact h5, rfl, rfl⟩
def NormOk (s : List Int) (x : Int) : Prop := s ≠ [] ∧ InR x ∧ AllD s ∧ normX s x ≤ 1152921504606846976
theorem scan_norm_ok (neg : Bool) {s : List Int} {x : Int} (h : NormOk s x) (hsl : s.length ≤ 281474976710656) : Meets Tryz.prog 25 [.agg [.bool neg, .str s, .int .i64 x]] (.tup [.agg [.bool neg, .str (normS s), .int .i64 (normX s x)], .int .i64 0]) :=
  scan_norm_loop neg s x h.1 h.2.1 hsl (normS s) (normX s x) (fun _ => scan_normal neg s x h.2.1 hsl) _ (fun hn => absurd h.2.2.1 hn) (fun _ hn => by have := h.2.2.2; omega) (fun _ _ => rfl)
theorem or_sign {b : Nat} (hb : b < 9223372036854775808) : ibits .or .u64 (b : Int) 9223372036854775808 = ((b + 9223372036854775808 : Nat) : Int) := by
  change IntKind.wrap .u64 (((BitVec.ofInt 64 (b : Int) ||| BitVec.ofInt 64 9223372036854775808).toNat : Nat) : Int) = _
  have e : (BitVec.ofInt 64 (b : Int) ||| BitVec.ofInt 64 9223372036854775808).toNat = b + 9223372036854775808 := by
    rw [BitVec.toNat_or, BitVec.toNat_ofInt, BitVec.toNat_ofInt]
    have e1 : ((b : Int) % ((2 ^ 64 : Nat) : Int)).toNat = b := by
      rw [Int.emod_eq_of_lt (by omega) (by simp; omega), Int.toNat_natCast]
    have e2 : ((9223372036854775808 : Int) % ((2 ^ 64 : Nat) : Int)).toNat = 2 ^ 63 := by decide
    rw [e1, e2]
    have h := Nat.two_pow_add_eq_or_of_lt (i := 63) (b := b) (by simpa using hb) 1
    rw [Nat.or_comm, show (2 : Nat) ^ 63 = 2 ^ 63 * 1 from (Nat.mul_one _).symm, ← h]
    omega
  rw [e, wrap_u64 (by omega)]
theorem or_none {b : Nat} (hb : b < 9223372036854775808) : ibits .or .u64 (b : Int) 0 = (b : Int) := by
  change IntKind.wrap .u64 (((BitVec.ofInt 64 (b : Int) ||| BitVec.ofInt 64 0).toNat : Nat) : Int) = _
  have e : (BitVec.ofInt 64 (b : Int) ||| BitVec.ofInt 64 0).toNat = b := by
    rw [BitVec.toNat_or, BitVec.toNat_ofInt, BitVec.toNat_ofInt]
    have e1 : ((b : Int) % ((2 ^ 64 : Nat) : Int)).toNat = b := by
      rw [Int.emod_eq_of_lt (by omega) (by simp; omega), Int.toNat_natCast]
    have e2 : ((0 : Int) % ((2 ^ 64 : Nat) : Int)).toNat = 0 := by decide
    rw [e1, e2, Nat.or_zero]
  rw [e, wrap_u64 (by omega)]
def signW (neg : Bool) : Int := if neg then 9223372036854775808 else 0
theorem or_signed (neg : Bool) {b : Nat} (hb : b ≤ infB) : ibits .or .u64 (b : Int) (signW neg) = (signed neg b : Int) := by
  have hb' : b < 9223372036854775808 := by unfold infB at hb; omega
  cases neg with
  | true => rw [signed_t]; exact or_sign hb'
  | false => rw [signed_f]; exact or_none hb'
theorem try_zero (neg : Bool) (x : Int) (h1 : Meets Tryz.prog 25 [.agg [.bool neg, .str [48], .int .i64 x]] (.tup [.agg [.bool neg, .str [48], .int .i64 x], .int .i64 0])) : Meets Tryz.prog 22 [.agg [.bool neg, .str [48], .int .i64 x]] (.tup [.int .u64 (signW neg), .bool true]) := by
  unfold signW
  cases neg
  all_goals simp only [Bool.false_eq_true, if_false, if_true]
  all_goals (refine meets_by ttOk Tryz.func22 Tryz.ntmps22 Tryz.results22 (by kernel_rfl) (c := _) rfl rfl rfl fun E => ?_; simp only [argsFrame])
  all_goals
    repeat' first
      | (with_reducible first | refine PW.seq ?_ | refine PW.block ?_ | refine PW.fork ?_ | refine PW.skip ?_ | refine PW.exit ?_ | refine PW.ret ?_ | refine PW.scope ?_ | refine PW.label ?_ | refine PW.goto ?_)
      | (with_reducible refine PW.region ttOk ?_ ?_
         · rfl)
      | (refine PW.regionA ttOk mixed rfl rfl rfl rfl rfl rfl rfl ?_)
      | (with_reducible refine PW.regionD ttOk mixed ?_ ?_ ?_
         · rfl
         · rfl) | (with_reducible refine ifW_dec (fun g => ?_) (fun g => ?_) <;> first | (exfalso; omega) | (simp -dsimp only [g, wkI])) | (with_reducible refine condE_dec (fun g => ?_) (fun g => ?_) <;> try (exfalso; omega)) | (with_reducible refine condE_not (fun g => ?_) (fun g => ?_) <;> try (exfalso; omega)) | (simp -dsimp only [↓opsA_nil, ↓opsA_cons, same_self, and_true, true_and, ↓wkA, ↓wkE, ↓wkJ, wkB, ↓tt, Nat.reduceBEq, Nat.reduceEqDiff, ↓reduceIte, Nat.reduceLT, Array.toList, Nat.reduceAdd, Nat.reduceMul, Int.reduceToNat, Int.reducePow, UInt8.reduceToNat]) | (refine call_by (h1) (views_data rfl) (by simp only [okViews, okView, okViews0, okView0, and_self]) rfl ?_) | (simp -dsimp (disch := first | assumption | omega) only [dec_t, dec_f])
      | (refine And.intro ?_ ?_
         · first | omega | decide | (simp (disch := omega) only [wkW, Int.reduceToNat, Int.reducePow] <;> omega) | (simp <;> omega)) | (simp (disch := omega) only [wkW, Int.reduceToNat, Int.reducePow]) | fail
theorem worth_dig {x : Int} (h : isDig x) : ((worth x).toNat : Int) = x - 48 := by
  unfold worth
  rw [if_pos (show 48 ≤ x ∧ x ≤ 57 from h)]
  have := h.1
  omega
theorem numN_lt {s : List Int} (hd : AllD s) : ∀ i, i ≤ s.length → numN 10 s i < 10 ^ i
  | 0, _ => Nat.zero_lt_one
  | i + 1, h => by
    have h1 := numN_lt hd i (by omega)
    have h2 := worth_dig (hd i (by omega))
    have := (hd i (by omega)).2
    rw [numN, Nat.pow_succ]
    omega
theorem try_walk (neg : Bool) (s : List Int) (x : Int) (h1 : Meets Tryz.prog 25 [.agg [.bool neg, .str s, .int .i64 x]] (.tup [.agg [.bool neg, .str s, .int .i64 x], .int .i64 0])) (hs : s ≠ [48]) (hd : AllD s) (hx : InR x) (hsl : s.length ≤ 281474976710656)
    (w : Nat) (hw : numN 10 s (min s.length 19) = w) (R1 R2 A B : Int) (ok1 ok2 ka kb : Bool) (R R' : Int) (k : Bool)
    (hS : s.length ≤ 19 → Meets Tryz.prog 52 [.int .u64 (w : Int), .int .i64 x] (.tup [.int .u64 R1, .bool ok1])) (hT : s.length ≤ 19 → ok1 = false → Meets Tryz.prog 53 [.int .u64 (w : Int), .int .i64 x] (.tup [.int .u64 R2, .bool ok2]))
    (hA : 19 < s.length → Meets Tryz.prog 53 [.int .u64 (w : Int), .int .i64 (x + ((s.length : Int) - 19))] (.tup [.int .u64 A, .bool ka])) (hB : 19 < s.length → Meets Tryz.prog 53 [.int .u64 ((w + 1 : Nat) : Int), .int .i64 (x + ((s.length : Int) - 19))] (.tup [.int .u64 B, .bool kb]))
    (hor : k = true → ibits .or .u64 R (signW neg) = R') (hno : k = false → R' = 0)
    (hr : (s.length ≤ 19 → k = (ok1 || ok2) ∧ (ok1 = true → R = R1) ∧ (ok1 = false → ok2 = true → R = R2)) ∧ (19 < s.length → k = (ka && kb && decide (A = B)) ∧ (k = true → R = A))) :
    Meets Tryz.prog 22 [.agg [.bool neg, .str s, .int .i64 x]] (.tup [.int .u64 R', .bool k]) := by
  have d0 : decide (s = [48]) = false := decide_eq_false hs
  cases neg
  all_goals (refine meets_by ttOk Tryz.func22 Tryz.ntmps22 Tryz.results22 (by kernel_rfl) (c := _) rfl rfl rfl fun E => ?_; simp only [argsFrame])
  all_goals
    repeat' first
      | (with_reducible first | refine PW.seq ?_ | refine PW.block ?_ | refine PW.fork ?_ | refine PW.skip ?_ | refine PW.exit ?_ | refine PW.ret ?_ | refine PW.scope ?_ | refine PW.label ?_ | refine PW.goto ?_) | (simp only [d0])
      | (with_reducible refine PW.region ttOk ?_ ?_
         · rfl)
      | (refine PW.regionA ttOk mixed rfl rfl rfl rfl rfl rfl rfl ?_)
      | (with_reducible refine PW.regionD ttOk mixed ?_ ?_ ?_
         · rfl
         · rfl) | (with_reducible refine ifW_dec (fun g => ?_) (fun g => ?_) <;> first | (exfalso; omega) | (simp -dsimp only [g, wkI])) | (with_reducible refine condE_dec (fun g => ?_) (fun g => ?_) <;> try (exfalso; omega)) | (with_reducible refine condE_not (fun g => ?_) (fun g => ?_) <;> try (exfalso; omega)) | (simp -dsimp only [↓opsA_nil, ↓opsA_cons, same_self, and_true, true_and, ↓wkA, ↓wkE, ↓wkJ, wkB, ↓tt, Nat.reduceBEq, Nat.reduceEqDiff, ↓reduceIte, Nat.reduceLT, Array.toList, Nat.reduceAdd, Nat.reduceMul, Int.reduceToNat, Int.reducePow, UInt8.reduceToNat]) | (refine call_by (h1) (views_data rfl) (by simp only [okViews, okView, okViews0, okView0, and_self]) rfl ?_) | (simp -dsimp (disch := first | assumption | omega) only [dec_t, dec_f])
      | (refine And.intro ?_ ?_
         · first | omega | decide | (simp (disch := omega) only [wkW, Int.reduceToNat, Int.reducePow] <;> omega) | (simp <;> omega)) | (simp (disch := omega) only [wkW, Int.reduceToNat, Int.reducePow]) | fail
  case' false => let ng : Bool := false
  case' true => let ng : Bool := true
  all_goals replace hor : k = true → ibits .or .u64 R (signW ng) = R' := hor
  all_goals (refine PW.loopA (fun m F H => ∃ i : Nat, i + m = min s.length 19 ∧ F = [(10, .int .i64 (i : Int)), (9, .int .i64 ((s.length : Int) - 19)), (8, .int .i64 x), (7, .int .u64 (numN 10 s i : Int)), (6, .int .u64 (signW ng)), (3, .bool false), (2, .int .u64 0), (1, .ptr 0 0 0)] ∧ H = ⟨2, [(0, .var [.bool ng, .str s, .int .i64 x]), (1, .var [.bool ng, .str s, .int .i64 x])], [], [(1, 35), (0, 35)]⟩) (min s.length 19) [(10, .int .i64 ((0 : Nat) : Int)), (9, .int .i64 ((s.length : Int) - 19)), (8, .int .i64 x), (7, .int .u64 ((0 : Nat) : Int)), (6, .int .u64 (signW ng)), (3, .bool false), (2, .int .u64 0), (1, .ptr 0 0 0)] ⟨2, [(0, .var [.bool ng, .str s, .int .i64 x]), (1, .var [.bool ng, .str s, .int .i64 x])], [], [(1, 35), (0, 35)]⟩ (Sub.norm ⟨rfl, rfl, rfl, rfl, rfl, rfl, rfl, rfl, trivial⟩ ⟨rfl, rfl, trivial⟩ (Nat.le_refl _) rfl rfl rfl rfl (tyOk_spec rfl)) ⟨0, by omega, rfl, rfl⟩ ?_)
  all_goals
    rintro m F H ⟨i, hi, rfl, rfl⟩
    clear_value ng
    have hb := numN_lt hd i (by omega)
    cases m with
    | zero =>
      have hw2 : numN 10 s i = w := by rw [show i = min s.length 19 by omega]; exact hw
      rw [hw2] at hb ⊢
      have hb2 : w < 10 ^ 19 := Nat.lt_of_lt_of_le hb (Nat.pow_le_pow_right (by decide) (by omega))
      rw [show (10 : Nat) ^ 19 = 10000000000000000000 by decide] at hb2
      clear hb hw hw2 hd
      by_cases h19 : s.length ≤ 19
      · have d4 : decide ((i : Int) < (s.length : Int)) = false := decide_eq_false (by omega)
        have d6 : decide ((s.length : Int) - 19 ≤ 0) = true := decide_eq_true (by omega)
        replace hS := hS h19
        obtain ⟨k0, k1, k2⟩ := hr.1 h19
        clear hA hB hr
        cases ok1 with
        | true =>
          obtain rfl := k1 rfl
          obtain rfl : k = true := k0
          replace hor := hor rfl
          repeat' first
            | (with_reducible first | refine PW.seq ?_ | refine PW.block ?_ | refine PW.fork ?_ | refine PW.skip ?_ | refine PW.exit ?_ | refine PW.ret ?_ | refine PW.scope ?_ | refine PW.label ?_ | refine PW.goto ?_) | (simp only [d4, d6, hor])
            | (with_reducible refine PW.region ttOk ?_ ?_
               · rfl)
            | (with_reducible refine PW.regionD ttOk mixed ?_ ?_ ?_
               · rfl
               · rfl) | (with_reducible refine ifW_dec (fun g => ?_) (fun g => ?_) <;> first | (exfalso; omega) | (simp -dsimp only [g, wkI])) | (with_reducible refine condE_dec (fun g => ?_) (fun g => ?_) <;> try (exfalso; omega)) | (with_reducible refine condE_not (fun g => ?_) (fun g => ?_) <;> try (exfalso; omega)) | (simp -dsimp only [↓wkA, ↓wkE, ↓wkJ, wkB, ↓tt, Nat.reduceBEq, Nat.reduceEqDiff, ↓reduceIte, Nat.reduceLT, Array.toList, Nat.reduceAdd, Nat.reduceMul, Int.reduceToNat, Int.reducePow, UInt8.reduceToNat]) | (refine call_by (hS) (views_data rfl) ⟨trivial, trivial, trivial⟩ rfl ?_) | (simp -dsimp (disch := first | assumption | omega) only [dec_t, dec_f])
            | (refine And.intro ?_ ?_
               · first | omega | decide | (simp (disch := omega) only [wkW, Int.reduceToNat, Int.reducePow] <;> omega) | (simp <;> omega)) | (simp (disch := omega) only [wkW, Int.reduceToNat, Int.reducePow]) | fail
        | false =>
          replace hT := hT h19 rfl
          cases ok2 with
          | true =>
            obtain rfl := k2 rfl rfl
            obtain rfl : k = true := k0
            replace hor := hor rfl
            repeat' first
              | (with_reducible first | refine PW.seq ?_ | refine PW.block ?_ | refine PW.fork ?_ | refine PW.skip ?_ | refine PW.exit ?_ | refine PW.ret ?_ | refine PW.scope ?_ | refine PW.label ?_ | refine PW.goto ?_) | (simp only [d4, d6, hor])
              | (with_reducible refine PW.region ttOk ?_ ?_
                 · rfl)
              | (with_reducible refine PW.regionD ttOk mixed ?_ ?_ ?_
                 · rfl
                 · rfl) | (with_reducible refine ifW_dec (fun g => ?_) (fun g => ?_) <;> first | (exfalso; omega) | (simp -dsimp only [g, wkI])) | (with_reducible refine condE_dec (fun g => ?_) (fun g => ?_) <;> try (exfalso; omega)) | (with_reducible refine condE_not (fun g => ?_) (fun g => ?_) <;> try (exfalso; omega)) | (simp -dsimp only [↓wkA, ↓wkE, ↓wkJ, wkB, ↓tt, Nat.reduceBEq, Nat.reduceEqDiff, ↓reduceIte, Nat.reduceLT, Array.toList, Nat.reduceAdd, Nat.reduceMul, Int.reduceToNat, Int.reducePow, UInt8.reduceToNat]) | (refine call_by (hS) (views_data rfl) ⟨trivial, trivial, trivial⟩ rfl ?_) | (refine call_by (hT) (views_data rfl) ⟨trivial, trivial, trivial⟩ rfl ?_) | (simp -dsimp (disch := first | assumption | omega) only [dec_t, dec_f])
              | (refine And.intro ?_ ?_
                 · first | omega | decide | (simp (disch := omega) only [wkW, Int.reduceToNat, Int.reducePow] <;> omega) | (simp <;> omega)) | (simp (disch := omega) only [wkW, Int.reduceToNat, Int.reducePow]) | fail
          | false =>
            obtain rfl : k = false := k0
            obtain rfl := hno rfl
            repeat' first
              | (with_reducible first | refine PW.seq ?_ | refine PW.block ?_ | refine PW.fork ?_ | refine PW.skip ?_ | refine PW.exit ?_ | refine PW.ret ?_ | refine PW.scope ?_ | refine PW.label ?_ | refine PW.goto ?_) | (simp only [d4, d6])
              | (with_reducible refine PW.region ttOk ?_ ?_
                 · rfl)
              | (with_reducible refine PW.regionD ttOk mixed ?_ ?_ ?_
                 · rfl
                 · rfl) | (with_reducible refine ifW_dec (fun g => ?_) (fun g => ?_) <;> first | (exfalso; omega) | (simp -dsimp only [g, wkI])) | (with_reducible refine condE_dec (fun g => ?_) (fun g => ?_) <;> try (exfalso; omega)) | (with_reducible refine condE_not (fun g => ?_) (fun g => ?_) <;> try (exfalso; omega)) | (simp -dsimp only [↓wkA, ↓wkE, ↓wkJ, wkB, ↓tt, Nat.reduceBEq, Nat.reduceEqDiff, ↓reduceIte, Nat.reduceLT, Array.toList, Nat.reduceAdd, Nat.reduceMul, Int.reduceToNat, Int.reducePow, UInt8.reduceToNat]) | (refine call_by (hS) (views_data rfl) ⟨trivial, trivial, trivial⟩ rfl ?_) | (refine call_by (hT) (views_data rfl) ⟨trivial, trivial, trivial⟩ rfl ?_) | (simp -dsimp (disch := first | assumption | omega) only [dec_t, dec_f])
              | (refine And.intro ?_ ?_
                 · first | omega | decide | (simp (disch := omega) only [wkW, Int.reduceToNat, Int.reducePow] <;> omega) | (simp <;> omega)) | (simp (disch := omega) only [wkW, Int.reduceToNat, Int.reducePow]) | fail
      · have d4 : decide ((i : Int) < (s.length : Int)) = true := decide_eq_true (by omega)
        have d5 : decide ((i : Int) < 19) = false := decide_eq_false (by omega)
        have d6 : decide ((s.length : Int) - 19 ≤ 0) = false := decide_eq_false (by omega)
        have hx1 := hx.1
        have hx2 := hx.2
        have w1 : IntKind.wrap .i64 (x + ((s.length : Int) - 19)) = x + ((s.length : Int) - 19) := wrap_i64 (by omega)
        have w2 : IntKind.wrap .u64 ((w : Int) + 1) = ((w + 1 : Nat) : Int) := by rw [wrap_u64 (by omega)]; omega
        replace hA := hA (by omega)
        replace hB := hB (by omega)
        obtain ⟨k0, k1⟩ := hr.2 (by omega)
        clear hS hT hr
        by_cases hAB : A = B
        case' pos => have d7 : decide (A = B) = true := decide_eq_true hAB
        case' neg => have d7 : decide (A = B) = false := decide_eq_false hAB
        all_goals (rw [d7] at k0; cases ka <;> cases kb)
        all_goals clear hAB
        all_goals first
          | (obtain rfl : k = false := k0
             obtain rfl := hno rfl
             clear hor)
          | (obtain rfl : k = true := k0
             obtain rfl := k1 rfl
             replace hor := hor rfl)
        all_goals
          repeat' first
            | (with_reducible first | refine PW.seq ?_ | refine PW.block ?_ | refine PW.fork ?_ | refine PW.skip ?_ | refine PW.exit ?_ | refine PW.ret ?_ | refine PW.scope ?_ | refine PW.label ?_ | refine PW.goto ?_) | (simp only [d4, d5, d6, d7, w1, w2])
            | (with_reducible refine PW.region ttOk ?_ ?_
               · rfl)
            | (with_reducible refine PW.regionD ttOk mixed ?_ ?_ ?_
               · rfl
               · rfl) | (with_reducible refine ifW_dec (fun g => ?_) (fun g => ?_) <;> first | (exfalso; omega) | (simp -dsimp only [g, wkI])) | (with_reducible refine condE_dec (fun g => ?_) (fun g => ?_) <;> try (exfalso; omega)) | (with_reducible refine condE_not (fun g => ?_) (fun g => ?_) <;> try (exfalso; omega)) | (simp -dsimp only [↓wkA, ↓wkE, ↓wkJ, wkB, ↓tt, Nat.reduceBEq, Nat.reduceEqDiff, ↓reduceIte, Nat.reduceLT, Array.toList, Nat.reduceAdd, Nat.reduceMul, Int.reduceToNat, Int.reducePow, UInt8.reduceToNat]) | (simp only [hor]) | (refine call_by (hA) (views_data rfl) ⟨trivial, trivial, trivial⟩ rfl ?_) | (refine call_by (hB) (views_data rfl) ⟨trivial, trivial, trivial⟩ rfl ?_) | (simp -dsimp (disch := first | assumption | omega) only [dec_t, dec_f])
            | (refine And.intro ?_ ?_
               · first | omega | decide | (simp (disch := omega) only [wkW, Int.reduceToNat, Int.reducePow] <;> omega) | (simp <;> omega)) | (simp (disch := omega) only [wkW, Int.reduceToNat, Int.reducePow]) | fail
    | succ m =>
      have d4 : decide ((i : Int) < (s.length : Int)) = true := decide_eq_true (by omega)
      have d5 : decide ((i : Int) < 19) = true := decide_eq_true (by omega)
      have hb2 : numN 10 s i < 10 ^ 18 := Nat.lt_of_lt_of_le hb (Nat.pow_le_pow_right (by decide) (by omega))
      rw [show (10 : Nat) ^ 18 = 1000000000000000000 by decide] at hb2
      have hdi := hd i (by omega)
      have hwd := worth_dig hdi
      have hn : numN 10 s (i + 1) = numN 10 s i * 10 + (worth (s.getD i 0)).toNat := by rw [numN]
      have g1 := hdi.1
      have g2 := hdi.2
      have w0 : IntKind.wrap .u8 (s.getD i 0 - 48) = s.getD i 0 - 48 := by rw [IntKind.wrap_u8]; omega
      have w1 : IntKind.wrap .u64 (10 * (numN 10 s i : Int)) = 10 * (numN 10 s i : Int) := wrap_u64 (by omega)
      have w2 : IntKind.wrap .u64 (10 * (numN 10 s i : Int) + (s.getD i 0 - 48)) = (numN 10 s (i + 1) : Int) := by rw [wrap_u64 (by omega), hn]; omega
      have w3 : IntKind.wrap .i64 ((i : Int) + 1) = ((i + 1 : Nat) : Int) := by rw [wrap_i64 (by omega)]; omega
      have w4 : IntKind.wrap .u64 (s.getD i 0 - 48) = s.getD i 0 - 48 := wrap_u64 (by omega)
      obtain ⟨v', hv'⟩ : ∃ v', numN 10 s (i + 1) = v' := ⟨_, rfl⟩
      rw [hv'] at w2
      obtain ⟨v, hv⟩ : ∃ v, numN 10 s i = v := ⟨_, rfl⟩
      rw [hv] at w1 w2 ⊢
      repeat' first
        | (with_reducible first | refine PW.seq ?_ | refine PW.block ?_ | refine PW.fork ?_ | refine PW.skip ?_ | refine PW.exit ?_ | refine PW.ret ?_ | refine PW.scope ?_ | refine PW.label ?_ | refine PW.goto ?_) | (simp only [d4, d5, w0, w1, w2, w3, w4, Int.toNat_natCast])
        | (with_reducible refine PW.region ttOk ?_ ?_
           · rfl)
        | (with_reducible refine PW.regionD ttOk mixed ?_ ?_ ?_
           · rfl
           · rfl) | (with_reducible refine ifW_dec (fun g => ?_) (fun g => ?_) <;> first | (exfalso; omega) | (simp -dsimp only [g, wkI])) | (with_reducible refine condE_dec (fun g => ?_) (fun g => ?_) <;> try (exfalso; omega)) | (with_reducible refine condE_not (fun g => ?_) (fun g => ?_) <;> try (exfalso; omega)) | (simp -dsimp only [↓wkA, ↓wkE, ↓wkJ, wkB, ↓tt, Nat.reduceBEq, Nat.reduceEqDiff, ↓reduceIte, Nat.reduceLT, Array.toList, Nat.reduceAdd, Nat.reduceMul, Int.reduceToNat, Int.reducePow, UInt8.reduceToNat]) | (simp -dsimp (disch := first | assumption | omega) only [dec_t, dec_f])
        | (refine And.intro ?_ ?_
           · first | omega | decide | (simp (disch := omega) only [wkW, Int.reduceToNat, Int.reducePow] <;> omega) | (simp <;> omega)) | (simp (disch := omega) only [wkW, Int.reduceToNat, Int.reducePow]) | fail
      exact Again.mk m [(10, .int .i64 ((i + 1 : Nat) : Int)), (9, .int .i64 ((s.length : Int) - 19)), (8, .int .i64 x), (7, .int .u64 (v' : Int)), (6, .int .u64 (signW ng)), (3, .bool false), (2, .int .u64 0), (1, .ptr 0 0 0)] ⟨2, [(0, .var [.bool ng, .str s, .int .i64 x]), (1, .var [.bool ng, .str s, .int .i64 x])], [], [(1, 35), (0, 35)]⟩ (by omega) (Sub.norm ⟨rfl, rfl, rfl, rfl, rfl, rfl, rfl, rfl, trivial⟩ ⟨rfl, rfl, trivial⟩ (Nat.le_refl _) rfl rfl rfl rfl (tyOk_spec rfl)) ⟨i + 1, by omega, by rw [hv'], rfl⟩
theorem two_shift {X Y e1 e2 f1 f2 : Nat} (h : X * 2 ^ e1 ≤ Y * 2 ^ e2) (he : e1 + f2 = e2 + f1) : X * 2 ^ f1 ≤ Y * 2 ^ f2 := by
  refine Nat.le_of_mul_le_mul_right (c := 2 ^ e1) ?_ (Nat.two_pow_pos _)
  have h2 := Nat.mul_le_mul_right (2 ^ f1) h
  rw [Nat.mul_assoc Y, ← Nat.pow_add, ← he, Nat.pow_add] at h2
  calc X * 2 ^ f1 * 2 ^ e1 = X * 2 ^ e1 * 2 ^ f1 := Nat.mul_right_comm ..
    _ ≤ Y * (2 ^ e1 * 2 ^ f2) := h2
    _ = Y * 2 ^ f2 * 2 ^ e1 := by ac_rfl
theorem five55' {m : Nat} (h : m ≤ 55) : bitlen (5 ^ m) ≤ 128 := bitlen_le (Nat.lt_of_lt_of_le (five55 h) (by decide))
theorem lt_up (F : Nat) {d : Nat} (h : 0 < d) : F < (F / d + 1) * d := by
  have h1 := Nat.div_add_mod F d
  have h2 := Nat.mod_lt F h
  rw [Nat.add_mul, Nat.one_mul, Nat.mul_comm (F / d)]
  omega
theorem row_low (q : Int) : rowP q * (2 ^ (rowE q).toNat * 5 ^ (-q).toNat) ≤ 5 ^ q.toNat * 2 ^ (-rowE q).toNat := by
  unfold rowP rowE
  by_cases h : 0 ≤ q
  · rw [if_pos h, if_pos h, show (-q).toNat = 0 by omega, Nat.pow_zero, Nat.mul_one]
    generalize 5 ^ q.toNat = F
    by_cases hb : bitlen F ≤ 128
    · rw [if_pos hb, show ((bitlen F : Int) - 128).toNat = 0 by omega, show (-((bitlen F : Int) - 128)).toNat = 128 - bitlen F by omega, Nat.pow_zero, Nat.mul_one]
      exact Nat.le_refl _
    · rw [if_neg hb, show ((bitlen F : Int) - 128).toNat = bitlen F - 128 by omega, show (-((bitlen F : Int) - 128)).toNat = 0 by omega, Nat.pow_zero, Nat.mul_one]
      exact Nat.div_mul_le_self ..
  · rw [if_neg h, if_neg h, show q.toNat = 0 by omega, Nat.pow_zero, Nat.one_mul]
    generalize 5 ^ (-q).toNat = G
    rw [show (-((bitlen G : Int) + 127)).toNat = 0 by omega, show (-(-((bitlen G : Int) + 127))).toNat = bitlen G + 127 by omega, Nat.pow_zero, Nat.one_mul]
    exact Nat.div_mul_le_self ..
theorem row_high (q : Int) : 5 ^ q.toNat * 2 ^ (-rowE q).toNat < (rowP q + 1) * (2 ^ (rowE q).toNat * 5 ^ (-q).toNat) := by
  unfold rowP rowE
  by_cases h : 0 ≤ q
  · rw [if_pos h, if_pos h, show (-q).toNat = 0 by omega, Nat.pow_zero, Nat.mul_one]
    generalize 5 ^ q.toNat = F
    by_cases hb : bitlen F ≤ 128
    · rw [if_pos hb, show ((bitlen F : Int) - 128).toNat = 0 by omega, show (-((bitlen F : Int) - 128)).toNat = 128 - bitlen F by omega, Nat.pow_zero, Nat.mul_one]
      exact Nat.lt_succ_self _
    · rw [if_neg hb, show ((bitlen F : Int) - 128).toNat = bitlen F - 128 by omega, show (-((bitlen F : Int) - 128)).toNat = 0 by omega, Nat.pow_zero, Nat.mul_one]
      exact lt_up _ (Nat.two_pow_pos _)
  · rw [if_neg h, if_neg h, show q.toNat = 0 by omega, Nat.pow_zero, Nat.one_mul]
    have hG := five_pos (-q).toNat
    generalize 5 ^ (-q).toNat = G at *
    rw [show (-((bitlen G : Int) + 127)).toNat = 0 by omega, show (-(-((bitlen G : Int) + 127))).toNat = bitlen G + 127 by omega, Nat.pow_zero, Nat.one_mul]
    exact lt_up _ hG
theorem row_exact {q : Int} (h : 0 ≤ q ∧ q ≤ 55) : rowP q * (2 ^ (rowE q).toNat * 5 ^ (-q).toNat) = 5 ^ q.toNat * 2 ^ (-rowE q).toNat := by
  unfold rowP rowE
  rw [if_pos h.1, if_pos h.1, show (-q).toNat = 0 by omega, Nat.pow_zero, Nat.mul_one]
  have hb := five55' (m := q.toNat) (by omega)
  generalize 5 ^ q.toNat = F at *
  rw [if_pos hb, show ((bitlen F : Int) - 128).toNat = 0 by omega, show (-((bitlen F : Int) - 128)).toNat = 128 - bitlen F by omega, Nat.pow_zero, Nat.mul_one]
theorem ten_split (n : Nat) : 10 ^ n = 2 ^ n * 5 ^ n := by rw [← Nat.mul_pow]
theorem step_low (w : Nat) (q : Int) : stepLo w q ≤ rdec w q := by
  unfold stepLo rbin rdec
  refine rndU_mono (Nat.two_pow_pos _) (ten_pos _) ?_
  have h := Nat.mul_le_mul_left w (row_low q)
  have h2 := two_shift (X := w * rowP q * 5 ^ (-q).toNat) (Y := w * 5 ^ q.toNat) (e1 := (rowE q).toNat) (e2 := (-rowE q).toNat) (f1 := (rowE q + q + 1074).toNat + (-q).toNat) (f2 := q.toNat + 1074 + (-(rowE q + q + 1074)).toNat) (by
    calc w * rowP q * 5 ^ (-q).toNat * 2 ^ (rowE q).toNat = w * (rowP q * (2 ^ (rowE q).toNat * 5 ^ (-q).toNat)) := by ac_rfl
      _ ≤ _ := h
      _ = _ := by ac_rfl) (by omega)
  rw [ten_split, ten_split]
  rw [Nat.pow_add, Nat.pow_add, Nat.pow_add] at h2
  calc _ = w * rowP q * 5 ^ (-q).toNat * (2 ^ (rowE q + q + 1074).toNat * 2 ^ (-q).toNat) := by ac_rfl
    _ ≤ _ := h2
    _ = _ := by ac_rfl
theorem step_high (w : Nat) (q : Int) : rdec w q ≤ stepHi w q := by
  unfold stepHi rbin rdec
  refine rndU_mono (ten_pos _) (Nat.two_pow_pos _) ?_
  have h := Nat.mul_le_mul_left w (Nat.le_of_lt (row_high q))
  have h2 := two_shift (Y := w * (rowP q + 1) * 5 ^ (-q).toNat) (X := w * 5 ^ q.toNat) (e2 := (rowE q).toNat) (e1 := (-rowE q).toNat) (f2 := (rowE q + q + 1074).toNat + (-q).toNat) (f1 := q.toNat + 1074 + (-(rowE q + q + 1074)).toNat) (by
    calc w * 5 ^ q.toNat * 2 ^ (-rowE q).toNat = w * (5 ^ q.toNat * 2 ^ (-rowE q).toNat) := by ac_rfl
      _ ≤ _ := h
      _ = _ := by ac_rfl) (by omega)
  rw [ten_split, ten_split]
  rw [Nat.pow_add, Nat.pow_add, Nat.pow_add] at h2
  calc _ = w * 5 ^ q.toNat * (2 ^ q.toNat * 2 ^ 1074 * 2 ^ (-(rowE q + q + 1074)).toNat) := by ac_rfl
    _ ≤ _ := h2
    _ = _ := by ac_rfl
theorem step_exact (w : Nat) {q : Int} (hq : 0 ≤ q ∧ q ≤ 55) : stepLo w q = rdec w q := by
  refine Nat.le_antisymm (step_low w q) ?_
  unfold stepLo rbin rdec
  refine rndU_mono (ten_pos _) (Nat.two_pow_pos _) ?_
  have h := Nat.mul_le_mul_left w (Nat.le_of_eq (row_exact hq).symm)
  have h2 := two_shift (Y := w * rowP q * 5 ^ (-q).toNat) (X := w * 5 ^ q.toNat) (e2 := (rowE q).toNat) (e1 := (-rowE q).toNat) (f2 := (rowE q + q + 1074).toNat + (-q).toNat) (f1 := q.toNat + 1074 + (-(rowE q + q + 1074)).toNat) (by
    calc w * 5 ^ q.toNat * 2 ^ (-rowE q).toNat = w * (5 ^ q.toNat * 2 ^ (-rowE q).toNat) := by ac_rfl
      _ ≤ _ := h
      _ = _ := by ac_rfl) (by omega)
  rw [ten_split, ten_split]
  rw [Nat.pow_add, Nat.pow_add, Nat.pow_add] at h2
  calc _ = w * 5 ^ q.toNat * (2 ^ q.toNat * 2 ^ 1074 * 2 ^ (-(rowE q + q + 1074)).toNat) := by ac_rfl
    _ ≤ _ := h2
    _ = _ := by ac_rfl
theorem step_right {w : Nat} {q : Int} (h : stepOk w q) : stepV w q = rdec w q := by
  unfold stepV
  by_cases h0 : w = 0
  · rw [if_pos h0, h0, rdec_zero]
  · rw [if_neg h0, if_pos h]
    rcases h with h | ⟨_, h | h⟩
    · exact absurd h h0
    · exact step_exact w h
    · exact Nat.le_antisymm (step_low w q) (h ▸ step_high w q)
def smallOk (w : Nat) (q : Int) : Prop := w ≤ 9007199254740992 ∧ -22 ≤ q ∧ q ≤ 22
instance (w : Nat) (q : Int) : Decidable (smallOk w q) := inferInstanceAs (Decidable (_ ∧ _))
def smallV (w : Nat) (q : Int) : Nat := if smallOk w q then rdec w q else 0
theorem quick_small_all (w : Nat) (q : Int) : Meets Tryz.prog 52 [.int .u64 (w : Int), .int .i64 q] (.tup [.int .u64 (smallV w q : Int), .bool (decide (smallOk w q))]) := by
  unfold smallV
  by_cases h : smallOk w q
  · rw [if_pos h, decide_eq_true h]
    exact quick_small w h.1 q h.2
  · rw [if_neg h, decide_eq_false h]
    refine small_no _ _ ?_
    unfold smallOk at h
    omega
theorem rdec_mono' {v u : Nat} (h : v ≤ u) (x : Int) : rdec v x ≤ rdec u x :=
  rdec_mono (Nat.mul_le_mul_right _ (Nat.mul_le_mul_right _ h))
theorem digs_all {s : List Int} (h : AllD s) : Digs s := fun x hx => by
  obtain ⟨i, hi, rfl⟩ := List.mem_iff_getElem.1 hx
  have := h i hi
  rw [List.getD_eq_getElem?_getD, List.getElem?_eq_getElem hi] at this
  exact this
theorem all_digs {s : List Int} (h : Digs s) : AllD s := fun i hi => digs_get h hi
def NormalD (s : List Int) (x : Int) : Prop := NormOk s x ∧ normS s = s ∧ normX s x = x
def tryK (s : List Int) (x : Int) : Prop := s = [48] ∨ (s ≠ [48] ∧ s.length ≤ 19 ∧ (smallOk (num 10 s) x ∨ stepOk (num 10 s) x)) ∨
  (19 < s.length ∧ stepOk (num 10 (s.take 19)) (x + ((s.length : Int) - 19)) ∧ stepOk (num 10 (s.take 19) + 1) (x + ((s.length : Int) - 19)) ∧ stepV (num 10 (s.take 19)) (x + ((s.length : Int) - 19)) = stepV (num 10 (s.take 19) + 1) (x + ((s.length : Int) - 19)))
instance (s : List Int) (x : Int) : Decidable (tryK s x) := inferInstanceAs (Decidable (_ ∨ _))
def tryV (neg : Bool) (s : List Int) (x : Int) : Nat := if tryK s x then signed neg (rdec (num 10 s) x) else 0
theorem numN_take (s : List Int) : numN 10 s (min s.length 19) = num 10 (s.take 19) := by
  unfold num
  rw [List.length_take, Nat.min_comm]
  exact numN_congr 10 _ fun j hj => (getD_take' (by omega)).symm
theorem step_num {s : List Int} (hd : AllD s) : num 10 (s.take 19) < 10000000000000000000 := by
  rw [← numN_take]
  have h := numN_lt hd (min s.length 19) (Nat.min_le_left ..)
  exact Nat.lt_of_lt_of_le h (Nat.le_trans (Nat.pow_le_pow_right (by decide) (Nat.min_le_right ..)) (by decide))
theorem try_rdec {s : List Int} {x : Int} (hd : AllD s) (hl : 19 < s.length) (h1 : stepOk (num 10 (s.take 19)) (x + ((s.length : Int) - 19))) (h2 : stepOk (num 10 (s.take 19) + 1) (x + ((s.length : Int) - 19))) (h3 : stepV (num 10 (s.take 19)) (x + ((s.length : Int) - 19)) = stepV (num 10 (s.take 19) + 1) (x + ((s.length : Int) - 19))) :
    stepV (num 10 (s.take 19)) (x + ((s.length : Int) - 19)) = rdec (num 10 s) x := by
  rw [step_right h1] at h3 ⊢
  rw [step_right h2] at h3
  have hs := num_split 10 (s := s) (k := 19) (by omega)
  have hr := num_digs_lt (digs_drop (digs_all hd) 19)
  rw [List.length_drop] at hr
  rw [show x + ((s.length : Int) - 19) = x + ((s.length - 19 : Nat) : Int) by omega] at h3 ⊢
  rw [← rdec_scale] at h3 ⊢
  rw [← rdec_scale] at h3
  generalize num 10 (s.take 19) = w at *
  generalize num 10 (s.drop 19) = r at *
  generalize 10 ^ (s.length - 19) = t at *
  refine Nat.le_antisymm (rdec_mono' (by omega) x) ?_
  rw [h3]
  exact rdec_mono' (by rw [Nat.add_mul, Nat.one_mul]; omega) x
theorem quick_try (neg : Bool) {s : List Int} {x : Int} (h : NormalD s x) (hsl : s.length ≤ 281474976710656) : Meets Tryz.prog 22 [.agg [.bool neg, .str s, .int .i64 x]] (.tup [.int .u64 (tryV neg s x : Int), .bool (decide (tryK s x))]) := by
  have hn := scan_norm_ok neg h.1 hsl
  rw [h.2.1, h.2.2] at hn
  by_cases hs : s = [48]
  · subst hs
    have hk : tryK [48] x := .inl rfl
    have h1 := try_zero neg x hn
    unfold tryV
    rw [decide_eq_true hk, if_pos hk, num_zero, rdec_zero]
    cases neg
    · exact h1
    · rw [signed_t]; exact h1
  · have hd := h.1.2.2.1
    have hw := step_num hd
    by_cases hl : s.length ≤ 19
    · have e : s.take 19 = s := List.take_of_length_le hl
      rw [e] at hw
      have hok : tryK s x ↔ (smallOk (num 10 s) x ∨ stepOk (num 10 s) x) := ⟨fun hk => by
        rcases hk with hk | hk | hk
        · exact absurd hk hs
        · exact hk.2.2
        · exact absurd hk.1 (by omega), fun hk => .inr (.inl ⟨hs, hl, hk⟩)⟩
      refine try_walk neg s x hn hs hd h.1.2.1 hsl (num 10 s) (by rw [numN_take, e]) _ _ 0 0 _ _ false false ((if tryK s x then rdec (num 10 s) x else 0 : Nat) : Int) _ _ (fun _ => quick_small_all _ _) (fun _ _ => quick_step _ (by omega) _) (fun hh => by omega) (fun hh => by omega) (fun hk => ?_) (fun hk => ?_) ⟨fun _ => ⟨?_, fun h1 => ?_, fun h1 h2 => ?_⟩, fun hh => by omega⟩
      · have hk := of_decide_eq_true hk
        unfold tryV
        rw [if_pos hk, if_pos hk]
        exact or_signed neg (rdec_le _ _)
      · have hk := of_decide_eq_false hk
        unfold tryV
        rw [if_neg hk]
        rfl
      · rw [← Bool.decide_or]
        exact decide_eq_decide.2 hok
      · have h1 := of_decide_eq_true h1
        rw [if_pos (hok.2 (.inl h1))]
        unfold smallV
        rw [if_pos h1]
      · have h2 := of_decide_eq_true h2
        rw [if_pos (hok.2 (.inr h2)), step_right h2]
    · have hl : 19 < s.length := by omega
      have hok : tryK s x ↔ (stepOk (num 10 (s.take 19)) (x + ((s.length : Int) - 19)) ∧ stepOk (num 10 (s.take 19) + 1) (x + ((s.length : Int) - 19)) ∧ stepV (num 10 (s.take 19)) (x + ((s.length : Int) - 19)) = stepV (num 10 (s.take 19) + 1) (x + ((s.length : Int) - 19))) := ⟨fun hk => by
        rcases hk with hk | hk | hk
        · exact absurd hk hs
        · exact absurd hk.2.1 (by omega)
        · exact hk.2, fun hk => .inr (.inr ⟨hl, hk⟩)⟩
      refine try_walk neg s x hn hs hd h.1.2.1 hsl (num 10 (s.take 19)) (numN_take s) 0 0 _ _ false false _ _ ((if tryK s x then rdec (num 10 s) x else 0 : Nat) : Int) _ _ (fun hh => by omega) (fun hh => by omega) (fun _ => quick_step _ (by omega) _) (fun _ => quick_step _ (by omega) _) (fun hk => ?_) (fun hk => ?_) ⟨fun hh => by omega, fun _ => ⟨?_, fun hk => ?_⟩⟩
      · have hk := of_decide_eq_true hk
        unfold tryV
        rw [if_pos hk, if_pos hk]
        exact or_signed neg (rdec_le _ _)
      · have hk := of_decide_eq_false hk
        unfold tryV
        rw [if_neg hk]
        rfl
      · rw [← Bool.decide_and, ← Bool.decide_and]
        refine decide_eq_decide.2 (hok.trans ⟨fun hh => ⟨⟨hh.1, hh.2.1⟩, by rw [hh.2.2]⟩, fun hh => ⟨hh.1.1, hh.1.2, Int.ofNat_inj.1 hh.2⟩⟩)
      · have hk := of_decide_eq_true hk
        rw [if_pos hk]
        obtain ⟨h1, h2, h3⟩ := hok.1 hk
        rw [try_rdec hd hl h1 h2 h3]
theorem natL_single {w : Nat} (h0 : w ≠ 0) (h : w < 18446744073709551616) : natL w = [(w : Int)] := by
  unfold natL
  rw [digs_step (by decide) h0, Nat.div_eq_of_lt h, digs_zero, Nat.mod_eq_of_lt h]
  rfl
theorem headL_head {s : List Int} (h : s.getD 0 0 ≠ 48) : headL 48 s = s := by
  cases s with
  | nil => rfl
  | cons y r => rw [headL, if_neg (show ¬ y = 48 from h)]
theorem headL_short {s : List Int} (h : s.getD 0 0 = 48) (hs : s ≠ []) : (headL 48 s).length < s.length := by
  cases s with
  | nil => exact absurd rfl hs
  | cons y r =>
    rw [headL, if_pos (show y = 48 from h), List.length_cons]
    have := headL_le 48 r
    omega
theorem endN_full {s : List Int} (hs : s ≠ []) (h : s.getD (s.length - 1) 0 ≠ 48) : endN s 48 s.length = s.length := by
  have hp := List.length_pos_iff.2 hs
  obtain ⟨n, hn⟩ : ∃ n, s.length = n + 1 := ⟨s.length - 1, by omega⟩
  rw [hn] at h ⊢
  rw [Nat.add_sub_cancel] at h
  rw [endN, if_neg h]
theorem normal_iff {s : List Int} {x : Int} : NormalD s x ↔ AllD s ∧ s ≠ [] ∧ InR x ∧ (s = [48] → x = 0) ∧ (s ≠ [48] → s.getD 0 0 ≠ 48 ∧ s.getD (s.length - 1) 0 ≠ 48) := by
  constructor
  · rintro ⟨⟨h1, h2, h3, h4⟩, h5, h6⟩
    refine ⟨h3, h1, h2, fun h => ?_, fun h => ?_⟩
    · subst h; exact h6.symm
    · unfold normS at h5
      by_cases ht : headL 48 s = []
      · rw [if_pos ht] at h5
        exact absurd h5.symm h
      · rw [if_neg ht] at h5
        have h0 : s.getD 0 0 ≠ 48 := fun e => by
          have l1 := headL_short e h1
          have l2 := congrArg List.length h5
          rw [List.length_take] at l2
          have := Nat.min_le_right (endN (headL 48 s) 48 (headL 48 s).length) (headL 48 s).length
          omega
        rw [headL_head h0] at h5
        have l2 := congrArg List.length h5
        rw [List.length_take] at l2
        have l3 := endN_le s 48 s.length
        have l4 : endN s 48 s.length = s.length := by omega
        have l5 := endN_last (s := s) (c := 48) s.length (by rw [l4]; exact Nat.ne_of_gt (List.length_pos_iff.2 h1))
        rw [l4] at l5
        exact ⟨h0, l5⟩
  · rintro ⟨h3, h1, h2, h4, h5⟩
    by_cases h : s = [48]
    · obtain rfl := h4 h
      subst h
      exact ⟨⟨h1, h2, h3, by decide⟩, by decide, by decide⟩
    · obtain ⟨h6, h7⟩ := h5 h
      have e1 := headL_head h6
      have e2 := endN_full h1 h7
      have e3 : normX s x = x := by
        unfold normX
        rw [e1, if_neg h1, e2]
        omega
      refine ⟨⟨h1, h2, h3, by rw [e3]; exact h2.2⟩, ?_, e3⟩
      unfold normS
      rw [e1, if_neg h1, e2, List.take_length]
def cutS (s : List Int) : List Int := if 770 < s.length then s.take 770 ++ [49] else s
def cutX (s : List Int) (x : Int) : Int := if 770 < s.length then x + ((s.length : Int) - 770 - 1) else x
theorem cutS_len (s : List Int) : (cutS s).length ≤ 771 := by
  unfold cutS
  split
  · rw [List.length_append, List.length_take]; simp; omega
  · omega
theorem cut_len (s : List Int) (x : Int) : cutX s x + (cutS s).length = x + s.length := by
  unfold cutS cutX
  split
  · rw [List.length_append, List.length_take, Nat.min_eq_left (by omega)]; simp; omega
  · rfl
theorem cut_all {s : List Int} (h : AllD s) : AllD (cutS s) := by
  unfold cutS
  split
  · exact all_digs (digs_append (digs_take (digs_all h) 770) (fun x hx => by rw [List.mem_singleton] at hx; subst hx; decide))
  · exact h
theorem num_low {s : List Int} (hd : AllD s) (h0 : s.getD 0 0 ≠ 48) (hs : s ≠ []) : 10 ^ (s.length - 1) ≤ num 10 s := by
  have hp := List.length_pos_iff.2 hs
  have h := num_split 10 (s := s) (k := 1) (by omega)
  have h1 : 1 ≤ num 10 (s.take 1) := by
    refine Nat.pos_of_ne_zero fun e => ?_
    have hl : (s.take 1).length = 1 := by rw [List.length_take]; omega
    have := (numN_allz (digs_take (digs_all hd) 1) 1 (by omega)).1 (by have h2 := e; unfold num at h2; rw [hl] at h2; exact h2) 0 (by decide)
    rw [getD_take' (by decide)] at this
    exact h0 this
  rw [h]
  exact Nat.le_trans (Nat.le_mul_of_pos_left _ h1) (Nat.le_add_right _ _)
theorem cut_rdec {s : List Int} {x : Int} (hd : AllD s) (hs : s ≠ []) (h0 : s.getD 0 0 ≠ 48) (hl : s.getD (s.length - 1) 0 ≠ 48) (he : x + s.length ≤ 400) : rdec (num 10 (cutS s)) (cutX s x) = rdec (num 10 s) x := by
  unfold cutS cutX
  by_cases h : 770 < s.length
  · rw [if_pos h, if_pos h, num_append]
    have hsp := num_split 10 (s := s) (k := 770) (by omega)
    have hr := num_digs_lt (digs_drop (digs_all hd) 770)
    rw [List.length_drop] at hr
    have hT : 10 ^ 769 ≤ num 10 (s.take 770) := by
      have hlen : (s.take 770).length = 770 := by rw [List.length_take]; omega
      have := num_low (all_digs (digs_take (digs_all hd) 770)) (by rw [getD_take' (by decide)]; exact h0) (fun e => by rw [e] at hlen; simp at hlen)
      rw [hlen] at this
      exact this
    have hr0 : 0 < num 10 (s.drop 770) := by
      refine Nat.pos_of_ne_zero fun e => ?_
      have hlen : (s.drop 770).length = s.length - 770 := List.length_drop ..
      have := (numN_allz (digs_drop (digs_all hd) 770) (s.length - 770) (by omega)).1 (by have h2 := e; unfold num at h2; rw [hlen] at h2; exact h2) (s.length - 770 - 1) (by omega)
      rw [getD_drop'] at this
      exact hl (by rw [← this]; congr 1; omega)
    have hc := rdec_cut (x := x) hT ⟨hr0, hr⟩ (by omega) (by omega)
    rw [← hsp] at hc
    rw [← hc]
    have e1 : (worth 49).toNat = 1 := by decide
    rw [e1]
    congr 1
    omega
  · rw [if_neg h, if_neg h]
theorem rdec_great {s : List Int} {x : Int} (hd : AllD s) (hs : s ≠ []) (h0 : s.getD 0 0 ≠ 48) (he : 400 < x + s.length) : rdec (num 10 s) x = infB := by
  have hp := List.length_pos_iff.2 hs
  exact rdec_high (num_low hd h0 hs) (by omega)
theorem rdec_small {s : List Int} {x : Int} (hd : AllD s) (he : x + s.length < -400) : rdec (num 10 s) x = 0 :=
  rdec_low (num_digs_lt (digs_all hd)) (by omega)
theorem by_table (neg : Bool) (s : List Int) (x out : Int) (ok : Bool) (h1 : Meets Tryz.prog 22 [.agg [.bool neg, .str s, .int .i64 x]] (.tup [.int .u64 out, .bool ok])) : Meets Tryz.prog 236 [.agg [], .agg [.bool neg, .str s, .int .i64 x]] (.tup [.int .u64 out, .bool ok]) := by
  refine meets_by ttOk Tryz.func236 Tryz.ntmps236 Tryz.results236 (by kernel_rfl) (c := _) rfl rfl rfl fun E => ?_
  simp only [argsFrame]
  repeat' first
    | (with_reducible first | refine PW.seq ?_ | refine PW.block ?_ | refine PW.fork ?_ | refine PW.skip ?_ | refine PW.exit ?_ | refine PW.ret ?_ | refine PW.scope ?_ | refine PW.label ?_ | refine PW.goto ?_)
    | (with_reducible refine PW.region ttOk ?_ ?_
       · rfl)
    | (with_reducible refine PW.regionD ttOk mixed ?_ ?_ ?_
       · rfl
       · rfl) | (with_reducible refine ifW_dec (fun g => ?_) (fun g => ?_) <;> first | (exfalso; omega) | (simp -dsimp only [g, wkI])) | (with_reducible refine condE_dec (fun g => ?_) (fun g => ?_) <;> try (exfalso; omega)) | (with_reducible refine condE_not (fun g => ?_) (fun g => ?_) <;> try (exfalso; omega)) | (simp -dsimp only [↓wkA, ↓wkE, ↓wkJ, wkB, ↓tt, Nat.reduceBEq, Nat.reduceEqDiff, ↓reduceIte, Nat.reduceLT, Array.toList, Nat.reduceAdd, Nat.reduceMul, Int.reduceToNat, Int.reducePow, UInt8.reduceToNat]) | (refine call_by (h1) (views_data rfl) (by simp only [okViews, okView, okViews0, okView0, and_self]) rfl ?_) | (refine callD_by (h1) (views_data rfl) (by simp only [okViews, okView, okViews0, okView0, and_self]) rfl ?_) | (simp -dsimp (disch := first | assumption | omega) only [dec_t, dec_f])
    | (refine And.intro ?_ ?_
       · first | omega | decide | (simp (disch := omega) only [wkW, Int.reduceToNat, Int.reducePow] <;> omega) | (simp <;> omega)) | (simp (disch := omega) only [wkW, Int.reduceToNat, Int.reducePow]) | fail
theorem naturals_walk (neg : Bool) (s t : List Int) (x y R : Int) (n : Int) (a b p : List Int) (hsl : s.length ≤ 281474976710656) (hx : -2000000000000000000 ≤ x ∧ x ≤ 2000000000000000000) (ht : t = cutS s) (hy : y = cutX s x)
    (h1 : Meets Tryz.prog 28 [.str t] (.tup [.ints .u64 a, .int .i64 0, .int .i64 0]))
    (hc : ((a = [] ∨ (a ≠ [] ∧ x + s.length < -400)) ∧ Meets Tryz.prog 101 [.bool neg, .nil, .int .i64 0, .bool false] (.tup [.int .u64 R, .int .i64 0])) ∨
      (a ≠ [] ∧ ¬ x + s.length < -400 ∧ ((400 < x + s.length ∧ Meets Tryz.prog 101 [.bool neg, .ints .u64 [1], .int .i64 3200, .bool false] (.tup [.int .u64 R, .int .i64 0])) ∨ (¬ 400 < x + s.length ∧
        ((0 ≤ y ∧ Meets Tryz.prog 60 [.int .i64 y] (.tup [.ints .u64 b, .int .i64 0]) ∧ Meets Tryz.prog 61 [.ints .u64 a, .ints .u64 b] (.tup [.ints .u64 p, .int .i64 0]) ∧ Meets Tryz.prog 101 [.bool neg, .ints .u64 p, .int .i64 0, .bool false] (.tup [.int .u64 R, .int .i64 0])) ∨
         (y < 0 ∧ IntKind.wrap .i64 (0 - y) = n ∧ Meets Tryz.prog 75 [.int .i64 n] (.tup [.ints .u64 b, .int .i64 0]) ∧ Meets Tryz.prog 182 [.bool neg, .ints .u64 a, .ints .u64 b, .int .i64 y] (.tup [.int .u64 R, .int .i64 0]))))))) :
    Meets Tryz.prog 235 [.agg [], .agg [.bool neg, .str s, .int .i64 x]] (.tup [.int .u64 R, .bool true]) := by
  have w1 : IntKind.wrap .i64 (x + (s.length : Int)) = x + s.length := wrap_i64 (by omega)
  have hc' : (decide ((a.length : Int) = 0) = true ∧ decide ((a.length : Int) = 0) = true ∧ decide ((a.length : Int) = 0) = true ∧ decide ((a.length : Int) = 0) = true ∧ Meets Tryz.prog 101 [.bool neg, .nil, .int .i64 0, .bool false] (.tup [.int .u64 R, .int .i64 0])) ∨ (decide ((a.length : Int) = 0) = false ∧ decide (x + (s.length : Int) < -400) = true ∧ decide (x + (s.length : Int) < -400) = true ∧ decide (x + (s.length : Int) < -400) = true ∧ Meets Tryz.prog 101 [.bool neg, .nil, .int .i64 0, .bool false] (.tup [.int .u64 R, .int .i64 0])) ∨
      (decide ((a.length : Int) = 0) = false ∧ decide (x + (s.length : Int) < -400) = false ∧ ((decide (400 < x + (s.length : Int)) = true ∧ decide (400 < x + (s.length : Int)) = true ∧ Meets Tryz.prog 101 [.bool neg, .ints .u64 [1], .int .i64 3200, .bool false] (.tup [.int .u64 R, .int .i64 0])) ∨ (decide (400 < x + (s.length : Int)) = false ∧
        ((decide (0 ≤ y) = true ∧ Meets Tryz.prog 60 [.int .i64 y] (.tup [.ints .u64 b, .int .i64 0]) ∧ Meets Tryz.prog 61 [.ints .u64 a, .ints .u64 b] (.tup [.ints .u64 p, .int .i64 0]) ∧ Meets Tryz.prog 101 [.bool neg, .ints .u64 p, .int .i64 0, .bool false] (.tup [.int .u64 R, .int .i64 0])) ∨
         (decide (0 ≤ y) = false ∧ IntKind.wrap .i64 (0 - y) = n ∧ Meets Tryz.prog 75 [.int .i64 n] (.tup [.ints .u64 b, .int .i64 0]) ∧ Meets Tryz.prog 182 [.bool neg, .ints .u64 a, .ints .u64 b, .int .i64 y] (.tup [.int .u64 R, .int .i64 0])))))) := by
    have hz : ∀ {l : List Int}, l ≠ [] → decide ((l.length : Int) = 0) = false := fun h => decide_eq_false (by have := List.length_pos_iff.2 h; omega)
    rcases hc with ⟨h | ⟨h, h'⟩, h2⟩ | ⟨h, h', ⟨h3, h4⟩ | ⟨h3, ⟨h4, h5⟩ | ⟨h4, h5⟩⟩⟩
    · have : decide ((a.length : Int) = 0) = true := decide_eq_true (by rw [h]; rfl)
      exact .inl ⟨this, this, this, this, h2⟩
    · have := decide_eq_true h'
      exact .inr (.inl ⟨hz h, this, this, this, h2⟩)
    · exact .inr (.inr ⟨hz h, decide_eq_false h', .inl ⟨decide_eq_true h3, decide_eq_true h3, h4⟩⟩)
    · exact .inr (.inr ⟨hz h, decide_eq_false h', .inr ⟨decide_eq_false h3, .inl ⟨decide_eq_true h4, h5⟩⟩⟩)
    · exact .inr (.inr ⟨hz h, decide_eq_false h', .inr ⟨decide_eq_false h3, .inr ⟨decide_eq_false (by omega), h5⟩⟩⟩)
  clear hc
  by_cases hl : 770 < s.length
  case' pos =>
    have d0 : decide (770 < (s.length : Int)) = true := decide_eq_true (by omega)
    have hy' : y = x + ((s.length : Int) - 770 - 1) := by rw [hy]; unfold cutX; rw [if_pos hl]
    have ht' : s.take 770 ++ [49] = t := by rw [ht]; unfold cutS; rw [if_pos hl]
    have w5 : IntKind.wrap .i64 ((s.length : Int) - 770) = (s.length : Int) - 770 := wrap_i64 (by omega)
    have w6 : IntKind.wrap .i64 ((s.length : Int) - 770 - 1) = (s.length : Int) - 770 - 1 := wrap_i64 (by omega)
    have w2 : IntKind.wrap .i64 (x + ((s.length : Int) - 770 - 1)) = y := by rw [← hy']; exact wrap_i64 (by omega)
  case' neg =>
    have d0 : decide (770 < (s.length : Int)) = false := decide_eq_false (by omega)
    have hy' : y = x := by rw [hy]; unfold cutX; rw [if_neg hl]
    have ht' : t = s := by rw [ht]; unfold cutS; rw [if_neg hl]
    have w2 := d0
    have w5 := d0
    have w6 := d0
    subst hy' ht'
  all_goals rcases hc' with ⟨d1, d2, d3, d4, h2⟩ | ⟨d1, d2, d3, d4, h2⟩ | ⟨d1, d2, ⟨d3, d4, h2⟩ | ⟨d3, ⟨d4, h2, h3, h4⟩ | ⟨d4, w3, h2, h3⟩⟩⟩
  all_goals (refine meets_by ttOk Tryz.func235 Tryz.ntmps235 Tryz.results235 (by kernel_rfl) (c := _) rfl rfl rfl fun E => ?_; simp only [argsFrame])
  all_goals
    repeat' first
      | (with_reducible first | refine PW.seq ?_ | refine PW.block ?_ | refine PW.fork ?_ | refine PW.skip ?_ | refine PW.exit ?_ | refine PW.ret ?_ | refine PW.scope ?_ | refine PW.label ?_ | refine PW.goto ?_) | (simp only [w1, d0, d1, d2, d3, d4]) | (simp only [ht']) | (simp only [w5, w6, w2]) | (simp only [w3])
      | (with_reducible refine PW.region ttOk ?_ ?_
         · rfl)
      | (with_reducible refine PW.regionD ttOk mixed ?_ ?_ ?_
         · rfl
         · rfl) | (with_reducible refine ifW_dec (fun g => ?_) (fun g => ?_) <;> first | (exfalso; omega) | (simp -dsimp only [g, wkI])) | (with_reducible refine condE_dec (fun g => ?_) (fun g => ?_) <;> try (exfalso; omega)) | (with_reducible refine condE_not (fun g => ?_) (fun g => ?_) <;> try (exfalso; omega)) | (simp -dsimp only [↓wkA, ↓wkE, ↓wkJ, wkB, ↓tt, Nat.reduceBEq, Nat.reduceEqDiff, ↓reduceIte, Nat.reduceLT, Array.toList, Nat.reduceAdd, Nat.reduceMul, Int.reduceToNat, Int.reducePow, UInt8.reduceToNat]) | (refine call_by (h1) (views_data rfl) ⟨trivial, trivial⟩ rfl ?_) | (refine call_by (h2) (views_data rfl) ⟨trivial, trivial, trivial, trivial, trivial⟩ rfl ?_) | (refine call_by (h2) (views_data rfl) ⟨trivial, trivial⟩ rfl ?_) | (refine call_by (h3) (views_data rfl) ⟨trivial, trivial, trivial⟩ rfl ?_) | (refine call_by (h3) (views_data rfl) ⟨trivial, trivial, trivial, trivial, trivial⟩ rfl ?_) | (refine call_by (h4) (views_data rfl) ⟨trivial, trivial, trivial, trivial, trivial⟩ rfl ?_) | (refine call_drop (args' := [.bool neg, .ints .u64 [1], .int .i64 3200, .bool false]) rfl h2 ⟨trivial, Nat.le_refl _, trivial, trivial, trivial⟩ rfl ?_; simp only [wkD, Nat.reduceBEq]) | (refine call_by' (args' := [.bool neg, .ints .u64 [1], .int .i64 3200, .bool false]) rfl h2 ⟨trivial, Nat.le_refl _, trivial, trivial, trivial⟩ rfl ?_) | (simp -dsimp (disch := first | assumption | omega) only [dec_t, dec_f])
      | (refine And.intro ?_ ?_
         · first | omega | decide | (simp (disch := omega) only [wkW, Int.reduceToNat, Int.reducePow] <;> omega) | (simp <;> omega)) | (simp (disch := omega) only [wkW, Int.reduceToNat, Int.reducePow]) | fail
end Go.Proofs.YtbmhnjghpjkjpaaGreatDoor

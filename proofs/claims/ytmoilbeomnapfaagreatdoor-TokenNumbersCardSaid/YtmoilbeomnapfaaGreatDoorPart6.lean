/- Contracts and laws that the row leans on, part 6: texts that were built one by one, laid together. -/
import Derived.Test.YtmoilbeomnapfaaGreatDoorPart5
import Derived.Shelf.Spec.TrailingZeros
set_option maxHeartbeats 4000000
set_option maxRecDepth 4000
set_option exponentiation.threshold 300000
set_option linter.unusedVariables false
set_option linter.unusedSimpArgs false
namespace Go.Proofs.YtmoilbeomnapfaaGreatDoor
open Go Go.PV
theorem and1_i64 {a : Int} (ha : 0 ≤ a ∧ a ≤ 9223372036854775807) : ibits .and .i64 a 1 = a % 2 := by
  change IntKind.wrap .i64 (((BitVec.ofInt 64 a &&& BitVec.ofInt 64 1).toNat : Nat) : Int) = _
  rw [BitVec.toNat_and, BitVec.toNat_ofInt, BitVec.toNat_ofInt]
  have e1 : (a % ((2 ^ 64 : Nat) : Int)).toNat = a.toNat := by rw [Int.emod_eq_of_lt ha.1 (by simp; omega)]
  have e2 : ((1 : Int) % ((2 ^ 64 : Nat) : Int)).toNat = 2 ^ 1 - 1 := by decide
  rw [e1, e2, and_mask, wrap_i64 (by omega)]
  omega
theorem bits_len (x : Int) (hx : 0 ≤ x ∧ x < B64) : Meets Tryz.prog 151 [.int .u64 x] (.int .i64 ((bitlen x.toNat : Nat) : Int)) := by
  have h := len64 x hx
  refine meets_by ttOk Tryz.func151 Tryz.ntmps151 Tryz.results151 (by kernel_rfl) (c := _) rfl rfl rfl fun E => ?_
  simp only [argsFrame]
  repeat' first
    | (with_reducible first | refine PW.seq ?_ | refine PW.block ?_ | refine PW.fork ?_ | refine PW.skip ?_ | refine PW.exit ?_ | refine PW.ret ?_) | ((with_reducible refine PW.region ttOk ?_ ?_); rfl) | ((with_reducible refine PW.regionD ttOk mixed ?_ ?_ ?_); rfl; rfl) | (with_reducible refine ifW_dec (fun g => ?_) (fun g => ?_) <;> first | (exfalso; omega) | (simp -dsimp only [g, wkI])) | ((with_reducible first | refine condE_dec (fun g => ?_) (fun g => ?_) | refine condE_not (fun g => ?_) (fun g => ?_)) <;> try (exfalso; omega)) | (simp -dsimp only [↓wkA, ↓wkE, ↓wkJ, wkB, ↓tt, Nat.reduceBEq, Nat.reduceEqDiff, ↓reduceIte, Nat.reduceLT, Array.toList, Nat.reduceAdd, Nat.reduceMul, Int.reduceToNat, Int.reducePow, UInt8.reduceToNat]) | (refine call_by h (views_data rfl) ⟨trivial, trivial⟩ rfl ?_) | (simp -dsimp (disch := first | assumption | omega) only [dec_t, dec_f])
    | (refine And.intro ?_ ?_
       · first | omega | decide | (simp (disch := omega) only [wkW, Int.reduceToNat, Int.reducePow] <;> omega) | (simp <;> omega)) | (simp (disch := omega) only [wkW, Int.reduceToNat, Int.reducePow])
theorem size_ten : size [10] = 1 := by decide
theorem bitlen_ten : Meets Tryz.prog 53 [.ints .u64 [10]] (.int .i64 4) := by
  have hs := nat_size [10] (by simp)
  rw [size_ten] at hs
  have hl := len64 10 (by decide)
  have e : bitlen (10 : Int).toNat = 4 := by decide
  rw [e] at hl
  refine meets_by ttOk Tryz.func53 Tryz.ntmps53 Tryz.results53 (by kernel_rfl) (c := _) rfl rfl rfl fun E => ?_
  simp only [argsFrame]
  repeat' first
    | (with_reducible first | refine PW.seq ?_ | refine PW.block ?_ | refine PW.fork ?_ | refine PW.skip ?_ | refine PW.exit ?_ | refine PW.ret ?_) | ((with_reducible refine PW.region ttOk ?_ ?_); rfl) | ((with_reducible refine PW.regionD ttOk mixed ?_ ?_ ?_); rfl; rfl) | (with_reducible refine ifW_dec (fun g => ?_) (fun g => ?_) <;> first | (exfalso; omega) | (simp -dsimp only [g, wkI])) | ((with_reducible first | refine condE_dec (fun g => ?_) (fun g => ?_) | refine condE_not (fun g => ?_) (fun g => ?_)) <;> try (exfalso; omega)) | (simp -dsimp only [↓wkA, ↓wkE, ↓wkJ, wkB, ↓tt, Nat.reduceBEq, Nat.reduceEqDiff, ↓reduceIte, Nat.reduceLT, Array.toList, Nat.reduceAdd, Nat.reduceMul, Int.reduceToNat, Int.reducePow, UInt8.reduceToNat]) | (refine call_by hs (views_data rfl) ⟨trivial, trivial⟩ rfl ?_) | (refine call_by hl (views_data rfl) ⟨trivial, trivial⟩ rfl ?_) | (simp -dsimp (disch := first | assumption | omega) only [dec_t, dec_f])
    | (refine And.intro ?_ ?_
       · first | omega | decide | (simp (disch := omega) only [wkW, Int.reduceToNat, Int.reducePow] <;> omega) | (simp <;> omega)) | (simp (disch := omega) only [wkW, Int.reduceToNat, Int.reducePow])
  all_goals (refine congrArg _ ?_; omega)
theorem small_ten : Meets Tryz.prog 93 [.ints .u64 [10], .int .i64 4096] (.tup [.ints .u64 [10], .bool true]) := by
  have h := nat_trim [10] (by simp)
  have e : trim [10] = [10] := by decide
  rw [e] at h
  refine meets_by ttOk Tryz.func93 Tryz.ntmps93 Tryz.results93 (by kernel_rfl) (c := _) rfl rfl rfl fun E => ?_
  simp only [argsFrame]
  repeat' first
    | (with_reducible first | refine PW.seq ?_ | refine PW.block ?_ | refine PW.fork ?_ | refine PW.skip ?_ | refine PW.exit ?_ | refine PW.ret ?_) | ((with_reducible refine PW.region ttOk ?_ ?_); rfl) | ((with_reducible refine PW.regionD ttOk mixed ?_ ?_ ?_); rfl; rfl) | (with_reducible refine ifW_dec (fun g => ?_) (fun g => ?_) <;> first | (exfalso; omega) | (simp -dsimp only [g, wkI])) | ((with_reducible first | refine condE_dec (fun g => ?_) (fun g => ?_) | refine condE_not (fun g => ?_) (fun g => ?_)) <;> try (exfalso; omega)) | (simp -dsimp only [↓wkA, ↓wkE, ↓wkJ, wkB, ↓tt, Nat.reduceBEq, Nat.reduceEqDiff, ↓reduceIte, Nat.reduceLT, Array.toList, Nat.reduceAdd, Nat.reduceMul, Int.reduceToNat, Int.reducePow, UInt8.reduceToNat]) | (refine call_by h (views_data rfl) ⟨trivial, trivial⟩ rfl ?_) | (simp -dsimp (disch := first | assumption | omega) only [dec_t, dec_f])
    | (refine And.intro ?_ ?_
       · first | omega | decide | (simp (disch := omega) only [wkW, Int.reduceToNat, Int.reducePow] <;> omega) | (simp <;> omega)) | (simp (disch := omega) only [wkW, Int.reduceToNat, Int.reducePow])
theorem natL_ten : natL 10 = [10] := by simp [natL, digs]
theorem natL_oneL : natL 1 = [1] := by simp [natL, digs]
set_option exponentiation.threshold 300000 in
theorem nmax_two : NMax = 2 ^ 262144 := by
  unfold NMax
  rw [show (262144 : Nat) = 64 * 4096 from rfl, Nat.pow_mul]
set_option exponentiation.threshold 300000 in
theorem ten_big {n : Nat} (h : 262144 ≤ 3 * n) : ¬ 10 ^ n < NMax := by
  have h1 : 2 ^ (3 * n) ≤ 10 ^ n := by
    rw [Nat.pow_mul]; exact Nat.pow_le_pow_left (by decide) n
  have h2 : 2 ^ 262144 ≤ 2 ^ (3 * n) := Nat.pow_le_pow_right (by decide) h
  rw [nmax_two]; omega
abbrev pwF (n : Nat) (l : List Int) (i : Nat) : PV.Frame := [(10, .int .i64 ((i : Int) - 1)), (9, .ints .u64 l), (6, .ints .u64 [10]), (1, .int .i64 (n : Int))]
set_option exponentiation.threshold 300000 in
set_option maxHeartbeats 4000000 in
theorem pow_ten (n : Nat) (hn : n < 9223372036854775807) (R : PV) (hR1 : 10 ^ n < NMax → R = .tup [.ints .u64 (natL (10 ^ n)), .int .i64 0]) (hR2 : ¬ 10 ^ n < NMax → R = .tup [.nil, .int .i64 2]) :
    Meets Tryz.prog 115 [.ints .u64 [10], .int .i64 (n : Int)] R := by
  refine meets_by ttOk Tryz.func115 Tryz.ntmps115 Tryz.results115 (by kernel_rfl) (c := _) rfl rfl rfl fun E => ?_
  simp only [argsFrame]
  have hbl := bits_len (n : Int) (by simp only [B64]; omega)
  rw [Int.toNat_natCast] at hbl
  have hmul3 : IntKind.wrap .i64 (3 * (n : Int)) = 3 * (n : Int) ∨ ¬ (n : Int) < 262144 := by
    by_cases h : (n : Int) < 262144
    · left; exact wrap_i64 (by omega)
    · exact .inr h
  have hw : IntKind.wrap .u64 (n : Int) = (n : Int) := wrap_u64 (by omega)
  have h1 : 10 ^ 0 < NMax := Nat.lt_of_lt_of_le (by decide) (pow64_mono (show 1 ≤ 4096 by decide))
  by_cases h0 : n = 0
  · subst h0
    rw [hR1 h1, Nat.pow_zero, natL_oneL]
    repeat' first
      | (with_reducible first | refine PW.seq ?_ | refine PW.block ?_ | refine PW.fork ?_ | refine PW.skip ?_ | refine PW.exit ?_ | refine PW.ret ?_) | ((with_reducible refine PW.region ttOk ?_ ?_); rfl) | ((with_reducible refine PW.regionD ttOk mixed ?_ ?_ ?_); rfl; rfl) | (with_reducible refine ifW_dec (fun g => ?_) (fun g => ?_) <;> first | (exfalso; omega) | (simp -dsimp only [g, wkI])) | ((with_reducible first | refine condE_dec (fun g => ?_) (fun g => ?_) | refine condE_not (fun g => ?_) (fun g => ?_)) <;> try (exfalso; omega)) | (simp -dsimp only [↓wkA, ↓wkE, ↓wkJ, wkB, ↓tt, Nat.reduceBEq, Nat.reduceEqDiff, ↓reduceIte, Nat.reduceLT, Array.toList, Nat.reduceAdd, Nat.reduceMul, Int.reduceToNat, Int.reducePow, UInt8.reduceToNat]) | (refine call_by small_ten (views_data rfl) ⟨trivial, trivial, trivial⟩ rfl ?_) | (refine call_by bitlen_ten (views_data rfl) ⟨trivial, trivial⟩ rfl ?_) | (exact Nat.le_refl _) | (simp -dsimp (disch := first | assumption | omega) only [dec_t, dec_f])
      | (refine And.intro ?_ ?_
         · first | omega | decide | (simp (disch := omega) only [wkW, Int.reduceToNat, Int.reducePow] <;> omega) | (simp <;> omega)) | (simp (disch := omega) only [wkW, Int.reduceToNat, Int.reducePow])
  by_cases hbig : 262144 ≤ 3 * n
  · rw [hR2 (ten_big hbig)]
    repeat' first
      | (simp (disch := omega) only [hw, show (4 : Int) - 1 = 3 from rfl, wkW, Int.reduceToNat, Int.reducePow]) | (with_reducible first | refine PW.seq ?_ | refine PW.block ?_ | refine PW.fork ?_ | refine PW.skip ?_ | refine PW.exit ?_ | refine PW.ret ?_) | ((with_reducible refine PW.region ttOk ?_ ?_); rfl) | ((with_reducible refine PW.regionD ttOk mixed ?_ ?_ ?_); rfl; rfl) | (with_reducible refine ifW_dec (fun g => ?_) (fun g => ?_) <;> first | (exfalso; omega) | (simp -dsimp only [g, wkI])) | ((with_reducible first | refine condE_dec (fun g => ?_) (fun g => ?_) | refine condE_not (fun g => ?_) (fun g => ?_)) <;> try (exfalso; omega)) | (simp -dsimp only [↓wkA, ↓wkE, ↓wkJ, wkB, ↓tt, Nat.reduceBEq, Nat.reduceEqDiff, ↓reduceIte, Nat.reduceLT, Array.toList, Nat.reduceAdd, Nat.reduceMul, Int.reduceToNat, Int.reducePow, UInt8.reduceToNat]) | (refine call_by small_ten (views_data rfl) ⟨trivial, trivial, trivial⟩ rfl ?_) | (refine call_by bitlen_ten (views_data rfl) ⟨trivial, trivial⟩ rfl ?_) | (simp -dsimp (disch := first | assumption | omega) only [dec_t, dec_f])
      | (refine And.intro ?_ ?_
         · first | omega | decide | (simp (disch := omega) only [wkW, Int.reduceToNat, Int.reducePow] <;> omega) | (simp <;> omega)) | (simp (disch := omega) only [wkW, Int.reduceToNat, Int.reducePow])
  obtain ⟨L, hL, hL1, hL2⟩ := bitlen_spec h0
  rw [hL] at hbl
  have hL63 : L < 64 := by
    have h3 : 2 ^ L < 2 ^ 64 := Nat.lt_of_le_of_lt hL1 (by simp only [Nat.reducePow]; omega)
    exact (Nat.pow_lt_pow_iff_right (by decide)).1 h3
  repeat' first
    | (simp (disch := omega) only [hw, show (4 : Int) - 1 = 3 from rfl, wkW, Int.reduceToNat, Int.reducePow]) | (with_reducible first | refine PW.seq ?_ | refine PW.block ?_ | refine PW.fork ?_ | refine PW.skip ?_ | refine PW.exit ?_ | refine PW.ret ?_) | ((with_reducible refine PW.region ttOk ?_ ?_); rfl) | ((with_reducible refine PW.regionD ttOk mixed ?_ ?_ ?_); rfl; rfl) | (with_reducible refine ifW_dec (fun g => ?_) (fun g => ?_) <;> first | (exfalso; omega) | (simp -dsimp only [g, wkI])) | ((with_reducible first | refine condE_dec (fun g => ?_) (fun g => ?_) | refine condE_not (fun g => ?_) (fun g => ?_)) <;> try (exfalso; omega)) | (simp -dsimp only [↓wkA, ↓wkE, ↓wkJ, wkB, ↓tt, Nat.reduceBEq, Nat.reduceEqDiff, ↓reduceIte, Nat.reduceLT, Array.toList, Nat.reduceAdd, Nat.reduceMul, Int.reduceToNat, Int.reducePow, UInt8.reduceToNat]) | (refine call_by small_ten (views_data rfl) ⟨trivial, trivial, trivial⟩ rfl ?_) | (refine call_by bitlen_ten (views_data rfl) ⟨trivial, trivial⟩ rfl ?_) | (refine call_by hbl (views_data rfl) ⟨trivial, trivial⟩ rfl ?_) | (simp -dsimp (disch := first | assumption | omega) only [dec_t, dec_f])
    | (refine And.intro ?_ ?_
       · first | omega | decide | (simp (disch := omega) only [wkW, Int.reduceToNat, Int.reducePow] <;> omega) | (simp <;> omega)) | (simp (disch := omega) only [wkW, Int.reduceToNat, Int.reducePow])
  have hten : natL (10 ^ 0) = [1] := natL_oneL
  refine PW.meetB (fun F H => 10 ^ n < NMax ∧ F = [(9, .ints .u64 (natL (10 ^ n)))] ∧ H = ⟨1, [], [], []⟩) ?_ ?_
  · refine PW.loopA (fun i F H => i ≤ L + 1 ∧ 10 ^ (n / 2 ^ i) < NMax ∧ F = pwF n (natL (10 ^ (n / 2 ^ i))) i ∧ H = ⟨1, [], [], []⟩) (L + 1) (pwF n (natL (10 ^ (n / 2 ^ (L + 1)))) (L + 1)) ⟨1, [], [], []⟩ (Sub.trans (toData 9 0 0 1 true rfl (Nat.le_refl _)) (Sub.norm ⟨?_, ?_, rfl, rfl, trivial⟩ trivial (Nat.le_refl _) rfl rfl rfl rfl)) ⟨Nat.le_refl _, ?_, rfl, rfl⟩ ?_
    · simp (disch := omega) only [↓wkA, ↓wkE, ↓wkJ, wkB, ↓tt, Nat.reduceBEq, Nat.reduceEqDiff, ↓reduceIte, Nat.reduceLT, Array.toList, Nat.reduceAdd, Nat.reduceMul, Int.reduceToNat, Int.reducePow, UInt8.reduceToNat, wkW, Int.reduceToNat, Int.reducePow]
    · rw [Nat.div_eq_of_lt hL2, hten]; rfl
    · rw [Nat.div_eq_of_lt hL2]; exact h1
    rintro i F H ⟨hi, hlt, rfl, rfl⟩
    cases i with
    | zero =>
      rw [Nat.pow_zero, Nat.div_one] at hlt ⊢
      repeat' first
        | (with_reducible first | refine PW.seq ?_ | refine PW.block ?_ | refine PW.fork ?_ | refine PW.skip ?_ | refine PW.exit ?_ | refine PW.ret ?_) | ((with_reducible refine PW.region ttOk ?_ ?_); rfl) | ((with_reducible refine PW.regionD ttOk mixed ?_ ?_ ?_); rfl; rfl) | (with_reducible refine ifW_dec (fun g => ?_) (fun g => ?_) <;> first | (exfalso; omega) | (simp -dsimp only [g, wkI])) | ((with_reducible first | refine condE_dec (fun g => ?_) (fun g => ?_) | refine condE_not (fun g => ?_) (fun g => ?_)) <;> try (exfalso; omega)) | (simp -dsimp only [↓wkA, ↓wkE, ↓wkJ, wkB, ↓tt, Nat.reduceBEq, Nat.reduceEqDiff, ↓reduceIte, Nat.reduceLT, Array.toList, Nat.reduceAdd, Nat.reduceMul, Int.reduceToNat, Int.reducePow, UInt8.reduceToNat]) | (simp -dsimp (disch := first | assumption | omega) only [dec_t, dec_f])
        | (refine And.intro ?_ ?_
           · first | omega | decide | (simp (disch := omega) only [wkW, Int.reduceToNat, Int.reducePow] <;> omega) | (simp <;> omega)) | (simp (disch := omega) only [wkW, Int.reduceToNat, Int.reducePow])
      exact Meet.mk [(9, .ints .u64 (natL (10 ^ n)))] ⟨1, [], [], []⟩ (Sub.norm ⟨rfl, trivial⟩ trivial (Nat.le_refl _) rfl rfl rfl rfl) ⟨hlt, rfl, rfl⟩
    | succ i =>
      have e1 : (((i + 1 : Nat)) : Int) - 1 = (i : Int) := by omega
      simp only [pwF, e1]
      have hne : ∀ k, 10 ^ k ≠ 0 := fun k => Nat.ne_of_gt (Nat.pow_pos (by decide))
      have hstep : n / 2 ^ i = 2 * (n / 2 ^ (i + 1)) + n / 2 ^ i % 2 := by rw [Nat.pow_succ, ← Nat.div_div_eq_div_mul]; omega
      have hmono : ∀ k, k ≤ n / 2 ^ i → ¬ 10 ^ k < NMax → R = .tup [.nil, .int .i64 2] := fun k hk hb => hR2 fun h => hb (Nat.lt_of_le_of_lt (Nat.pow_le_pow_right (by decide) (Nat.le_trans hk (Nat.div_le_self _ _))) h)
      have hsq : 10 ^ (n / 2 ^ (i + 1)) * 10 ^ (n / 2 ^ (i + 1)) = 10 ^ (2 * (n / 2 ^ (i + 1))) := by rw [← Nat.pow_add]; congr 1; omega
      have hshr : ((n : Int)).fdiv (2 ^ min ((i : Int)).toNat 64) = ((n / 2 ^ i : Nat) : Int) := by
        rw [Int.toNat_natCast, Nat.min_eq_left (by omega), fdiv_pos (Int.le_of_lt (Int.pow_pos (by decide)))]
        simp
      have hwi : IntKind.wrap .u64 (i : Int) = (i : Int) := wrap_u64 (by omega)
      have hqn : n / 2 ^ i ≤ n := Nat.div_le_self _ _
      generalize n / 2 ^ (i + 1) = p at *
      generalize hqe : n / 2 ^ i = q at *
      have hand : ibits .and .i64 ((q : Nat) : Int) 1 = ((q % 2 : Nat) : Int) := by rw [and1_i64 (by omega)]; omega
      by_cases hs : 10 ^ (2 * p) < NMax
      · have hm1 := mul_nat (hne p) (hne p) hlt hlt (by rw [hsq]; exact hs)
        rw [hsq] at hm1
        by_cases hbit : q % 2 = 1
        · have hq : 10 ^ (2 * p) * 10 = 10 ^ q := by rw [← Nat.pow_succ]; congr 1; omega
          by_cases hs2 : 10 ^ q < NMax
          · have hm2 := mul_nat (hne (2 * p)) (show (10 : Nat) ≠ 0 by decide) hs (Nat.lt_of_lt_of_le (by decide) (pow64_mono (show 1 ≤ 4096 by decide))) (by rw [hq]; exact hs2)
            rw [hq, natL_ten] at hm2
            repeat' first
              | (simp only [hwi, hshr, hand]) | (with_reducible first | refine PW.seq ?_ | refine PW.block ?_ | refine PW.fork ?_ | refine PW.skip ?_ | refine PW.exit ?_ | refine PW.ret ?_) | ((with_reducible refine PW.region ttOk ?_ ?_); rfl) | ((with_reducible refine PW.regionD ttOk mixed ?_ ?_ ?_); rfl; rfl) | (with_reducible refine ifW_dec (fun g => ?_) (fun g => ?_) <;> first | (exfalso; omega) | (simp -dsimp only [g, wkI])) | ((with_reducible first | refine condE_dec (fun g => ?_) (fun g => ?_) | refine condE_not (fun g => ?_) (fun g => ?_)) <;> try (exfalso; omega)) | (simp -dsimp only [↓wkA, ↓wkE, ↓wkJ, wkB, ↓tt, Nat.reduceBEq, Nat.reduceEqDiff, ↓reduceIte, Nat.reduceLT, Array.toList, Nat.reduceAdd, Nat.reduceMul, Int.reduceToNat, Int.reducePow, UInt8.reduceToNat]) | (refine call_by hm1 (views_data rfl) ⟨trivial, trivial, trivial⟩ rfl ?_) | (refine call_by hm2 (views_data rfl) ⟨trivial, trivial, trivial⟩ rfl ?_) | (simp -dsimp (disch := first | assumption | omega) only [dec_t, dec_f])
              | (refine And.intro ?_ ?_
                 · first | omega | decide | (simp (disch := omega) only [wkW, Int.reduceToNat, Int.reducePow] <;> omega) | (simp <;> omega)) | (simp (disch := omega) only [wkW, Int.reduceToNat, Int.reducePow])
            exact Again.mk i (pwF n (natL (10 ^ q)) i) ⟨1, [], [], []⟩ (by omega) (Sub.norm ⟨rfl, rfl, rfl, rfl, trivial⟩ trivial (Nat.le_refl _) rfl rfl rfl rfl) ⟨by omega, by rw [hqe]; exact hs2, by rw [hqe], rfl⟩
          · have hm2 := mul_over (hne (2 * p)) (show (10 : Nat) ≠ 0 by decide) hs (Nat.lt_of_lt_of_le (by decide) (pow64_mono (show 1 ≤ 4096 by decide))) (by rw [hq]; exact hs2)
            rw [natL_ten] at hm2
            rw [hmono q (Nat.le_refl _) hs2]
            repeat' first
              | (simp only [hwi, hshr, hand]) | (with_reducible first | refine PW.seq ?_ | refine PW.block ?_ | refine PW.fork ?_ | refine PW.skip ?_ | refine PW.exit ?_ | refine PW.ret ?_) | ((with_reducible refine PW.region ttOk ?_ ?_); rfl) | ((with_reducible refine PW.regionD ttOk mixed ?_ ?_ ?_); rfl; rfl) | (with_reducible refine ifW_dec (fun g => ?_) (fun g => ?_) <;> first | (exfalso; omega) | (simp -dsimp only [g, wkI])) | ((with_reducible first | refine condE_dec (fun g => ?_) (fun g => ?_) | refine condE_not (fun g => ?_) (fun g => ?_)) <;> try (exfalso; omega)) | (simp -dsimp only [↓wkA, ↓wkE, ↓wkJ, wkB, ↓tt, Nat.reduceBEq, Nat.reduceEqDiff, ↓reduceIte, Nat.reduceLT, Array.toList, Nat.reduceAdd, Nat.reduceMul, Int.reduceToNat, Int.reducePow, UInt8.reduceToNat]) | (refine call_by hm1 (views_data rfl) ⟨trivial, trivial, trivial⟩ rfl ?_) | (refine call_by hm2 (views_data rfl) ⟨trivial, trivial, trivial⟩ rfl ?_) | (simp -dsimp (disch := first | assumption | omega) only [dec_t, dec_f])
              | (refine And.intro ?_ ?_
                 · first | omega | decide | (simp (disch := omega) only [wkW, Int.reduceToNat, Int.reducePow] <;> omega) | (simp <;> omega)) | (simp (disch := omega) only [wkW, Int.reduceToNat, Int.reducePow])
        · have hq : 2 * p = q := by omega
          rw [hq] at hm1 hs
          repeat' first
            | (simp only [hwi, hshr, hand]) | (with_reducible first | refine PW.seq ?_ | refine PW.block ?_ | refine PW.fork ?_ | refine PW.skip ?_ | refine PW.exit ?_ | refine PW.ret ?_) | ((with_reducible refine PW.region ttOk ?_ ?_); rfl) | ((with_reducible refine PW.regionD ttOk mixed ?_ ?_ ?_); rfl; rfl) | (with_reducible refine ifW_dec (fun g => ?_) (fun g => ?_) <;> first | (exfalso; omega) | (simp -dsimp only [g, wkI])) | ((with_reducible first | refine condE_dec (fun g => ?_) (fun g => ?_) | refine condE_not (fun g => ?_) (fun g => ?_)) <;> try (exfalso; omega)) | (simp -dsimp only [↓wkA, ↓wkE, ↓wkJ, wkB, ↓tt, Nat.reduceBEq, Nat.reduceEqDiff, ↓reduceIte, Nat.reduceLT, Array.toList, Nat.reduceAdd, Nat.reduceMul, Int.reduceToNat, Int.reducePow, UInt8.reduceToNat]) | (refine call_by hm1 (views_data rfl) ⟨trivial, trivial, trivial⟩ rfl ?_) | (simp -dsimp (disch := first | assumption | omega) only [dec_t, dec_f])
            | (refine And.intro ?_ ?_
               · first | omega | decide | (simp (disch := omega) only [wkW, Int.reduceToNat, Int.reducePow] <;> omega) | (simp <;> omega)) | (simp (disch := omega) only [wkW, Int.reduceToNat, Int.reducePow])
          exact Again.mk i (pwF n (natL (10 ^ q)) i) ⟨1, [], [], []⟩ (by omega) (Sub.norm ⟨rfl, rfl, rfl, rfl, trivial⟩ trivial (Nat.le_refl _) rfl rfl rfl rfl) ⟨by omega, by rw [hqe]; exact hs, by rw [hqe], rfl⟩
      · have hm1 := mul_over (hne p) (hne p) hlt hlt (by rw [hsq]; exact hs)
        rw [hmono (2 * p) (by omega) hs]
        repeat' first
          | (simp only [hwi, hshr, hand]) | (with_reducible first | refine PW.seq ?_ | refine PW.block ?_ | refine PW.fork ?_ | refine PW.skip ?_ | refine PW.exit ?_ | refine PW.ret ?_) | ((with_reducible refine PW.region ttOk ?_ ?_); rfl) | ((with_reducible refine PW.regionD ttOk mixed ?_ ?_ ?_); rfl; rfl) | (with_reducible refine ifW_dec (fun g => ?_) (fun g => ?_) <;> first | (exfalso; omega) | (simp -dsimp only [g, wkI])) | ((with_reducible first | refine condE_dec (fun g => ?_) (fun g => ?_) | refine condE_not (fun g => ?_) (fun g => ?_)) <;> try (exfalso; omega)) | (simp -dsimp only [↓wkA, ↓wkE, ↓wkJ, wkB, ↓tt, Nat.reduceBEq, Nat.reduceEqDiff, ↓reduceIte, Nat.reduceLT, Array.toList, Nat.reduceAdd, Nat.reduceMul, Int.reduceToNat, Int.reducePow, UInt8.reduceToNat]) | (refine call_by hm1 (views_data rfl) ⟨trivial, trivial, trivial⟩ rfl ?_) | (simp -dsimp (disch := first | assumption | omega) only [dec_t, dec_f])
          | (refine And.intro ?_ ?_
             · first | omega | decide | (simp (disch := omega) only [wkW, Int.reduceToNat, Int.reducePow] <;> omega) | (simp <;> omega)) | (simp (disch := omega) only [wkW, Int.reduceToNat, Int.reducePow])
  rintro F H ⟨hfin, rfl, rfl⟩
  rw [hR1 hfin]
  repeat' first
    | (with_reducible first | refine PW.seq ?_ | refine PW.block ?_ | refine PW.fork ?_ | refine PW.skip ?_ | refine PW.exit ?_ | refine PW.ret ?_) | ((with_reducible refine PW.region ttOk ?_ ?_); rfl) | ((with_reducible refine PW.regionD ttOk mixed ?_ ?_ ?_); rfl; rfl) | (with_reducible refine ifW_dec (fun g => ?_) (fun g => ?_) <;> first | (exfalso; omega) | (simp -dsimp only [g, wkI])) | ((with_reducible first | refine condE_dec (fun g => ?_) (fun g => ?_) | refine condE_not (fun g => ?_) (fun g => ?_)) <;> try (exfalso; omega)) | (simp -dsimp only [↓wkA, ↓wkE, ↓wkJ, wkB, ↓tt, Nat.reduceBEq, Nat.reduceEqDiff, ↓reduceIte, Nat.reduceLT, Array.toList, Nat.reduceAdd, Nat.reduceMul, Int.reduceToNat, Int.reducePow, UInt8.reduceToNat]) | (simp -dsimp (disch := first | assumption | omega) only [dec_t, dec_f])
    | (refine And.intro ?_ ?_
       · first | omega | decide | (simp (disch := omega) only [wkW, Int.reduceToNat, Int.reducePow] <;> omega) | (simp <;> omega)) | (simp (disch := omega) only [wkW, Int.reduceToNat, Int.reducePow])
def endN (s : List Int) (c : Int) : Nat → Nat
  | 0 => 0
  | n + 1 => if s.getD n 0 = c then endN s c n else n + 1
theorem endN_le (s : List Int) (c : Int) : ∀ n, endN s c n ≤ n
  | 0 => Nat.le_refl _
  | n + 1 => by
    rw [endN]
    split
    · have := endN_le s c n; omega
    · exact Nat.le_refl _
theorem endN_zero {s : List Int} {c : Int} : ∀ n, endN s c n = 0 ↔ ∀ j, j < n → s.getD j 0 = c
  | 0 => ⟨fun _ j hj => by omega, fun _ => rfl⟩
  | n + 1 => by
    rw [endN]
    by_cases h : s.getD n 0 = c
    · rw [if_pos h, endN_zero n]
      constructor
      · intro h2 j hj
        by_cases e : j = n
        · rw [e]; exact h
        · exact h2 j (by omega)
      · intro h2 j hj; exact h2 j (by omega)
    · rw [if_neg h]
      constructor
      · intro h2; omega
      · intro h2; exact absurd (h2 n (by omega)) h
theorem endN_last {s : List Int} {c : Int} : ∀ n, endN s c n ≠ 0 → s.getD (endN s c n - 1) 0 ≠ c
  | 0, h => absurd rfl h
  | n + 1, h => by
    rw [endN] at h ⊢
    by_cases h2 : s.getD n 0 = c
    · rw [if_pos h2] at h ⊢; exact endN_last n h
    · rw [if_neg h2]; exact h2
def headL (c : Int) : List Int → List Int
  | [] => []
  | x :: r => if x = c then headL c r else x :: r
theorem trim_right (s : List Int) (c : Int) (hsl : s.length ≤ 1000000000000000) : Meets Tryz.prog 139 [.str s, .int .u8 c] (.str (s.take (endN s c s.length))) := by
  refine meets_by ttOk Tryz.func139 Tryz.ntmps139 Tryz.results139 (by kernel_rfl) (c := _) rfl rfl rfl fun E => ?_
  simp only [argsFrame]
  repeat' first
    | (with_reducible first | refine PW.seq ?_ | refine PW.block ?_ | refine PW.fork ?_ | refine PW.skip ?_ | refine PW.exit ?_ | refine PW.ret ?_) | ((with_reducible refine PW.region ttOk ?_ ?_); rfl) | ((with_reducible refine PW.regionD ttOk mixed ?_ ?_ ?_); rfl; rfl) | (with_reducible refine ifW_dec (fun g => ?_) (fun g => ?_) <;> first | (exfalso; omega) | (simp -dsimp only [g, wkI])) | ((with_reducible first | refine condE_dec (fun g => ?_) (fun g => ?_) | refine condE_not (fun g => ?_) (fun g => ?_)) <;> try (exfalso; omega)) | (simp -dsimp only [↓wkA, ↓wkE, ↓wkJ, wkB, ↓tt, Nat.reduceBEq, Nat.reduceEqDiff, ↓reduceIte, Nat.reduceLT, Array.toList, Nat.reduceAdd, Nat.reduceMul, Int.reduceToNat, Int.reducePow, UInt8.reduceToNat]) | (simp -dsimp (disch := first | assumption | omega) only [dec_t, dec_f])
    | (refine And.intro ?_ ?_
       · first | omega | decide | (simp (disch := omega) only [wkW, Int.reduceToNat, Int.reducePow] <;> omega) | (simp <;> omega)) | (simp (disch := omega) only [wkW, Int.reduceToNat, Int.reducePow])
  refine PW.loopA (fun m F H => m ≤ s.length ∧ endN s c m = endN s c s.length ∧ F = [(0, .str (s.take m)), (1, .int .u8 c)] ∧ H = ⟨0, [], [], []⟩) s.length [(0, .str (s.take s.length)), (1, .int .u8 c)] ⟨0, [], [], []⟩ (Sub.norm ⟨congrArg PV.str List.take_length.symm, rfl, trivial⟩ trivial (Nat.le_refl _) rfl rfl rfl rfl) ⟨Nat.le_refl _, rfl, rfl, rfl⟩ ?_
  rintro m F H ⟨hm, he, rfl, rfl⟩
  have hl : (s.take m).length = m := by simp; omega
  cases m with
  | zero =>
    have : s.take (endN s c s.length) = [] := by rw [← he]; rfl
    rw [this]
    repeat' first
      | (with_reducible first | refine PW.seq ?_ | refine PW.block ?_ | refine PW.fork ?_ | refine PW.skip ?_ | refine PW.exit ?_ | refine PW.ret ?_) | ((with_reducible refine PW.region ttOk ?_ ?_); rfl) | ((with_reducible refine PW.regionD ttOk mixed ?_ ?_ ?_); rfl; rfl) | (with_reducible refine ifW_dec (fun g => ?_) (fun g => ?_) <;> first | (exfalso; omega) | (simp -dsimp only [g, wkI])) | ((with_reducible first | refine condE_dec (fun g => ?_) (fun g => ?_) | refine condE_not (fun g => ?_) (fun g => ?_)) <;> try (exfalso; omega)) | (simp -dsimp only [↓wkA, ↓wkE, ↓wkJ, wkB, ↓tt, Nat.reduceBEq, Nat.reduceEqDiff, ↓reduceIte, Nat.reduceLT, Array.toList, Nat.reduceAdd, Nat.reduceMul, Int.reduceToNat, Int.reducePow, UInt8.reduceToNat]) | (simp -dsimp (disch := first | assumption | omega) only [dec_t, dec_f])
      | (refine And.intro ?_ ?_
         · first | omega | decide | (simp (disch := omega) only [wkW, Int.reduceToNat, Int.reducePow] <;> omega) | (simp <;> omega)) | (simp (disch := omega) only [wkW, Int.reduceToNat, Int.reducePow])
  | succ m =>
    have hg : (s.take (m + 1)).getD m 0 = s.getD m 0 := by
      rw [List.getD_eq_getElem?_getD, List.getElem?_take, if_pos (by omega), List.getD_eq_getElem?_getD]
    have e : ((m + 1 : Nat) : Int) - 1 = (m : Int) := by omega
    have hw : IntKind.wrap .i64 (m : Int) = (m : Int) := wrap_i64 (by omega)
    have htt : (s.take (m + 1)).take m = s.take m := by rw [List.take_take, Nat.min_eq_left (by omega)]
    obtain ⟨t, htd⟩ : ∃ t, s.take (m + 1) = t := ⟨_, rfl⟩
    rw [htd] at hl hg htt ⊢
    repeat' first
      | (simp only [hl, e, hw, Int.toNat_natCast, Int.sub_zero, hg, htt]) | (with_reducible first | refine PW.seq ?_ | refine PW.block ?_ | refine PW.fork ?_ | refine PW.skip ?_ | refine PW.exit ?_ | refine PW.ret ?_) | ((with_reducible refine PW.region ttOk ?_ ?_); rfl) | ((with_reducible refine PW.regionD ttOk mixed ?_ ?_ ?_); rfl; rfl) | (with_reducible refine ifW_dec (fun g => ?_) (fun g => ?_) <;> first | (exfalso; omega) | (simp -dsimp only [g, wkI])) | ((with_reducible first | refine condE_dec (fun g => ?_) (fun g => ?_) | refine condE_not (fun g => ?_) (fun g => ?_)) <;> try (exfalso; omega)) | (simp -dsimp only [↓wkA, ↓wkE, ↓wkJ, wkB, ↓tt, Nat.reduceBEq, Nat.reduceEqDiff, ↓reduceIte, Nat.reduceLT, Array.toList, Nat.reduceAdd, Nat.reduceMul, Int.reduceToNat, Int.reducePow, UInt8.reduceToNat]) | (simp -dsimp (disch := first | assumption | omega) only [dec_t, dec_f])
      | (refine And.intro ?_ ?_
         · first | omega | decide | (simp (disch := omega) only [wkW, Int.reduceToNat, Int.reducePow] <;> omega) | (simp <;> omega)) | (simp (disch := omega) only [wkW, Int.reduceToNat, Int.reducePow])
    · have h0 : s.getD m 0 = c := by assumption
      exact Again.mk m [(0, .str (s.take m)), (1, .int .u8 c)] ⟨0, [], [], []⟩ (by omega) (Sub.norm ⟨rfl, rfl, trivial⟩ trivial (Nat.le_refl _) rfl rfl rfl rfl) ⟨by omega, by rw [← he, endN, if_pos h0], rfl, rfl⟩
    · have h0 : ¬ s.getD m 0 = c := by assumption
      rw [← he, endN, if_neg h0, htd]
theorem trim_left (s : List Int) (c : Int) (hsl : s.length ≤ 1000000000000000) : Meets Tryz.prog 135 [.str s, .int .u8 c] (.str (headL c s)) := by
  refine meets_by ttOk Tryz.func135 Tryz.ntmps135 Tryz.results135 (by kernel_rfl) (c := _) rfl rfl rfl fun E => ?_
  simp only [argsFrame]
  repeat' first
    | (with_reducible first | refine PW.seq ?_ | refine PW.block ?_ | refine PW.fork ?_ | refine PW.skip ?_ | refine PW.exit ?_ | refine PW.ret ?_) | ((with_reducible refine PW.region ttOk ?_ ?_); rfl) | ((with_reducible refine PW.regionD ttOk mixed ?_ ?_ ?_); rfl; rfl) | (with_reducible refine ifW_dec (fun g => ?_) (fun g => ?_) <;> first | (exfalso; omega) | (simp -dsimp only [g, wkI])) | ((with_reducible first | refine condE_dec (fun g => ?_) (fun g => ?_) | refine condE_not (fun g => ?_) (fun g => ?_)) <;> try (exfalso; omega)) | (simp -dsimp only [↓wkA, ↓wkE, ↓wkJ, wkB, ↓tt, Nat.reduceBEq, Nat.reduceEqDiff, ↓reduceIte, Nat.reduceLT, Array.toList, Nat.reduceAdd, Nat.reduceMul, Int.reduceToNat, Int.reducePow, UInt8.reduceToNat]) | (simp -dsimp (disch := first | assumption | omega) only [dec_t, dec_f])
    | (refine And.intro ?_ ?_
       · first | omega | decide | (simp (disch := omega) only [wkW, Int.reduceToNat, Int.reducePow] <;> omega) | (simp <;> omega)) | (simp (disch := omega) only [wkW, Int.reduceToNat, Int.reducePow])
  refine PW.loopA (fun m F H => ∃ t : List Int, t.length = m ∧ m ≤ s.length ∧ headL c t = headL c s ∧ F = [(0, .str t), (1, .int .u8 c)] ∧ H = ⟨0, [], [], []⟩) s.length [(0, .str s), (1, .int .u8 c)] ⟨0, [], [], []⟩ (Sub.norm ⟨rfl, rfl, trivial⟩ trivial (Nat.le_refl _) rfl rfl rfl rfl) ⟨s, rfl, Nat.le_refl _, rfl, rfl, rfl⟩ ?_
  rintro m F H ⟨t, ht, hm, he, rfl, rfl⟩
  rw [← he]
  clear he
  cases t with
  | nil =>
    repeat' first
      | (with_reducible first | refine PW.seq ?_ | refine PW.block ?_ | refine PW.fork ?_ | refine PW.skip ?_ | refine PW.exit ?_ | refine PW.ret ?_) | ((with_reducible refine PW.region ttOk ?_ ?_); rfl) | ((with_reducible refine PW.regionD ttOk mixed ?_ ?_ ?_); rfl; rfl) | (with_reducible refine ifW_dec (fun g => ?_) (fun g => ?_) <;> first | (exfalso; omega) | (simp -dsimp only [g, wkI])) | ((with_reducible first | refine condE_dec (fun g => ?_) (fun g => ?_) | refine condE_not (fun g => ?_) (fun g => ?_)) <;> try (exfalso; omega)) | (simp -dsimp only [↓wkA, ↓wkE, ↓wkJ, wkB, ↓tt, Nat.reduceBEq, Nat.reduceEqDiff, ↓reduceIte, Nat.reduceLT, Array.toList, Nat.reduceAdd, Nat.reduceMul, Int.reduceToNat, Int.reducePow, UInt8.reduceToNat]) | (simp -dsimp (disch := first | assumption | omega) only [dec_t, dec_f])
      | (refine And.intro ?_ ?_
         · first | omega | decide | (simp (disch := omega) only [wkW, Int.reduceToNat, Int.reducePow] <;> omega) | (simp <;> omega)) | (simp (disch := omega) only [wkW, Int.reduceToNat, Int.reducePow])
    rfl
  | cons x r =>
    simp only [List.length_cons] at ht
    have hr : List.take r.length r = r := List.take_length
    repeat' first
      | (simp only [List.drop_succ_cons, List.drop_zero, hr, Int.toNat_natCast]) | (with_reducible first | refine PW.seq ?_ | refine PW.block ?_ | refine PW.fork ?_ | refine PW.skip ?_ | refine PW.exit ?_ | refine PW.ret ?_) | ((with_reducible refine PW.region ttOk ?_ ?_); rfl) | ((with_reducible refine PW.regionD ttOk mixed ?_ ?_ ?_); rfl; rfl) | (with_reducible refine ifW_dec (fun g => ?_) (fun g => ?_) <;> first | (exfalso; omega) | (simp -dsimp only [g, wkI])) | ((with_reducible first | refine condE_dec (fun g => ?_) (fun g => ?_) | refine condE_not (fun g => ?_) (fun g => ?_)) <;> try (exfalso; omega)) | (simp -dsimp only [↓wkA, ↓wkE, ↓wkJ, wkB, ↓tt, Nat.reduceBEq, Nat.reduceEqDiff, ↓reduceIte, Nat.reduceLT, Array.toList, Nat.reduceAdd, Nat.reduceMul, Int.reduceToNat, Int.reducePow, UInt8.reduceToNat]) | (simp -dsimp (disch := first | assumption | omega) only [dec_t, dec_f])
      | (refine And.intro ?_ ?_
         · first | omega | decide | (simp (disch := omega) only [wkW, Int.reduceToNat, Int.reducePow] <;> omega) | (simp <;> omega)) | (simp (disch := omega) only [wkW, Int.reduceToNat, Int.reducePow])
    · have h0 : x = c := by assumption
      exact Again.mk r.length [(0, .str r), (1, .int .u8 c)] ⟨0, [], [], []⟩ (by omega) (Sub.norm ⟨rfl, rfl, trivial⟩ trivial (Nat.le_refl _) rfl rfl rfl rfl) ⟨r, rfl, by omega, by conv => { rhs; rw [headL, if_pos h0] }, rfl, rfl⟩
    · have h0 : ¬ x = c := by assumption
      rw [headL, if_neg h0]
def Digs (s : List Int) : Prop := ∀ x ∈ s, 48 ≤ x ∧ x ≤ 57
theorem digs_get {s : List Int} (h : Digs s) {i : Nat} (hi : i < s.length) : 48 ≤ s.getD i 0 ∧ s.getD i 0 ≤ 57 := by
  rw [List.getD_eq_getElem?_getD, List.getElem?_eq_getElem hi]; exact h _ (List.getElem_mem hi)
theorem getD_set_ne {s : List Int} {k j : Nat} {x : Int} (h : k ≠ j) : (s.set k x).getD j 0 = s.getD j 0 := by
  rw [List.getD_eq_getElem?_getD, List.getD_eq_getElem?_getD, List.getElem?_set_ne h]
theorem getD_take' {s : List Int} {k j : Nat} (h : j < k) : (s.take k).getD j 0 = s.getD j 0 := by
  rw [List.getD_eq_getElem?_getD, List.getD_eq_getElem?_getD, List.getElem?_take_of_lt h]
theorem getD_drop' {s : List Int} {k j : Nat} : (s.drop k).getD j 0 = s.getD (k + j) 0 := by
  rw [List.getD_eq_getElem?_getD, List.getD_eq_getElem?_getD, List.getElem?_drop]
theorem nmax_of {v k : Nat} (h : v < 2 ^ k) (hk : k ≤ 100000) : v < NMax := by
  rw [nmax_two]
  exact Nat.lt_of_lt_of_le h (Nat.pow_le_pow_right (by decide) (by omega))
theorem shl_zero (n : Nat) (hn : n ≤ 9223372036854775807) : Meets Tryz.prog 100 [.ints .u64 [], .int .i64 (n : Int)] (.tup [.ints .u64 [], .int .i64 0]) := by
  have s1 := size_as (a := []) (by decide) rfl
  have b1 := big_as (a := []) (by decide) rfl
  refine Meets.nil_head .u64 ?_
  refine meets_by ttOk Tryz.func100 Tryz.ntmps100 Tryz.results100 (by kernel_rfl) (c := _) rfl rfl rfl fun E => ?_
  simp only [argsFrame]
  repeat' first
    | (with_reducible first | refine PW.seq ?_ | refine PW.block ?_ | refine PW.fork ?_ | refine PW.skip ?_ | refine PW.exit ?_ | refine PW.ret ?_) | ((with_reducible refine PW.region ttOk ?_ ?_); rfl) | ((with_reducible refine PW.regionD ttOk mixed ?_ ?_ ?_); rfl; rfl) | (with_reducible refine ifW_dec (fun g => ?_) (fun g => ?_) <;> first | (exfalso; omega) | (simp -dsimp only [g, wkI])) | ((with_reducible first | refine condE_dec (fun g => ?_) (fun g => ?_) | refine condE_not (fun g => ?_) (fun g => ?_)) <;> try (exfalso; omega)) | (simp -dsimp only [↓wkA, ↓wkE, ↓wkJ, wkB, ↓tt, Nat.reduceBEq, Nat.reduceEqDiff, ↓reduceIte, Nat.reduceLT, Array.toList, Nat.reduceAdd, Nat.reduceMul, Int.reduceToNat, Int.reducePow, UInt8.reduceToNat]) | (refine call_by b1 (views_data rfl) ⟨trivial, trivial⟩ rfl ?_) | (refine call_by s1 (views_data rfl) ⟨trivial, trivial⟩ rfl ?_) | (simp -dsimp (disch := first | assumption | omega) only [dec_t, dec_f])
    | (refine And.intro ?_ ?_
       · first | omega | decide | (simp (disch := omega) only [wkW, Int.reduceToNat, Int.reducePow] <;> omega) | (simp <;> omega)) | (simp (disch := omega) only [wkW, Int.reduceToNat, Int.reducePow])
theorem shl_nat {u n : Nat} (hu : u < NMax) (hn : n ≤ 262144) (h : u * 2 ^ n < NMax) : Meets Tryz.prog 100 [.ints .u64 (natL u), .int .i64 (n : Int)] (.tup [.ints .u64 (natL (u * 2 ^ n)), .int .i64 0]) := by
  by_cases h0 : u = 0
  · subst h0
    rw [Nat.zero_mul, natL_zero]
    exact shl_zero n (by omega)
  · refine shl_list _ (natL_limbs u) (natL_small hu) (size_natL u) (fun e => h0 (natL_len0.1 e)) n (n / 64) (n % 64) hn rfl rfl _ ?_ h
    rw [val_natL]
    have e : (2 : Nat) ^ n = 2 ^ (n % 64) * 18446744073709551616 ^ (n / 64) := by
      rw [show (18446744073709551616 : Nat) = 2 ^ 64 from rfl, ← Nat.pow_mul, ← Nat.pow_add, show n % 64 + 64 * (n / 64) = n by omega]
    rw [e, Int.natCast_mul, Int.natCast_mul, Int.natCast_pow, Int.natCast_pow]
    simp only [B64]
    grind
theorem digs_getD {b : Nat} (hb : 2 ≤ b) : ∀ (k v : Nat), (digs b v).getD k 0 = v / b ^ k % b
  | 0, v => by
    by_cases h0 : v = 0
    · subst h0; simp [digs_zero]
    · rw [digs_step hb h0]; simp
  | k + 1, v => by
    by_cases h0 : v = 0
    · subst h0; simp [digs_zero]
    · rw [digs_step hb h0, List.getD_cons_succ, digs_getD hb k (v / b), Nat.div_div_eq_div_mul, Nat.pow_succ, Nat.mul_comm b]
theorem natL_getD (v k : Nat) : (natL v).getD k 0 = ((v / 18446744073709551616 ^ k % 18446744073709551616 : Nat) : Int) := by
  have h := digs_getD (b := 18446744073709551616) (by decide) k v
  rw [← h]
  unfold natL
  rw [List.getD_eq_getElem?_getD, List.getElem?_map, List.getD_eq_getElem?_getD]
  cases (digs 18446744073709551616 v)[k]? <;> rfl
theorem bit_parts (v k p : Nat) (hp : p < 64) : v / 18446744073709551616 ^ k % 18446744073709551616 / 2 ^ p % 2 = v / 2 ^ (64 * k + p) % 2 := by
  have e : (18446744073709551616 : Nat) = 2 ^ p * 2 ^ (64 - p) := by rw [← Nat.pow_add, show p + (64 - p) = 64 by omega]
  rw [Nat.pow_add, ← Nat.div_div_eq_div_mul, Nat.pow_mul]
  have e2 : (2 : Nat) ^ 64 = 18446744073709551616 := rfl
  rw [e2]
  generalize v / 18446744073709551616 ^ k = m
  rw [e, Nat.mod_mul_right_div_self, Nat.mod_mod_of_dvd _ (by rw [show 64 - p = (63 - p) + 1 by omega, Nat.pow_succ]; exact Nat.dvd_mul_left ..)]
theorem nat64 (y : Nat) (h : y < 18446744073709551616) : (y : Int) < 18446744073709551616 := by omega
theorem bit_nat (v i : Nat) (hv : v < NMax) (hi : i ≤ 1000000000000) : Meets Tryz.prog 60 [.ints .u64 (natL v), .int .i64 (i : Int)] (.int .i64 ((v / 2 ^ i % 2 : Nat) : Int)) := by
  have hl := natL_small hv
  have hlt := natL_lt v
  have hg := natL_getD v (i / 64)
  have hgl := getD_limb (natL_limbs v) (i / 64)
  have hb := bit_parts v (i / 64) (i % 64) (by omega)
  rw [show 64 * (i / 64) + i % 64 = i by omega] at hb
  have e1 : ((i : Int)).tdiv 64 = ((i / 64 : Nat) : Int) := by rw [Int.tdiv_eq_ediv_of_nonneg (by omega)]; omega
  have e2 : ((i : Int)).tmod 64 = ((i % 64 : Nat) : Int) := by rw [Int.tmod_eq_emod_of_nonneg (by omega)]; omega
  have w1 : IntKind.wrap .i64 ((i / 64 : Nat) : Int) = ((i / 64 : Nat) : Int) := wrap_i64 (by omega)
  have w2 : IntKind.wrap .u64 ((i % 64 : Nat) : Int) = ((i % 64 : Nat) : Int) := wrap_u64 (by omega)
  have ez : (natL v).length ≤ i / 64 → v / 2 ^ i % 2 = 0 := fun h => by
    have h1 : 18446744073709551616 ^ (natL v).length ≤ 2 ^ i := by
      rw [show (18446744073709551616 : Nat) = 2 ^ 64 from rfl, ← Nat.pow_mul]
      exact Nat.pow_le_pow_right (by omega) (by omega)
    rw [Nat.div_eq_of_lt (by omega)]
  have e3 : ((natL v).getD (i / 64) 0).fdiv (2 ^ min (i % 64) 64) = ((v / 18446744073709551616 ^ (i / 64) % 18446744073709551616 / 2 ^ (i % 64) : Nat) : Int) := by
    rw [hg, Nat.min_eq_left (by omega), Int.fdiv_eq_ediv_of_nonneg _ (by exact_mod_cast Nat.zero_le _)]
    simp
  have hsm : v / 18446744073709551616 ^ (i / 64) % 18446744073709551616 / 2 ^ (i % 64) < 18446744073709551616 := Nat.lt_of_le_of_lt (Nat.div_le_self _ _) (Nat.mod_lt _ (by decide))
  have e4 := and_low 1 (by omega) (a := ((v / 18446744073709551616 ^ (i / 64) % 18446744073709551616 / 2 ^ (i % 64) : Nat) : Int)) ⟨Int.natCast_nonneg _, nat64 _ hsm⟩
  have e5 : ibits .and .u64 ((v / 18446744073709551616 ^ (i / 64) % 18446744073709551616 / 2 ^ (i % 64) : Nat) : Int) 1 = ((v / 2 ^ i % 2 : Nat) : Int) := by
    rw [← hb]
    refine e4.trans ?_
    simp
  have w3 : IntKind.wrap .i64 ((v / 2 ^ i % 2 : Nat) : Int) = ((v / 2 ^ i % 2 : Nat) : Int) := wrap_i64 (by omega)
  refine meets_by ttOk Tryz.func60 Tryz.ntmps60 Tryz.results60 (by kernel_rfl) (c := _) rfl rfl rfl fun E => ?_
  simp only [argsFrame]
  clear hlt hg hb e4 hsm
  by_cases hk : (natL v).length ≤ i / 64
  · rw [ez hk]
    clear e3 e5 w3 ez
    generalize natL v = a at *
    repeat' first
      | (simp only [e1, w1]) | (with_reducible first | refine PW.seq ?_ | refine PW.block ?_ | refine PW.fork ?_ | refine PW.skip ?_ | refine PW.exit ?_ | refine PW.ret ?_) | ((with_reducible refine PW.region ttOk ?_ ?_); rfl) | ((with_reducible refine PW.regionD ttOk mixed ?_ ?_ ?_); rfl; rfl) | (with_reducible refine ifW_dec (fun g => ?_) (fun g => ?_) <;> first | (exfalso; omega) | (simp -dsimp only [g, wkI])) | ((with_reducible first | refine condE_dec (fun g => ?_) (fun g => ?_) | refine condE_not (fun g => ?_) (fun g => ?_)) <;> try (exfalso; omega)) | (simp -dsimp only [↓wkA, ↓wkE, ↓wkJ, wkB, ↓tt, Nat.reduceBEq, Nat.reduceEqDiff, ↓reduceIte, Nat.reduceLT, Array.toList, Nat.reduceAdd, Nat.reduceMul, Int.reduceToNat, Int.reducePow, UInt8.reduceToNat]) | (simp -dsimp (disch := first | assumption | omega) only [dec_t, dec_f])
      | (refine And.intro ?_ ?_
         · first | omega | decide | (simp (disch := omega) only [wkW, Int.reduceToNat, Int.reducePow] <;> omega) | (simp <;> omega)) | (simp (disch := omega) only [wkW, Int.reduceToNat, Int.reducePow])
  · clear ez
    generalize v / 18446744073709551616 ^ (i / 64) % 18446744073709551616 / 2 ^ (i % 64) = y at *
    generalize v / 2 ^ i % 2 = z at *
    generalize natL v = a at *
    repeat' first
      | (simp only [e1, e2, w1, w2, w3, e3, e5, Int.toNat_natCast]) | (with_reducible first | refine PW.seq ?_ | refine PW.block ?_ | refine PW.fork ?_ | refine PW.skip ?_ | refine PW.exit ?_ | refine PW.ret ?_) | ((with_reducible refine PW.region ttOk ?_ ?_); rfl) | ((with_reducible refine PW.regionD ttOk mixed ?_ ?_ ?_); rfl; rfl) | (with_reducible refine ifW_dec (fun g => ?_) (fun g => ?_) <;> first | (exfalso; omega) | (simp -dsimp only [g, wkI])) | ((with_reducible first | refine condE_dec (fun g => ?_) (fun g => ?_) | refine condE_not (fun g => ?_) (fun g => ?_)) <;> try (exfalso; omega)) | (simp -dsimp only [↓wkA, ↓wkE, ↓wkJ, wkB, ↓tt, Nat.reduceBEq, Nat.reduceEqDiff, ↓reduceIte, Nat.reduceLT, Array.toList, Nat.reduceAdd, Nat.reduceMul, Int.reduceToNat, Int.reducePow, UInt8.reduceToNat]) | (simp -dsimp (disch := first | assumption | omega) only [dec_t, dec_f])
      | (refine And.intro ?_ ?_
         · first | omega | decide | (simp (disch := omega) only [wkW, Int.reduceToNat, Int.reducePow] <;> omega) | (simp <;> omega)) | (simp (disch := omega) only [wkW, Int.reduceToNat, Int.reducePow])
theorem pow10_ok (n : Nat) (hn : n < 9223372036854775807) (h : 10 ^ n < NMax) : Meets Tryz.prog 92 [.int .i64 (n : Int)] (.tup [.ints .u64 (natL (10 ^ n)), .int .i64 0]) := by
  have hp := pow_ten n hn _ (fun _ => rfl) (fun h2 => absurd h h2)
  refine meets_by ttOk Tryz.func92 Tryz.ntmps92 Tryz.results92 (by kernel_rfl) (c := _) rfl rfl rfl fun E => ?_
  simp only [argsFrame]
  repeat' first
    | (with_reducible first | refine PW.seq ?_ | refine PW.block ?_ | refine PW.fork ?_ | refine PW.skip ?_ | refine PW.exit ?_ | refine PW.ret ?_) | ((with_reducible refine PW.region ttOk ?_ ?_); rfl) | ((with_reducible refine PW.regionD ttOk mixed ?_ ?_ ?_); rfl; rfl) | (with_reducible refine ifW_dec (fun g => ?_) (fun g => ?_) <;> first | (exfalso; omega) | (simp -dsimp only [g, wkI])) | ((with_reducible first | refine condE_dec (fun g => ?_) (fun g => ?_) | refine condE_not (fun g => ?_) (fun g => ?_)) <;> try (exfalso; omega)) | (simp -dsimp only [↓wkA, ↓wkE, ↓wkJ, wkB, ↓tt, Nat.reduceBEq, Nat.reduceEqDiff, ↓reduceIte, Nat.reduceLT, Array.toList, Nat.reduceAdd, Nat.reduceMul, Int.reduceToNat, Int.reducePow, UInt8.reduceToNat]) | (refine call_drop (args' := [.ints .u64 [10], .int .i64 (n : Int)]) rfl hp (by simp -dsimp only [okViews, ↓wkA, ↓wkE, ↓wkJ, wkB, ↓tt, Nat.reduceBEq, Nat.reduceEqDiff, ↓reduceIte, Nat.reduceLT, Array.toList, Nat.reduceAdd, Nat.reduceMul, Int.reduceToNat, Int.reducePow, UInt8.reduceToNat]; decide) rfl ?_) | (simp -dsimp (disch := first | assumption | omega) only [dec_t, dec_f])
    | (refine And.intro ?_ ?_
       · first | omega | decide | (simp (disch := omega) only [wkW, Int.reduceToNat, Int.reducePow] <;> omega) | (simp <;> omega)) | (simp (disch := omega) only [wkW, Int.reduceToNat, Int.reducePow])
theorem text_ge {b : Nat} (hb : 2 ≤ b) (u : Bool) : ∀ v, v ≠ 0 → b ^ ((text b u v).length - 1) ≤ v := by
  intro v
  induction v using Nat.strongRecOn with
  | _ v ih =>
    intro h0
    rw [text_step hb u h0, List.length_append, List.length_singleton, Nat.add_sub_cancel]
    by_cases h1 : v / b = 0
    · rw [h1, text_nil]; simp; omega
    · have h2 := ih _ (Nat.div_lt_self (by omega) (show 1 < b by omega)) h1
      have h3 : 0 < (text b u (v / b)).length := List.length_pos_iff.2 (text_ne hb u h1)
      have h4 : b ^ (text b u (v / b)).length = b ^ ((text b u (v / b)).length - 1) * b := by
        rw [← Nat.pow_succ]; congr 1; omega
      rw [h4]
      have h5 := Nat.div_mul_le_self v b
      have h6 : b ^ ((text b u (v / b)).length - 1) * b ≤ v / b * b := Nat.mul_le_mul_right _ h2
      omega
theorem worth_dec {c : Int} : worth c < 10 ↔ 48 ≤ c ∧ c ≤ 57 := by
  unfold worth
  repeat' split
  all_goals omega
theorem text_digs {v : Nat} : Digs (text 10 false v) := fun x hx => by
  obtain ⟨d, hd, rfl⟩ := text_all (by decide) false v x hx
  have h := (letter_all false ⟨d, by omega⟩).1
  simp only at h
  have := worth_dec (c := letter false d)
  omega
def absD (d : Nat) : Nat := d % 9223372036854775808
def fieldD (d : Nat) : Nat := absD d / 4503599627370496
def fracD (d : Nat) : Nat := d % 4503599627370496
def negD (d : Nat) : Bool := decide (9223372036854775808 ≤ d)
def classD (d : Nat) : Int := if absD d = 0 then 0 else if fieldD d = 0 then 1 else if fieldD d < 2047 then 2 else if fracD d = 0 then 3 else 4
def mantD (d : Nat) : Nat := if fieldD d = 0 then fracD d else 4503599627370496 + fracD d
def expD (d : Nat) : Int := if fieldD d = 0 then -1074 else (fieldD d : Int) - 1075
def finD (d : Nat) : Prop := fieldD d < 2047
instance (d : Nat) : Decidable (finD d) := inferInstanceAs (Decidable (_ < _))
def partsM (d : Nat) : Int := if classD d = 1 ∨ classD d = 2 then (mantD d : Int) else (fracD d : Int)
def partsE (d : Nat) : Int := if classD d = 1 ∨ classD d = 2 then expD d else 0
def partsP (d : Nat) : PV := .agg [.bool (negD d), .int .i64 (classD d), .int .u64 (partsM d), .int .i64 (partsE d)]
theorem abs_lt (d : Nat) : absD d < 9223372036854775808 := Nat.mod_lt _ (by decide)
theorem abs_frac (d : Nat) : absD d % 4503599627370496 = fracD d := by unfold absD fracD; omega
theorem abs_parts (d : Nat) : absD d = fieldD d * 4503599627370496 + fracD d := by have := abs_frac d; unfold fieldD; omega
theorem frac_lt (d : Nat) : fracD d < 4503599627370496 := Nat.mod_lt _ (by decide)
theorem field_lt (d : Nat) : fieldD d < 2048 := by have := abs_lt d; unfold fieldD; omega
theorem abs_zero {d : Nat} : absD d = 0 ↔ fieldD d = 0 ∧ fracD d = 0 := by have := abs_parts d; omega
theorem mantD_zero {d : Nat} : mantD d = 0 ↔ absD d = 0 := by
  rw [abs_zero]; unfold mantD; split <;> omega
theorem mantD_lt (d : Nat) : mantD d < 9007199254740992 := by have := frac_lt d; unfold mantD; split <;> omega
theorem expD_ge (d : Nat) : -1074 ≤ expD d := by unfold expD; split <;> omega
theorem expD_le {d : Nat} (h : finD d) : expD d ≤ 971 := by unfold finD at h; unfold expD; split <;> omega
theorem fin_class {d : Nat} : finD d ↔ classD d < 3 := by
  have := @abs_zero d
  unfold finD classD
  split
  · omega
  · split
    · omega
    · split
      · omega
      · split <;> omega
theorem classD_le (d : Nat) : 0 ≤ classD d ∧ classD d ≤ 4 := by unfold classD; split; omega; split; omega; split; omega; split <;> omega
theorem class_zero {d : Nat} : classD d = 0 ↔ absD d = 0 := by unfold classD; split; omega; split; omega; split; omega; split <;> omega
theorem parts_fin {d : Nat} (h : finD d) (h0 : absD d ≠ 0) : partsM d = mantD d ∧ partsE d = expD d := by
  have h1 := fin_class.1 h
  have h2 := class_zero (d := d)
  have h3 := classD_le d
  unfold partsM partsE
  rw [if_pos (by omega), if_pos (by omega)]
  exact ⟨rfl, rfl⟩
theorem and_bit (d i : Nat) : d &&& 2 ^ i = d / 2 ^ i % 2 * 2 ^ i := by
  have := Nat.mod_lt (d / 2 ^ i) (show 2 > 0 by decide)
  refine Nat.eq_of_testBit_eq fun j => ?_
  rw [Nat.testBit_and, Nat.testBit_two_pow]
  by_cases e : i = j
  · subst e
    rw [Nat.testBit_eq_decide_div_mod_eq]
    by_cases h : d / 2 ^ i % 2 = 1
    · rw [h]; simp
    · have h0 : d / 2 ^ i % 2 = 0 := by omega
      rw [h0]; simp
  · by_cases h : d / 2 ^ i % 2 = 1
    · rw [h, Nat.one_mul, Nat.testBit_two_pow]; simp [e]
    · have h0 : d / 2 ^ i % 2 = 0 := by omega
      rw [h0]; simp [e]
theorem and_sign {d : Nat} (hd : d < 18446744073709551616) : ibits .and .u64 (d : Int) 9223372036854775808 = if 9223372036854775808 ≤ d then 9223372036854775808 else 0 := by
  rw [ibits_and_u64 ⟨by omega, by omega⟩ (by decide), Int.toNat_natCast]
  have e : (9223372036854775808 : Int).toNat = 2 ^ 63 := by decide
  rw [e, and_bit]
  have e2 : (2 : Nat) ^ 63 = 9223372036854775808 := by decide
  rw [e2]
  split <;> omega
theorem andNot_sign {d : Nat} (hd : d < 18446744073709551616) : ibits .andNot .u64 (d : Int) 9223372036854775808 = (absD d : Int) := by
  rw [ibits_andNot_u64 ⟨by omega, by omega⟩ (by decide), Int.toNat_natCast]
  have e : (9223372036854775808 : Int).toNat = 2 ^ 63 := by decide
  rw [e, and_bit]
  have e2 : (2 : Nat) ^ 63 = 9223372036854775808 := by decide
  rw [e2]
  unfold absD
  omega
theorem and_frac {d : Nat} (hd : d < 18446744073709551616) : ibits .and .u64 (d : Int) 4503599627370495 = (fracD d : Int) := by
  have h := and_low 52 (by decide) (a := (d : Int)) ⟨by omega, by omega⟩
  rw [show (((2 ^ 52 - 1 : Nat)) : Int) = 4503599627370495 from rfl] at h
  rw [h]
  unfold fracD
  have e2 : (2 : Int) ^ 52 = 4503599627370496 := by decide
  rw [e2]
  omega
theorem or_hidden {f : Nat} (hf : f < 4503599627370496) : ibits .or .u64 4503599627370496 (f : Int) = ((4503599627370496 + f : Nat) : Int) := by
  rw [ibits_or_u64 (by decide) ⟨by omega, by omega⟩, Int.toNat_natCast]
  have h := Nat.two_pow_add_eq_or_of_lt (i := 52) (b := f) (by simpa using hf) 1
  have e : (4503599627370496 : Int).toNat = 2 ^ 52 * 1 := by decide
  rw [e, ← h]
theorem and_field {x : Nat} (hx : x < 4096) : ibits .and .u64 (x : Int) 2047 = ((x % 2048 : Nat) : Int) := by
  have h := and_low 11 (by decide) (a := (x : Int)) ⟨by omega, by omega⟩
  rw [show (((2 ^ 11 - 1 : Nat)) : Int) = 2047 from rfl] at h
  rw [h]
  have e2 : (2 : Int) ^ 11 = 2048 := by decide
  rw [e2]
  omega
theorem shr_52 {d : Nat} : d / 4503599627370496 % 2048 = fieldD d := by unfold fieldD absD; omega
def tzRen : Go.Shelf.Ren := ⟨fun | 29 => 168 | n => n, fun | 0 => 0 | 3 => 3 | 4 => 4 | 5 => 5 | 22 => 25 | 25 => 65 | 54 => 174 | n => n, fun | 1 => 5 | n => n⟩
theorem tzLays : Go.Proofs.Lays7.n29 Tryz.prog tzRen := {
  mixed := by kernel_rfl
  f29 := Tryz.func168.trans (congrArg some (by kernel_rfl))
  t0 := Tryz.underlying0
  a0 := Tryz.isAgg0
  z0 := Tryz.sizeOf0
  v0 := Tryz.zeroValue0
  i0 := by kernel_rfl
  t3 := Tryz.underlying3
  a3 := Tryz.isAgg3
  z3 := Tryz.sizeOf3
  v3 := Tryz.zeroValue3
  i3 := by kernel_rfl
  t4 := Tryz.underlying4
  a4 := Tryz.isAgg4
  z4 := Tryz.sizeOf4
  v4 := Tryz.zeroValue4
  i4 := by kernel_rfl
  t5 := Tryz.underlying5
  a5 := Tryz.isAgg5
  z5 := Tryz.sizeOf5
  v5 := Tryz.zeroValue5
  i5 := by kernel_rfl
  t22 := Tryz.underlying25
  a22 := Tryz.isAgg25
  z22 := Tryz.sizeOf25
  v22 := Tryz.zeroValue25
  i22 := by kernel_rfl
  t25 := Tryz.underlying65
  a25 := Tryz.isAgg65
  z25 := Tryz.sizeOf65
  v25 := Tryz.zeroValue65
  i25 := by kernel_rfl
  t54 := Tryz.underlying174
  a54 := Tryz.isAgg174
  z54 := Tryz.sizeOf174
  g1 := by kernel_rfl }
theorem trailing64 (x : Nat) (hx : x < 18446744073709551616) : Meets Tryz.prog 168 [.int .u64 (x : Int)] (.int .i64 ((Lib.ctz 64 x : Nat) : Int)) := by
  refine ⟨fun w A vs hA hl ha => .inl ⟨call_enters Tryz.func168 (by kernel_rfl) (c := _) rfl vs w, ?_⟩⟩
  have hs : vs.size = 1 := by simpa using hl.symm
  obtain ⟨v, rfl⟩ : ∃ v, vs = #[v] := ⟨vs[0], Array.ext (by simp [hs]) fun i h1 h2 => by
    have : i = 0 := by omega
    subst this; rfl⟩
  have h0 := ha 0 (by simp)
  simp only [List.getD_cons_zero, Array.getD] at h0
  obtain rfl := rd_int h0
  obtain ⟨gl, hg, hn⟩ := Option.map_eq_some_iff.1 (show (Tryz.prog.globals[5]?).map (·.name) = some "math/bits.deBruijn64tab" by kernel_rfl)
  refine (Go.Proofs.Any7.bits_TrailingZeros64 tzLays x hx w fun _ j hj => (by
    have h := hA.1.cell (tab := (.u8, Lib.deBruijn64tab.map fun k : Nat => (k : Int))) hg (by rw [hn]; rfl) j (by simpa using hj)
    refine h.trans ?_
    simp [List.getD_eq_getElem?_getD, hj])).mono fun e w' ⟨he, hw⟩ => ⟨_, he, ?_⟩
  rw [hw]
  exact ⟨Go.RowKit.Below.refl _ _, .int _ _⟩
theorem ctz_spec {x : Nat} (h0 : x ≠ 0) (hx : x < 18446744073709551616) : Lib.ctz 64 x < 64 ∧ ∃ m, x = 2 ^ Lib.ctz 64 x * (2 * m + 1) := by
  unfold Lib.ctz
  rw [if_neg h0]
  obtain ⟨m, h1, h2⟩ := Lib.ctzFrom_spec 64 x (by omega) (by simpa using hx)
  exact ⟨h2, m, h1⟩
theorem ieee_abs (d : Nat) (hd : d < 18446744073709551616) : Meets Tryz.prog 42 [.int .u64 (d : Int)] (.int .u64 (absD d : Int)) := by
  have h1 := andNot_sign hd
  refine meets_by ttOk Tryz.func42 Tryz.ntmps42 Tryz.results42 (by kernel_rfl) (c := _) rfl rfl rfl fun E => ?_
  simp only [argsFrame]
  repeat' first
    | (simp only [h1]) | (with_reducible first | refine PW.seq ?_ | refine PW.block ?_ | refine PW.fork ?_ | refine PW.skip ?_ | refine PW.exit ?_ | refine PW.ret ?_) | ((with_reducible refine PW.region ttOk ?_ ?_); rfl) | ((with_reducible refine PW.regionD ttOk mixed ?_ ?_ ?_); rfl; rfl) | (with_reducible refine ifW_dec (fun g => ?_) (fun g => ?_) <;> first | (exfalso; omega) | (simp -dsimp only [g, wkI])) | ((with_reducible first | refine condE_dec (fun g => ?_) (fun g => ?_) | refine condE_not (fun g => ?_) (fun g => ?_)) <;> try (exfalso; omega)) | (simp -dsimp only [↓wkA, ↓wkE, ↓wkJ, wkB, ↓tt, Nat.reduceBEq, Nat.reduceEqDiff, ↓reduceIte, Nat.reduceLT, Array.toList, Nat.reduceAdd, Nat.reduceMul, Int.reduceToNat, Int.reducePow, UInt8.reduceToNat]) | (simp -dsimp (disch := first | assumption | omega) only [dec_t, dec_f])
    | (refine And.intro ?_ ?_
       · first | omega | decide | (simp (disch := omega) only [wkW, Int.reduceToNat, Int.reducePow] <;> omega) | (simp <;> omega)) | (simp (disch := omega) only [wkW, Int.reduceToNat, Int.reducePow])
theorem ieee_class (d : Nat) (hd : d < 18446744073709551616) : Meets Tryz.prog 21 [.int .u64 (d : Int)] (.int .i64 (classD d)) := by
  have h1 := ieee_abs d hd
  have hp := abs_parts d
  have hf := frac_lt d
  have hb := field_lt d
  refine meets_by ttOk Tryz.func21 Tryz.ntmps21 Tryz.results21 (by kernel_rfl) (c := _) rfl rfl rfl fun E => ?_
  simp only [argsFrame]
  repeat' first
    | (with_reducible first | refine PW.seq ?_ | refine PW.block ?_ | refine PW.fork ?_ | refine PW.skip ?_ | refine PW.exit ?_ | refine PW.ret ?_) | ((with_reducible refine PW.region ttOk ?_ ?_); rfl) | ((with_reducible refine PW.regionD ttOk mixed ?_ ?_ ?_); rfl; rfl) | (with_reducible refine ifW_dec (fun g => ?_) (fun g => ?_) <;> first | (exfalso; omega) | (simp -dsimp only [g, wkI])) | ((with_reducible first | refine condE_dec (fun g => ?_) (fun g => ?_) | refine condE_not (fun g => ?_) (fun g => ?_)) <;> try (exfalso; omega)) | (simp -dsimp only [↓wkA, ↓wkE, ↓wkJ, wkB, ↓tt, Nat.reduceBEq, Nat.reduceEqDiff, ↓reduceIte, Nat.reduceLT, Array.toList, Nat.reduceAdd, Nat.reduceMul, Int.reduceToNat, Int.reducePow, UInt8.reduceToNat]) | (refine call_by (h1) (views_data rfl) ⟨trivial, trivial⟩ rfl ?_) | (simp -dsimp (disch := first | assumption | omega) only [dec_t, dec_f])
    | (refine And.intro ?_ ?_
       · first | omega | decide | (simp (disch := omega) only [wkW, Int.reduceToNat, Int.reducePow] <;> omega) | (simp <;> omega)) | (simp (disch := omega) only [wkW, Int.reduceToNat, Int.reducePow])
  all_goals (refine congrArg (PV.int _) ?_; unfold classD; repeat' split)
  all_goals omega
theorem ieee_decode (d : Nat) (hd : d < 18446744073709551616) : Meets Tryz.prog 52 [.int .u64 (d : Int)] (partsP d) := by
  have hc := ieee_class d hd
  have h1 := and_sign hd
  have h2 := and_frac hd
  have h3 := or_hidden (frac_lt d)
  have h4 : ((d : Int)).fdiv (2 ^ min 52 64) = ((d / 4503599627370496 : Nat) : Int) := by
    rw [show (2 : Int) ^ min 52 64 = 4503599627370496 from by decide, fdiv_pos (by decide)]; omega
  have h5 := and_field (x := d / 4503599627370496) (by omega)
  rw [shr_52] at h5
  have hb := field_lt d
  have w1 : IntKind.wrap .i64 ((fieldD d : Nat) : Int) = (fieldD d : Int) := wrap_i64 (by omega)
  have w2 : IntKind.wrap .i64 ((fieldD d : Int) - 1075) = (fieldD d : Int) - 1075 := wrap_i64 (by omega)
  have hn : (!decide ((if 9223372036854775808 ≤ d then (9223372036854775808 : Int) else 0) = 0)) = negD d := by
    unfold negD
    by_cases h : 9223372036854775808 ≤ d
    · rw [if_pos h]; simp [h]
    · rw [if_neg h]; simp [h]
  have hcl := classD_le d
  have hcd : classD d = 1 → fieldD d = 0 := fun h => by unfold classD at h; repeat' split at h <;> omega
  have hce : classD d = 2 → fieldD d ≠ 0 := fun h => by unfold classD at h; repeat' split at h <;> omega
  have hcz : classD d = 0 → fracD d = 0 := fun h => (abs_zero.1 (class_zero.1 h)).2
  have hci : classD d = 3 → fracD d = 0 := fun h => by unfold classD at h; repeat' split at h <;> omega
  have hM : partsM d = if classD d = 1 then (fracD d : Int) else if classD d = 2 then ((4503599627370496 + fracD d : Nat) : Int) else if classD d = 4 then (fracD d : Int) else 0 := by
    unfold partsM mantD
    repeat' split
    all_goals omega
  have hE : partsE d = if classD d = 1 then -1074 else if classD d = 2 then (fieldD d : Int) - 1075 else 0 := by
    unfold partsE expD
    repeat' split
    all_goals omega
  clear hcd hce hcz hci
  unfold partsP
  rw [hM, hE]
  generalize classD d = c at *
  generalize fieldD d = fd at *
  generalize fracD d = fr at *
  clear hM hE
  rcases (show c = 0 ∨ c = 1 ∨ c = 2 ∨ c = 3 ∨ c = 4 by omega) with rfl | rfl | rfl | rfl | rfl
  all_goals (refine meets_by ttOk Tryz.func52 Tryz.ntmps52 Tryz.results52 (by kernel_rfl) (c := _) rfl rfl rfl fun E => ?_; simp only [argsFrame])
  all_goals
    repeat' first
      | (simp only [h1, h2, h3, h4, h5, w1, w2, hn]) | (with_reducible first | refine PW.seq ?_ | refine PW.block ?_ | refine PW.fork ?_ | refine PW.skip ?_ | refine PW.exit ?_ | refine PW.ret ?_) | ((with_reducible refine PW.region ttOk ?_ ?_); rfl) | ((with_reducible refine PW.regionD ttOk mixed ?_ ?_ ?_); rfl; rfl) | (with_reducible refine ifW_dec (fun g => ?_) (fun g => ?_) <;> first | (exfalso; omega) | (simp -dsimp only [g, wkI])) | ((with_reducible first | refine condE_dec (fun g => ?_) (fun g => ?_) | refine condE_not (fun g => ?_) (fun g => ?_)) <;> try (exfalso; omega)) | (simp -dsimp only [↓wkA, ↓wkE, ↓wkJ, wkB, ↓tt, Nat.reduceBEq, Nat.reduceEqDiff, ↓reduceIte, Nat.reduceLT, Array.toList, Nat.reduceAdd, Nat.reduceMul, Int.reduceToNat, Int.reducePow, UInt8.reduceToNat]) | (refine call_by (hc) (views_data rfl) ⟨trivial, trivial⟩ rfl ?_) | (simp -dsimp (disch := first | assumption | omega) only [dec_t, dec_f])
      | (refine And.intro ?_ ?_
         · first | omega | decide | (simp (disch := omega) only [wkW, Int.reduceToNat, Int.reducePow] <;> omega) | (simp <;> omega)) | (simp (disch := omega) only [wkW, Int.reduceToNat, Int.reducePow])
  all_goals simp
theorem ref04_abs (d : Nat) (hd : d < 18446744073709551616) : Meets Tryz.prog 32 [.int .u64 (d : Int)] (.int .u64 (absD d : Int)) := by
  refine meets_by ttOk Tryz.func32 Tryz.ntmps32 Tryz.results32 (by kernel_rfl) (c := _) rfl rfl rfl fun E => ?_
  simp only [argsFrame]
  repeat' first
    | (with_reducible first | refine PW.seq ?_ | refine PW.block ?_ | refine PW.fork ?_ | refine PW.skip ?_ | refine PW.exit ?_ | refine PW.ret ?_) | ((with_reducible refine PW.region ttOk ?_ ?_); rfl) | ((with_reducible refine PW.regionD ttOk mixed ?_ ?_ ?_); rfl; rfl) | (with_reducible refine ifW_dec (fun g => ?_) (fun g => ?_) <;> first | (exfalso; omega) | (simp -dsimp only [g, wkI])) | ((with_reducible first | refine condE_dec (fun g => ?_) (fun g => ?_) | refine condE_not (fun g => ?_) (fun g => ?_)) <;> try (exfalso; omega)) | (simp -dsimp only [↓wkA, ↓wkE, ↓wkJ, wkB, ↓tt, Nat.reduceBEq, Nat.reduceEqDiff, ↓reduceIte, Nat.reduceLT, Array.toList, Nat.reduceAdd, Nat.reduceMul, Int.reduceToNat, Int.reducePow, UInt8.reduceToNat]) | (simp -dsimp (disch := first | assumption | omega) only [dec_t, dec_f])
    | (refine And.intro ?_ ?_
       · first | omega | decide | (simp (disch := omega) only [wkW, Int.reduceToNat, Int.reducePow] <;> omega) | (simp <;> omega)) | (simp (disch := omega) only [wkW, Int.reduceToNat, Int.reducePow])
  all_goals (refine congrArg (PV.int _) ?_; unfold absD; omega)
theorem ref04_finite (d : Nat) (hd : d < 18446744073709551616) : Meets Tryz.prog 31 [.int .u64 (d : Int)] (.bool (decide (finD d))) := by
  have h1 := ref04_abs d hd
  have hp := abs_parts d
  have hf := frac_lt d
  refine meets_by ttOk Tryz.func31 Tryz.ntmps31 Tryz.results31 (by kernel_rfl) (c := _) rfl rfl rfl fun E => ?_
  simp only [argsFrame]
  repeat' first
    | (with_reducible first | refine PW.seq ?_ | refine PW.block ?_ | refine PW.fork ?_ | refine PW.skip ?_ | refine PW.exit ?_ | refine PW.ret ?_) | ((with_reducible refine PW.region ttOk ?_ ?_); rfl) | ((with_reducible refine PW.regionD ttOk mixed ?_ ?_ ?_); rfl; rfl) | (with_reducible refine ifW_dec (fun g => ?_) (fun g => ?_) <;> first | (exfalso; omega) | (simp -dsimp only [g, wkI])) | ((with_reducible first | refine condE_dec (fun g => ?_) (fun g => ?_) | refine condE_not (fun g => ?_) (fun g => ?_)) <;> try (exfalso; omega)) | (simp -dsimp only [↓wkA, ↓wkE, ↓wkJ, wkB, ↓tt, Nat.reduceBEq, Nat.reduceEqDiff, ↓reduceIte, Nat.reduceLT, Array.toList, Nat.reduceAdd, Nat.reduceMul, Int.reduceToNat, Int.reducePow, UInt8.reduceToNat]) | (refine call_by (h1) (views_data rfl) ⟨trivial, trivial⟩ rfl ?_) | (simp -dsimp (disch := first | assumption | omega) only [dec_t, dec_f])
    | (refine And.intro ?_ ?_
       · first | omega | decide | (simp (disch := omega) only [wkW, Int.reduceToNat, Int.reducePow] <;> omega) | (simp <;> omega)) | (simp (disch := omega) only [wkW, Int.reduceToNat, Int.reducePow])
  all_goals (refine congrArg PV.bool ?_; unfold finD; refine decide_eq_decide.2 ?_; omega)
theorem natL_one (x : Nat) (hx : 0 < x ∧ x < 18446744073709551616) : natL x = [(x : Int)] := by
  have h := digs_step (b := 18446744073709551616) (by decide) (v := x) (by omega)
  rw [Nat.mod_eq_of_lt hx.2, Nat.div_eq_of_lt hx.2, digs_zero] at h
  simp [natL, h]
theorem nil_as_ints {f : FuncId} {args : List PV} (k : IntKind) (hm : Meets Tryz.prog f args .nil) : Meets Tryz.prog f args (.ints k []) := hm.mono fun w A v h => rd_nil_ints h
theorem from_uint (x : Nat) (hx : x < 18446744073709551616) : Meets Tryz.prog 95 [.int .u64 (x : Int)] (.ints .u64 (natL x)) := by
  by_cases h0 : x = 0
  · subst h0
    rw [natL_zero]
    refine nil_as_ints .u64 ?_
    refine meets_by ttOk Tryz.func95 Tryz.ntmps95 Tryz.results95 (by kernel_rfl) (c := _) rfl rfl rfl fun E => ?_
    simp only [argsFrame]
    repeat' first
      | (with_reducible first | refine PW.seq ?_ | refine PW.block ?_ | refine PW.fork ?_ | refine PW.skip ?_ | refine PW.exit ?_ | refine PW.ret ?_) | ((with_reducible refine PW.region ttOk ?_ ?_); rfl) | ((with_reducible refine PW.regionD ttOk mixed ?_ ?_ ?_); rfl; rfl) | (with_reducible refine ifW_dec (fun g => ?_) (fun g => ?_) <;> first | (exfalso; omega) | (simp -dsimp only [g, wkI])) | ((with_reducible first | refine condE_dec (fun g => ?_) (fun g => ?_) | refine condE_not (fun g => ?_) (fun g => ?_)) <;> try (exfalso; omega)) | (simp -dsimp only [↓wkA, ↓wkE, ↓wkJ, wkB, ↓tt, Nat.reduceBEq, Nat.reduceEqDiff, ↓reduceIte, Nat.reduceLT, Array.toList, Nat.reduceAdd, Nat.reduceMul, Int.reduceToNat, Int.reducePow, UInt8.reduceToNat]) | (simp -dsimp (disch := first | assumption | omega) only [dec_t, dec_f])
      | (refine And.intro ?_ ?_
         · first | omega | decide | (simp (disch := omega) only [wkW, Int.reduceToNat, Int.reducePow] <;> omega) | (simp <;> omega)) | (simp (disch := omega) only [wkW, Int.reduceToNat, Int.reducePow])
  · rw [natL_one x ⟨by omega, hx⟩]
    refine meets_by ttOk Tryz.func95 Tryz.ntmps95 Tryz.results95 (by kernel_rfl) (c := _) rfl rfl rfl fun E => ?_
    simp only [argsFrame]
    repeat' first
      | (with_reducible first | refine PW.seq ?_ | refine PW.block ?_ | refine PW.fork ?_ | refine PW.skip ?_ | refine PW.exit ?_ | refine PW.ret ?_) | ((with_reducible refine PW.region ttOk ?_ ?_); rfl) | ((with_reducible refine PW.regionD ttOk mixed ?_ ?_ ?_); rfl; rfl) | (with_reducible refine ifW_dec (fun g => ?_) (fun g => ?_) <;> first | (exfalso; omega) | (simp -dsimp only [g, wkI])) | ((with_reducible first | refine condE_dec (fun g => ?_) (fun g => ?_) | refine condE_not (fun g => ?_) (fun g => ?_)) <;> try (exfalso; omega)) | (simp -dsimp only [↓wkA, ↓wkE, ↓wkJ, wkB, ↓tt, Nat.reduceBEq, Nat.reduceEqDiff, ↓reduceIte, Nat.reduceLT, Array.toList, Nat.reduceAdd, Nat.reduceMul, Int.reduceToNat, Int.reducePow, UInt8.reduceToNat]) | (exact Nat.le_refl _) | (simp -dsimp (disch := first | assumption | omega) only [dec_t, dec_f])
      | (refine And.intro ?_ ?_
         · first | omega | decide | (simp (disch := omega) only [wkW, Int.reduceToNat, Int.reducePow] <;> omega) | (simp <;> omega)) | (simp (disch := omega) only [wkW, Int.reduceToNat, Int.reducePow])
theorem nat_bitlen (v : Nat) (hv : v < NMax) : Meets Tryz.prog 53 [.ints .u64 (natL v)] (.int .i64 ((bitlen v : Nat) : Int)) := by
  have hl := natL_small hv
  have hs := nat_size (natL v) (by omega)
  rw [size_natL] at hs
  by_cases h0 : v = 0
  · subst h0
    rw [natL_zero] at hs ⊢
    have e : ((bitlen 0 : Nat) : Int) = 0 := by decide
    rw [e]
    refine meets_by ttOk Tryz.func53 Tryz.ntmps53 Tryz.results53 (by kernel_rfl) (c := _) rfl rfl rfl fun E => ?_
    simp only [argsFrame]
    repeat' first
      | (with_reducible first | refine PW.seq ?_ | refine PW.block ?_ | refine PW.fork ?_ | refine PW.skip ?_ | refine PW.exit ?_ | refine PW.ret ?_) | ((with_reducible refine PW.region ttOk ?_ ?_); rfl) | ((with_reducible refine PW.regionD ttOk mixed ?_ ?_ ?_); rfl; rfl) | (with_reducible refine ifW_dec (fun g => ?_) (fun g => ?_) <;> first | (exfalso; omega) | (simp -dsimp only [g, wkI])) | ((with_reducible first | refine condE_dec (fun g => ?_) (fun g => ?_) | refine condE_not (fun g => ?_) (fun g => ?_)) <;> try (exfalso; omega)) | (simp -dsimp only [↓wkA, ↓wkE, ↓wkJ, wkB, ↓tt, Nat.reduceBEq, Nat.reduceEqDiff, ↓reduceIte, Nat.reduceLT, Array.toList, Nat.reduceAdd, Nat.reduceMul, Int.reduceToNat, Int.reducePow, UInt8.reduceToNat]) | (refine call_by (hs) (views_data rfl) ⟨trivial, trivial⟩ rfl ?_) | (simp -dsimp (disch := first | assumption | omega) only [dec_t, dec_f])
      | (refine And.intro ?_ ?_
         · first | omega | decide | (simp (disch := omega) only [wkW, Int.reduceToNat, Int.reducePow] <;> omega) | (simp <;> omega)) | (simp (disch := omega) only [wkW, Int.reduceToNat, Int.reducePow])
  obtain ⟨h1, h2⟩ := natL_ge h0
  have h3 := natL_lt v
  obtain ⟨k, hk⟩ : ∃ k, (natL v).length = k + 1 := ⟨(natL v).length - 1, by omega⟩
  have hg := natL_getD v k
  rw [hk] at hs h2 h3 hl
  rw [Nat.add_sub_cancel] at h2
  have hlt : v / 18446744073709551616 ^ k < 18446744073709551616 := by
    rw [Nat.div_lt_iff_lt_mul (Nat.pow_pos (by decide)), Nat.mul_comm, ← Nat.pow_succ]
    exact h3
  rw [Nat.mod_eq_of_lt hlt] at hg
  have hL := len64 ((v / 18446744073709551616 ^ k : Nat) : Int) ⟨Int.natCast_nonneg _, nat64 _ hlt⟩
  rw [Int.toNat_natCast] at hL
  have e2 : (18446744073709551616 : Nat) = 2 ^ 64 := rfl
  have hb : bitlen v = bitlen (v / 18446744073709551616 ^ k) + 64 * k := by
    rw [e2, ← Nat.pow_mul] at h2 ⊢
    exact bitlen_div (64 * k) h2
  have hb2 : bitlen (v / 18446744073709551616 ^ k) ≤ 64 := bitlen_le (k := 64) hlt
  rw [hb]
  generalize v / 18446744073709551616 ^ k = x at *
  generalize bitlen x = B at *
  have ek : ((k + 1 : Nat) : Int) - 1 = (k : Int) := by omega
  have w1 : IntKind.wrap .i64 (k : Int) = (k : Int) := wrap_i64 (by omega)
  have w2 : IntKind.wrap .i64 (64 * (k : Int)) = 64 * (k : Int) := wrap_i64 (by omega)
  have w3 : IntKind.wrap .i64 (64 * (k : Int) + (B : Int)) = ((B + 64 * k : Nat) : Int) := by rw [wrap_i64 (by omega)]; omega
  clear h1 h2 h3 hlt hb hb2
  generalize natL v = a at *
  refine meets_by ttOk Tryz.func53 Tryz.ntmps53 Tryz.results53 (by kernel_rfl) (c := _) rfl rfl rfl fun E => ?_
  simp only [argsFrame]
  repeat' first
    | (simp only [ek, w1, w2, w3, hg, Int.toNat_natCast]) | (with_reducible first | refine PW.seq ?_ | refine PW.block ?_ | refine PW.fork ?_ | refine PW.skip ?_ | refine PW.exit ?_ | refine PW.ret ?_) | ((with_reducible refine PW.region ttOk ?_ ?_); rfl) | ((with_reducible refine PW.regionD ttOk mixed ?_ ?_ ?_); rfl; rfl) | (with_reducible refine ifW_dec (fun g => ?_) (fun g => ?_) <;> first | (exfalso; omega) | (simp -dsimp only [g, wkI])) | ((with_reducible first | refine condE_dec (fun g => ?_) (fun g => ?_) | refine condE_not (fun g => ?_) (fun g => ?_)) <;> try (exfalso; omega)) | (simp -dsimp only [↓wkA, ↓wkE, ↓wkJ, wkB, ↓tt, Nat.reduceBEq, Nat.reduceEqDiff, ↓reduceIte, Nat.reduceLT, Array.toList, Nat.reduceAdd, Nat.reduceMul, Int.reduceToNat, Int.reducePow, UInt8.reduceToNat]) | (refine call_by (hs) (views_data rfl) ⟨trivial, trivial⟩ rfl ?_) | (refine call_by (hL) (views_data rfl) ⟨trivial, trivial⟩ rfl ?_) | (simp -dsimp (disch := first | assumption | omega) only [dec_t, dec_f])
    | (refine And.intro ?_ ?_
       · first | omega | decide | (simp (disch := omega) only [wkW, Int.reduceToNat, Int.reducePow] <;> omega) | (simp <;> omega)) | (simp (disch := omega) only [wkW, Int.reduceToNat, Int.reducePow])
theorem pow64_two (k : Nat) : 18446744073709551616 ^ k = 2 ^ (64 * k) := by rw [Nat.pow_mul]
theorem odd_unique {a b m n : Nat} (h : 2 ^ a * (2 * m + 1) = 2 ^ b * (2 * n + 1)) : a = b := by
  have key : ∀ a c m n : Nat, 2 ^ a * (2 * m + 1) = 2 ^ (a + c) * (2 * n + 1) → c = 0 := by
    intro a c m n h
    rw [Nat.pow_add, Nat.mul_assoc] at h
    have h2 := Nat.eq_of_mul_eq_mul_left (Nat.pow_pos (by decide)) h
    cases c with
    | zero => rfl
    | succ c =>
      rw [Nat.pow_succ, Nat.mul_comm (2 ^ c), Nat.mul_assoc] at h2
      omega
  rcases Nat.le_total a b with hab | hab
  · obtain ⟨c, rfl⟩ := Nat.le.dest hab
    have := key a c m n h; omega
  · obtain ⟨c, rfl⟩ := Nat.le.dest hab
    have := key b c n m h.symm; omega
theorem odd_part {v : Nat} (h : v ≠ 0) : ∃ t m, v = 2 ^ t * (2 * m + 1) := by
  obtain ⟨m, h1, _⟩ := Lib.ctzFrom_spec v v (by omega) Nat.lt_two_pow_self
  exact ⟨_, m, h1⟩
theorem limb_zero {v i : Nat} (h : v % 18446744073709551616 ^ i = 0) (hx : v / 18446744073709551616 ^ i % 18446744073709551616 = 0) : v % 18446744073709551616 ^ (i + 1) = 0 := by
  rw [Nat.pow_succ, Nat.mod_mul, h, hx]; rfl
theorem nat_trail_l {l : List Int} {v t m : Nat} (hl : l.length ≤ 5000) (hg : ∀ k, l.getD k 0 = ((v / 18446744073709551616 ^ k % 18446744073709551616 : Nat) : Int)) (hlt : v < 18446744073709551616 ^ l.length) (hd : v = 2 ^ t * (2 * m + 1)) : Meets Tryz.prog 159 [.ints .u64 l] (.int .i64 (t : Int)) := by
  have hv0 : v ≠ 0 := by rw [hd]; exact Nat.ne_of_gt (Nat.mul_pos (Nat.pow_pos (by decide)) (by omega))
  have hfin : v % 18446744073709551616 ^ l.length ≠ 0 := by rw [Nat.mod_eq_of_lt hlt]; exact hv0
  have hhit : ∀ i, v % 18446744073709551616 ^ i = 0 → v / 18446744073709551616 ^ i % 18446744073709551616 ≠ 0 → t = 64 * i + Lib.ctz 64 (v / 18446744073709551616 ^ i % 18446744073709551616) ∧ Lib.ctz 64 (v / 18446744073709551616 ^ i % 18446744073709551616) < 64 := fun i h1 h2 => by
    obtain ⟨h3, k, h4⟩ := ctz_spec h2 (Nat.mod_lt _ (by decide))
    refine ⟨?_, h3⟩
    generalize Lib.ctz 64 (v / 18446744073709551616 ^ i % 18446744073709551616) = c at *
    have h5 := Nat.div_add_mod v (18446744073709551616 ^ i)
    rw [h1, Nat.add_zero] at h5
    have h6 := Nat.div_add_mod (v / 18446744073709551616 ^ i) 18446744073709551616
    rw [h4] at h6
    generalize v / 18446744073709551616 ^ i / 18446744073709551616 = r at *
    have h7 : (18446744073709551616 : Nat) = 2 ^ c * (2 * 2 ^ (63 - c)) := by
      rw [← Nat.pow_succ', ← Nat.pow_add, show c + (63 - c).succ = 64 by omega]
    have h8 : 18446744073709551616 * r = 2 ^ c * (2 * (2 ^ (63 - c) * r)) := by
      conv => lhs; rw [h7]
      rw [Nat.mul_assoc, Nat.mul_assoc]
    rw [h8, ← Nat.mul_add] at h6
    have h9 : v = 2 ^ (64 * i + c) * (2 * (2 ^ (63 - c) * r + k) + 1) := by
      rw [← h5, ← h6, pow64_two, ← Nat.mul_assoc, ← Nat.pow_add]
      congr 1
      omega
    exact odd_unique (hd.symm.trans h9)
  clear hlt
  refine meets_by ttOk Tryz.func159 Tryz.ntmps159 Tryz.results159 (by kernel_rfl) (c := _) rfl rfl rfl fun E => ?_
  simp only [argsFrame]
  repeat' first
    | (with_reducible first | refine PW.seq ?_ | refine PW.block ?_ | refine PW.fork ?_ | refine PW.skip ?_ | refine PW.exit ?_ | refine PW.ret ?_) | ((with_reducible refine PW.region ttOk ?_ ?_); rfl) | ((with_reducible refine PW.regionD ttOk mixed ?_ ?_ ?_); rfl; rfl) | (with_reducible refine ifW_dec (fun g => ?_) (fun g => ?_) <;> first | (exfalso; omega) | (simp -dsimp only [g, wkI])) | ((with_reducible first | refine condE_dec (fun g => ?_) (fun g => ?_) | refine condE_not (fun g => ?_) (fun g => ?_)) <;> try (exfalso; omega)) | (simp -dsimp only [↓wkA, ↓wkE, ↓wkJ, wkB, ↓tt, Nat.reduceBEq, Nat.reduceEqDiff, ↓reduceIte, Nat.reduceLT, Array.toList, Nat.reduceAdd, Nat.reduceMul, Int.reduceToNat, Int.reducePow, UInt8.reduceToNat]) | (simp -dsimp (disch := first | assumption | omega) only [dec_t, dec_f])
    | (refine And.intro ?_ ?_
       · first | omega | decide | (simp (disch := omega) only [wkW, Int.reduceToNat, Int.reducePow] <;> omega) | (simp <;> omega)) | (simp (disch := omega) only [wkW, Int.reduceToNat, Int.reducePow])
  refine PW.loopA (fun n F H => ∃ i, i + n = l.length ∧ v % 18446744073709551616 ^ i = 0 ∧ F = [(7, .int .i64 (i : Int)), (6, .int .i64 l.length), (5, .ints .u64 l)] ∧ H = ⟨0, [], [], []⟩) l.length [(7, .int .i64 ((0 : Nat) : Int)), (6, .int .i64 l.length), (5, .ints .u64 l)] ⟨0, [], [], []⟩ (Sub.norm ⟨rfl, rfl, rfl, trivial⟩ trivial (Nat.le_refl _) rfl rfl rfl rfl) ⟨0, by omega, Nat.mod_one _, rfl, rfl⟩ ?_
  rintro n F H ⟨i, hi, hz, rfl, rfl⟩
  cases n with
  | zero =>
    obtain rfl : i = l.length := by omega
    exact absurd hz hfin
  | succ n =>
    have hgi := hg i
    have hhi := hhit i hz
    have hlz := limb_zero hz
    have hxl := Nat.mod_lt (v / 18446744073709551616 ^ i) (show 18446744073709551616 > 0 by decide)
    clear hg hhit hfin hz hd
    generalize v / 18446744073709551616 ^ i % 18446744073709551616 = x at *
    have hil : i < l.length := by omega
    by_cases hx : x = 0
    · subst hx
      have hz2 := hlz rfl
      clear hlz hhi
      have hx0 : ((0 : Nat) : Int) = 0 := rfl
      rw [hx0] at hgi
      repeat' first
        | (simp only [hgi, Int.toNat_natCast]) | (with_reducible first | refine PW.seq ?_ | refine PW.block ?_ | refine PW.fork ?_ | refine PW.skip ?_ | refine PW.exit ?_ | refine PW.ret ?_) | ((with_reducible refine PW.region ttOk ?_ ?_); rfl) | ((with_reducible refine PW.regionD ttOk mixed ?_ ?_ ?_); rfl; rfl) | (with_reducible refine ifW_dec (fun g => ?_) (fun g => ?_) <;> first | (exfalso; omega) | (simp -dsimp only [g, wkI])) | ((with_reducible first | refine condE_dec (fun g => ?_) (fun g => ?_) | refine condE_not (fun g => ?_) (fun g => ?_)) <;> try (exfalso; omega)) | (simp -dsimp only [↓wkA, ↓wkE, ↓wkJ, wkB, ↓tt, Nat.reduceBEq, Nat.reduceEqDiff, ↓reduceIte, Nat.reduceLT, Array.toList, Nat.reduceAdd, Nat.reduceMul, Int.reduceToNat, Int.reducePow, UInt8.reduceToNat]) | (simp -dsimp (disch := first | assumption | omega) only [dec_t, dec_f])
        | (refine And.intro ?_ ?_
           · first | omega | decide | (simp (disch := omega) only [wkW, Int.reduceToNat, Int.reducePow] <;> omega) | (simp <;> omega)) | (simp (disch := omega) only [wkW, Int.reduceToNat, Int.reducePow])
      exact Again.mk n [(7, .int .i64 ((i + 1 : Nat) : Int)), (6, .int .i64 l.length), (5, .ints .u64 l)] ⟨0, [], [], []⟩ (by omega) (Sub.norm ⟨rfl, rfl, rfl, trivial⟩ trivial (Nat.le_refl _) rfl rfl rfl rfl) ⟨i + 1, by omega, hz2, rfl, rfl⟩
    · obtain ⟨h1, h2⟩ := hhi hx
      have htr := trailing64 x hxl
      have hne : (x : Int) ≠ 0 := by omega
      have w1 : IntKind.wrap .i64 (64 * (i : Int)) = 64 * (i : Int) := wrap_i64 (by omega)
      have w2 : IntKind.wrap .i64 (64 * (i : Int) + ((Lib.ctz 64 x : Nat) : Int)) = (t : Int) := by rw [wrap_i64 (by omega)]; omega
      have hdec : decide ((x : Int) = 0) = false := decide_eq_false hne
      clear hlz h1 hhi
      generalize Lib.ctz 64 x = c at *
      repeat' first
        | (simp only [hgi, w1, w2, hdec, Int.toNat_natCast]) | (with_reducible first | refine PW.seq ?_ | refine PW.block ?_ | refine PW.fork ?_ | refine PW.skip ?_ | refine PW.exit ?_ | refine PW.ret ?_) | ((with_reducible refine PW.region ttOk ?_ ?_); rfl) | ((with_reducible refine PW.regionD ttOk mixed ?_ ?_ ?_); rfl; rfl) | (with_reducible refine ifW_dec (fun g => ?_) (fun g => ?_) <;> first | (exfalso; omega) | (simp -dsimp only [g, wkI])) | ((with_reducible first | refine condE_dec (fun g => ?_) (fun g => ?_) | refine condE_not (fun g => ?_) (fun g => ?_)) <;> try (exfalso; omega)) | (simp -dsimp only [↓wkA, ↓wkE, ↓wkJ, wkB, ↓tt, Nat.reduceBEq, Nat.reduceEqDiff, ↓reduceIte, Nat.reduceLT, Array.toList, Nat.reduceAdd, Nat.reduceMul, Int.reduceToNat, Int.reducePow, UInt8.reduceToNat]) | (refine call_by (htr) (views_data rfl) ⟨trivial, trivial⟩ rfl ?_) | (simp -dsimp (disch := first | assumption | omega) only [dec_t, dec_f])
        | (refine And.intro ?_ ?_
           · first | omega | decide | (simp (disch := omega) only [wkW, Int.reduceToNat, Int.reducePow] <;> omega) | (simp <;> omega)) | (simp (disch := omega) only [wkW, Int.reduceToNat, Int.reducePow])
theorem lost_iff {u t m : Nat} (hd : u = 2 ^ t * (2 * m + 1)) (n : Nat) : t < n ↔ u % 2 ^ n ≠ 0 := by
  constructor
  · intro h h0
    obtain ⟨c, rfl⟩ : ∃ c, n = t + (c + 1) := ⟨n - t - 1, by omega⟩
    rw [hd, Nat.pow_add, Nat.mul_mod_mul_left] at h0
    have h1 : (2 * m + 1) % 2 ^ (c + 1) = 0 := by
      rcases Nat.mul_eq_zero.1 h0 with h | h
      · exact absurd h (Nat.ne_of_gt (Nat.pow_pos (by decide)))
      · exact h
    rw [Nat.pow_succ'] at h1
    have := Nat.mod_mul (x := 2 * m + 1) (a := 2) (b := 2 ^ c)
    omega
  · intro h
    refine Nat.lt_of_not_le fun hle => h ?_
    obtain ⟨c, rfl⟩ := Nat.le.dest hle
    rw [hd, Nat.pow_add, Nat.mul_assoc]
    exact Nat.mul_mod_right _ _
theorem shr_limb (u q p j : Nat) (hp : p < 64) : u / 2 ^ (64 * q + p) / 18446744073709551616 ^ j % 18446744073709551616 =
    (u / 18446744073709551616 ^ (q + j) % 18446744073709551616) / 2 ^ p + (u / 18446744073709551616 ^ (q + j + 1) % 18446744073709551616) * 2 ^ (64 - p) % 18446744073709551616 := by
  rw [Nat.div_div_eq_div_mul, Nat.pow_add 2 (64 * q), ← pow64_two, Nat.mul_right_comm, ← Nat.pow_add, ← Nat.div_div_eq_div_mul, Nat.pow_succ, ← Nat.div_div_eq_div_mul]
  generalize u / 18446744073709551616 ^ (q + j) = w
  have e : (18446744073709551616 : Nat) = 2 ^ p * 2 ^ (64 - p) := by rw [← Nat.pow_add, show p + (64 - p) = 64 by omega]
  have hP : 0 < 2 ^ p := Nat.pow_pos (by decide)
  have hQ : 0 < 2 ^ (64 - p) := Nat.pow_pos (by decide)
  -- w = lo + B hi
  have h1 := Nat.div_add_mod w 18446744073709551616
  generalize w / 18446744073709551616 = h at *
  generalize hlo : w % 18446744073709551616 = lo at *
  have hlo2 : lo < 18446744073709551616 := by rw [← hlo]; exact Nat.mod_lt _ (by decide)
  have e1 : w / 2 ^ p = lo / 2 ^ p + h * 2 ^ (64 - p) := by
    rw [← h1]
    have : 18446744073709551616 * h + lo = lo + 2 ^ p * (h * 2 ^ (64 - p)) := by
      have e' : 18446744073709551616 * h = 2 ^ p * 2 ^ (64 - p) * h := by rw [← e]
      rw [e']; grind
    rw [this, Nat.add_mul_div_left _ _ hP]
  rw [e1]
  have h3 : lo / 2 ^ p < 2 ^ (64 - p) := by
    rw [Nat.div_lt_iff_lt_mul hP, Nat.mul_comm, ← e]; exact hlo2
  -- h * 2^(64-p) mod B is a multiple of 2^(64-p)
  have h4 : h * 2 ^ (64 - p) % 18446744073709551616 = h % 2 ^ p * 2 ^ (64 - p) := by
    rw [e, Nat.mul_mod_mul_right]
  have h5 : h % 18446744073709551616 * 2 ^ (64 - p) % 18446744073709551616 = h % 2 ^ p * 2 ^ (64 - p) := by
    rw [Nat.mod_mul_mod, h4]
  rw [h5, Nat.add_mod, h4]
  have h6 : lo / 2 ^ p + h % 2 ^ p * 2 ^ (64 - p) < 18446744073709551616 := by
    have h7 : h % 2 ^ p + 1 ≤ 2 ^ p := Nat.mod_lt _ hP
    have h8 := Nat.mul_le_mul_right (2 ^ (64 - p)) h7
    rw [← e, Nat.add_mul] at h8
    omega
  rw [Nat.mod_eq_of_lt (show lo / 2 ^ p < 18446744073709551616 from Nat.lt_of_le_of_lt (Nat.div_le_self _ _) hlo2), Nat.mod_eq_of_lt h6]
theorem or_nat {x y k : Nat} (hx : x < 2 ^ k) (hy : y % 2 ^ k = 0) (hy2 : y < 18446744073709551616) (hx2 : x < 18446744073709551616) : ibits .or .u64 (x : Int) (y : Int) = ((x + y : Nat) : Int) := by
  have h2 : ((2 : Int) ^ k) = ((2 ^ k : Nat) : Int) := by simp
  rw [or_apart k ⟨Int.natCast_nonneg _, by rw [h2]; exact Int.ofNat_lt.2 hx⟩ ⟨Int.natCast_nonneg _, by omega⟩ (by rw [h2, ← Int.natCast_emod, hy]; rfl) (by omega)]
  omega
abbrev srF (a : List Int) (q p N i : Nat) (b : Bool) : PV.Frame := [(50, .int .i64 (i : Int)), (49, .int .i64 (N : Int)), (10, .sl 0 0 N true), (9, .int .u64 (p : Int)), (8, .int .i64 (q : Int)), (7, .bool b), (0, .ints .u64 a)]
theorem shr_list (a0 a : List Int) (lim : Nat → Nat) (L n q p N : Nat) (hL : a.length = L) (hL2 : L ≤ 4096) (s1 : Meets Tryz.prog 90 [.ints .u64 a0] (.int .i64 (L : Int))) (b1 : Meets Tryz.prog 97 [.ints .u64 a0] (.bool false)) (htk : a0.take L = a) (h0 : 0 < L) (hg : ∀ k, a.getD k 0 = (lim k : Int)) (hlim : ∀ k, lim k < 18446744073709551616) (htop : ∀ k, L ≤ k → lim k = 0) (hn : n ≤ 9223372036854775807) (hq : n / 64 = q) (hp : n % 64 = p) (hqL : q < L) (hN : N = L - q)
    (out : List Int) (hol : out.length = N) (ho : ∀ j, j < N → out.getD j 0 = ((lim (q + j) / 2 ^ p + lim (q + j + 1) * 2 ^ (64 - p) % 18446744073709551616 : Nat) : Int)) (t : Int) (b : Bool) (hb : decide (t < (n : Int)) = b) (htr : Meets Tryz.prog 159 [.ints .u64 a0] (.int .i64 t)) (res : List Int) (hcut : Meets Tryz.prog 99 [.ints .u64 out] (.tup [.ints .u64 res, .int .i64 0])) :
    Meets Tryz.prog 132 [.ints .u64 a0, .int .i64 (n : Int)] (.tup [.ints .u64 res, .bool b, .int .i64 0]) := by
  have hp64 : p < 64 := by omega
  have e1 : ((n : Int)).tdiv 64 = (q : Int) := by rw [Int.tdiv_eq_ediv_of_nonneg (by omega)]; omega
  have e2 : ((n : Int)).tmod 64 = (p : Int) := by rw [Int.tmod_eq_emod_of_nonneg (by omega)]; omega
  have w1 : IntKind.wrap .i64 (q : Int) = (q : Int) := wrap_i64 (by omega)
  have w2 : IntKind.wrap .u64 (p : Int) = (p : Int) := wrap_u64 (by omega)
  have w3 : IntKind.wrap .i64 ((L : Int) - (q : Int)) = (N : Int) := by rw [wrap_i64 (by omega)]; omega
  have w4 : IntKind.wrap .i64 (64 * (L : Int)) = 64 * (L : Int) := wrap_i64 (by omega)
  have w5 : IntKind.wrap .u64 (64 - (p : Int)) = ((64 - p : Nat) : Int) := by rw [wrap_u64 (by omega)]; omega
  have hnl : (n : Int) < 64 * (L : Int) := by omega
  have hpos : decide ((0 : Int) < (L : Int)) = true := decide_eq_true (by omega)
  have hLa : L ≤ a0.length := by have h := congrArg List.length htk; rw [List.length_take, hL] at h; omega
  refine meets_by ttOk Tryz.func132 Tryz.ntmps132 Tryz.results132 (by kernel_rfl) (c := _) rfl rfl rfl fun E => ?_
  simp only [argsFrame]
  repeat' first
    | (simp only [htk, e1, e2, w1, w2, w3, w4, hb, hpos, hL]) | (with_reducible first | refine PW.seq ?_ | refine PW.block ?_ | refine PW.fork ?_ | refine PW.skip ?_ | refine PW.exit ?_ | refine PW.ret ?_) | ((with_reducible refine PW.region ttOk ?_ ?_); rfl) | ((with_reducible refine PW.regionD ttOk mixed ?_ ?_ ?_); rfl; rfl) | (with_reducible refine ifW_dec (fun g => ?_) (fun g => ?_) <;> first | (exfalso; omega) | (simp -dsimp only [g, wkI])) | ((with_reducible first | refine condE_dec (fun g => ?_) (fun g => ?_) | refine condE_not (fun g => ?_) (fun g => ?_)) <;> try (exfalso; omega)) | (simp -dsimp only [↓wkA, ↓wkE, ↓wkJ, wkB, ↓tt, Nat.reduceBEq, Nat.reduceEqDiff, ↓reduceIte, Nat.reduceLT, Array.toList, Nat.reduceAdd, Nat.reduceMul, Int.reduceToNat, Int.reducePow, UInt8.reduceToNat]) | (refine call_by (b1) (views_data rfl) ⟨trivial, trivial⟩ rfl ?_) | (refine call_by (s1) (views_data rfl) ⟨trivial, trivial⟩ rfl ?_) | (refine call_by (htr) (views_data rfl) ⟨trivial, trivial⟩ rfl ?_) | (simp -dsimp (disch := first | assumption | omega) only [dec_t, dec_f])
    | (refine And.intro ?_ ?_
       · first | omega | decide | (simp (disch := omega) only [wkW, Int.reduceToNat, Int.reducePow] <;> omega) | (simp <;> omega)) | (simp (disch := omega) only [wkW, Int.reduceToNat, Int.reducePow])
  refine PW.loopA (fun m F H => ∃ i o, i + m = N ∧ o.length = N ∧ (∀ j, j < i → o.getD j 0 = out.getD j 0) ∧ F = srF a q p N i b ∧ H = ⟨1, [(0, .ints .u64 o)], [], []⟩) N (srF a q p N 0 b) ⟨1, [(0, .ints .u64 (List.replicate N 0))], [], []⟩ (Sub.norm ⟨rfl, rfl, rfl, rfl, rfl, rfl, rfl, trivial⟩ ⟨rfl, trivial⟩ (by simp) rfl rfl rfl rfl) ⟨0, _, by omega, by simp, fun j hj => absurd hj (by omega), rfl, rfl⟩ ?_
  rintro m F H ⟨i, o, hi, hoL, hoj, rfl, rfl⟩
  cases m with
  | zero =>
    obtain rfl : i = N := by omega
    obtain rfl : o = out := list_ext (by omega) fun j hj => hoj j (by omega)
    repeat' first
      | (with_reducible first | refine PW.seq ?_ | refine PW.block ?_ | refine PW.fork ?_ | refine PW.skip ?_ | refine PW.exit ?_ | refine PW.ret ?_) | ((with_reducible refine PW.region ttOk ?_ ?_); rfl) | ((with_reducible refine PW.regionD ttOk mixed ?_ ?_ ?_); rfl; rfl) | (with_reducible refine ifW_dec (fun g => ?_) (fun g => ?_) <;> first | (exfalso; omega) | (simp -dsimp only [g, wkI])) | ((with_reducible first | refine condE_dec (fun g => ?_) (fun g => ?_) | refine condE_not (fun g => ?_) (fun g => ?_)) <;> try (exfalso; omega)) | (simp -dsimp only [↓wkA, ↓wkE, ↓wkJ, wkB, ↓tt, Nat.reduceBEq, Nat.reduceEqDiff, ↓reduceIte, Nat.reduceLT, Array.toList, Nat.reduceAdd, Nat.reduceMul, Int.reduceToNat, Int.reducePow, UInt8.reduceToNat]) | (refine call_drop (args' := [.ints .u64 o]) (by simp -dsimp only [↓wkA, ↓wkE, ↓wkJ, wkB, ↓tt, Nat.reduceBEq, Nat.reduceEqDiff, ↓reduceIte, Nat.reduceLT, Array.toList, Nat.reduceAdd, Nat.reduceMul, Int.reduceToNat, Int.reducePow, UInt8.reduceToNat] <;> rw [List.take_of_length_le (by omega)]) hcut (by simp -dsimp only [okViews, ↓wkA, ↓wkE, ↓wkJ, wkB, ↓tt, Nat.reduceBEq, Nat.reduceEqDiff, ↓reduceIte, Nat.reduceLT, Array.toList, Nat.reduceAdd, Nat.reduceMul, Int.reduceToNat, Int.reducePow, UInt8.reduceToNat] <;> omega) rfl ?_) | (simp -dsimp (disch := first | assumption | omega) only [dec_t, dec_f])
      | (refine And.intro ?_ ?_
         · first | omega | decide | (simp (disch := omega) only [wkW, Int.reduceToNat, Int.reducePow] <;> omega) | (simp <;> omega)) | (simp (disch := omega) only [wkW, Int.reduceToNat, Int.reducePow])
  | succ m =>
    have hlo := hlim (q + i)
    have hhi := hlim (q + i + 1)
    have g1 := hg (q + i)
    have g2 := hg (q + i + 1)
    have hoi := ho i (by omega)
    have hP : 0 < 2 ^ p := Nat.pow_pos (by decide)
    have hQ : 0 < 2 ^ (64 - p) := Nat.pow_pos (by decide)
    have hPQ : (18446744073709551616 : Nat) = 2 ^ p * 2 ^ (64 - p) := by rw [← Nat.pow_add, show p + (64 - p) = 64 by omega]
    have w6 : IntKind.wrap .i64 ((q : Int) + (i : Int)) = ((q + i : Nat) : Int) := by rw [wrap_i64 (by omega)]; omega
    have w7 : IntKind.wrap .i64 (((q + i : Nat) : Int) + 1) = ((q + i + 1 : Nat) : Int) := by rw [wrap_i64 (by omega)]; omega
    have htopi := htop (q + i + 1)
    generalize lim (q + i) = lo at *
    generalize lim (q + i + 1) = hi' at *
    have e3 : ((lo : Int)).fdiv (2 ^ min p 64) = ((lo / 2 ^ p : Nat) : Int) := by
      rw [Nat.min_eq_left (by omega), Int.fdiv_eq_ediv_of_nonneg _ (by exact_mod_cast Nat.zero_le _)]
      simp
    have e4 : IntKind.wrap .u64 ((hi' : Int) * 2 ^ min (64 - p) 64) = ((hi' * 2 ^ (64 - p) % 18446744073709551616 : Nat) : Int) := by
      rw [wrap_u64', Nat.min_eq_left (by omega)]
      simp
    have hx1 : lo / 2 ^ p < 2 ^ (64 - p) := by
      rw [Nat.div_lt_iff_lt_mul hP, Nat.mul_comm, ← hPQ]; exact hlo
    have hx2 : hi' * 2 ^ (64 - p) % 18446744073709551616 % 2 ^ (64 - p) = 0 := by
      rw [hPQ, Nat.mul_mod_mul_right]
      exact Nat.mul_mod_left _ _
    have hy := Nat.mod_lt (hi' * 2 ^ (64 - p)) (show 18446744073709551616 > 0 by decide)
    have hlo1 : lo / 2 ^ p < 18446744073709551616 := Nat.lt_of_le_of_lt (Nat.div_le_self _ _) hlo
    have hor := or_nat hx1 hx2 hy hlo1
    have hzero : p = 0 → hi' * 2 ^ (64 - p) % 18446744073709551616 = 0 := fun h => by
      subst h
      exact Nat.mul_mod_left _ _
    have hzero2 : L ≤ q + i + 1 → hi' * 2 ^ (64 - p) % 18446744073709551616 = 0 := fun h => by
      rw [htopi h, Nat.zero_mul]
    clear hx1 hx2 hPQ hP hQ htopi
    generalize hi' * 2 ^ (64 - p) % 18446744073709551616 = y at *
    generalize lo / 2 ^ p = x at *
    have hnext : ∀ z : Int, z = ((x + y : Nat) : Int) → ∀ j, j < i + 1 → (o.set i z).getD j 0 = out.getD j 0 := fun z hz j hj => by
      rw [getD_set _ _ _ _ (by omega)]
      by_cases e : j = i
      · rw [if_pos e, e, hoi, hz]
      · rw [if_neg e]; exact hoj j (by omega)
    repeat' first
      | (simp only [e3, e4, w5, w6, w7, g1, g2, hor, hL, Int.toNat_natCast]) | (with_reducible first | refine PW.seq ?_ | refine PW.block ?_ | refine PW.fork ?_ | refine PW.skip ?_ | refine PW.exit ?_ | refine PW.ret ?_) | ((with_reducible refine PW.region ttOk ?_ ?_); rfl) | ((with_reducible refine PW.regionD ttOk mixed ?_ ?_ ?_); rfl; rfl) | (with_reducible refine ifW_dec (fun g => ?_) (fun g => ?_) <;> first | (exfalso; omega) | (simp -dsimp only [g, wkI])) | ((with_reducible first | refine condE_dec (fun g => ?_) (fun g => ?_) | refine condE_not (fun g => ?_) (fun g => ?_)) <;> try (exfalso; omega)) | (simp -dsimp only [↓wkA, ↓wkE, ↓wkJ, wkB, ↓tt, Nat.reduceBEq, Nat.reduceEqDiff, ↓reduceIte, Nat.reduceLT, Array.toList, Nat.reduceAdd, Nat.reduceMul, Int.reduceToNat, Int.reducePow, UInt8.reduceToNat]) | (simp -dsimp (disch := first | assumption | omega) only [dec_t, dec_f])
      | (refine And.intro ?_ ?_
         · first | omega | decide | (simp (disch := omega) only [wkW, Int.reduceToNat, Int.reducePow] <;> omega) | (simp <;> omega)) | (simp (disch := omega) only [wkW, Int.reduceToNat, Int.reducePow])
    all_goals exact Again.mk m (srF a q p N (i + 1) b) ⟨1, [(0, .ints .u64 _)], [], []⟩ (by omega) (Sub.norm ⟨rfl, rfl, rfl, rfl, rfl, rfl, rfl, trivial⟩ ⟨rfl, trivial⟩ (Nat.le_refl _) rfl rfl rfl rfl) ⟨i + 1, _, by omega, by simp [hoL], hnext _ (by omega), rfl, rfl⟩
theorem nat_shr_l {l : List Int} {u n : Nat} (hl : Limbs l) (hll : l.length ≤ 4096) (hu : val l = u) (hn : n ≤ 9223372036854775807) : Meets Tryz.prog 132 [.ints .u64 l, .int .i64 (n : Int)] (.tup [.ints .u64 (natL (u / 2 ^ n)), .bool (decide (u % 2 ^ n ≠ 0)), .int .i64 0]) := by
  have htk : l.take (size l) = natL u := by
    have := trim_eq hl
    rw [hu, Int.toNat_natCast] at this
    exact this
  have hsz : size l = (natL u).length := by rw [← htk]; exact (trim_len l).symm
  have s1 := nat_size l (by omega)
  have b1 := nat_big l (by omega)
  have hsl := size_le l
  rw [decide_eq_false (by omega)] at b1
  have hvl : u < 18446744073709551616 ^ l.length := by
    have h1 := (vt_bound hl l.length).2
    have h2 : vt l l.length = u := hu
    rw [h2] at h1
    have e : B64 ^ l.length = ((18446744073709551616 ^ l.length : Nat) : Int) := by rw [Int.natCast_pow]; rfl
    rw [e] at h1
    omega
  have huM : u < NMax := Nat.lt_of_lt_of_le hvl (pow64_mono hll)
  rw [hsz] at s1 htk
  by_cases h0 : u = 0
  · subst h0
    rw [natL_zero] at s1 htk
    rw [Nat.zero_div, Nat.zero_mod, natL_zero]
    refine Meets.nil_head .u64 ?_
    simp only [List.length_nil] at htk s1
    refine meets_by ttOk Tryz.func132 Tryz.ntmps132 Tryz.results132 (by kernel_rfl) (c := _) rfl rfl rfl fun E => ?_
    simp only [argsFrame]
    have w0 : IntKind.wrap .i64 (64 * 0) = 0 := rfl
    have hd0 : decide ((0 : Nat) ≠ 0) = false := rfl
    rw [hd0]
    repeat' first
      | (simp only [w0]) | (with_reducible first | refine PW.seq ?_ | refine PW.block ?_ | refine PW.fork ?_ | refine PW.skip ?_ | refine PW.exit ?_ | refine PW.ret ?_) | ((with_reducible refine PW.region ttOk ?_ ?_); rfl) | ((with_reducible refine PW.regionD ttOk mixed ?_ ?_ ?_); rfl; rfl) | (with_reducible refine ifW_dec (fun g => ?_) (fun g => ?_) <;> first | (exfalso; omega) | (simp -dsimp only [g, wkI])) | ((with_reducible first | refine condE_dec (fun g => ?_) (fun g => ?_) | refine condE_not (fun g => ?_) (fun g => ?_)) <;> try (exfalso; omega)) | (simp -dsimp only [↓wkA, ↓wkE, ↓wkJ, wkB, ↓tt, Nat.reduceBEq, Nat.reduceEqDiff, ↓reduceIte, Nat.reduceLT, Array.toList, Nat.reduceAdd, Nat.reduceMul, Int.reduceToNat, Int.reducePow, UInt8.reduceToNat]) | (refine call_by (b1) (views_data rfl) ⟨trivial, trivial⟩ rfl ?_) | (refine call_by (s1) (views_data rfl) ⟨trivial, trivial⟩ rfl ?_) | (simp -dsimp (disch := first | assumption | omega) only [dec_t, dec_f])
      | (refine And.intro ?_ ?_
         · first | omega | decide | (simp (disch := omega) only [wkW, Int.reduceToNat, Int.reducePow] <;> omega) | (simp <;> omega)) | (simp (disch := omega) only [wkW, Int.reduceToNat, Int.reducePow])
  obtain ⟨t, m, hd⟩ := odd_part h0
  have hgl : ∀ k, l.getD k 0 = ((u / 18446744073709551616 ^ k % 18446744073709551616 : Nat) : Int) := fun k => by
    rw [← natL_getD u k, ← htk]
    by_cases hk : k < (natL u).length
    · rw [getD_take' hk]
    · rw [List.getD_eq_getElem?_getD (l := l.take _), List.getElem?_take, if_neg hk]
      have hz := vt_inj hl (natL_limbs u) l.length (by
        rw [vt_beyond (b := natL u) _ (by omega), val_natL]
        exact hu) k
      by_cases hk2 : k < l.length
      · rw [hz hk2, List.getD_eq_getElem?_getD, List.getElem?_eq_none (by omega)]
      · rw [List.getD_eq_getElem?_getD, List.getElem?_eq_none (by omega)]
  have htr := nat_trail_l (l := l) (by omega) hgl hvl hd
  have hlost : decide ((t : Int) < (n : Int)) = decide (u % 2 ^ n ≠ 0) := decide_eq_decide.2 (by rw [← lost_iff hd n]; omega)
  obtain ⟨h1, _⟩ := natL_ge h0
  have hlt := natL_lt u
  have hul := natL_small huM
  by_cases hbig : 64 * (natL u).length ≤ n
  · have hz : u / 2 ^ n = 0 := Nat.div_eq_of_lt (Nat.lt_of_lt_of_le hlt (by rw [pow64_two]; exact Nat.pow_le_pow_right (by decide) hbig))
    rw [hz, natL_zero]
    have w4 : IntKind.wrap .i64 (64 * ((natL u).length : Int)) = 64 * ((natL u).length : Int) := wrap_i64 (by omega)
    have hpos : decide ((0 : Int) < ((natL u).length : Int)) = true := decide_eq_true (by omega)
    have hLa : (natL u).length ≤ l.length := by omega
    clear hlt hd hz hgl hvl huM hu
    obtain ⟨Qd, hQd⟩ : ∃ b, decide (u % 2 ^ n ≠ 0) = b := ⟨_, rfl⟩
    rw [hQd] at hlost ⊢
    generalize natL u = a at *
    refine Meets.nil_head .u64 ?_
    refine meets_by ttOk Tryz.func132 Tryz.ntmps132 Tryz.results132 (by kernel_rfl) (c := _) rfl rfl rfl fun E => ?_
    simp only [argsFrame]
    repeat' first
      | (simp only [w4, hlost, htk, hpos, Int.toNat_natCast]) | (with_reducible first | refine PW.seq ?_ | refine PW.block ?_ | refine PW.fork ?_ | refine PW.skip ?_ | refine PW.exit ?_ | refine PW.ret ?_) | ((with_reducible refine PW.region ttOk ?_ ?_); rfl) | ((with_reducible refine PW.regionD ttOk mixed ?_ ?_ ?_); rfl; rfl) | (with_reducible refine ifW_dec (fun g => ?_) (fun g => ?_) <;> first | (exfalso; omega) | (simp -dsimp only [g, wkI])) | ((with_reducible first | refine condE_dec (fun g => ?_) (fun g => ?_) | refine condE_not (fun g => ?_) (fun g => ?_)) <;> try (exfalso; omega)) | (simp -dsimp only [↓wkA, ↓wkE, ↓wkJ, wkB, ↓tt, Nat.reduceBEq, Nat.reduceEqDiff, ↓reduceIte, Nat.reduceLT, Array.toList, Nat.reduceAdd, Nat.reduceMul, Int.reduceToNat, Int.reducePow, UInt8.reduceToNat]) | (refine call_by (b1) (views_data rfl) ⟨trivial, trivial⟩ rfl ?_) | (refine call_by (s1) (views_data rfl) ⟨trivial, trivial⟩ rfl ?_) | (refine call_by (htr) (views_data rfl) ⟨trivial, trivial⟩ rfl ?_) | (simp -dsimp (disch := first | assumption | omega) only [dec_t, dec_f])
      | (refine And.intro ?_ ?_
         · first | omega | decide | (simp (disch := omega) only [wkW, Int.reduceToNat, Int.reducePow] <;> omega) | (simp <;> omega)) | (simp (disch := omega) only [wkW, Int.reduceToNat, Int.reducePow])
  · have hv : u / 2 ^ n < 18446744073709551616 ^ ((natL u).length - n / 64) := by
      rw [Nat.div_lt_iff_lt_mul (Nat.pow_pos (by decide)), pow64_two, ← Nat.pow_add]
      rw [pow64_two] at hlt
      exact Nat.lt_of_lt_of_le hlt (Nat.pow_le_pow_right (by decide) (by omega))
    have hvN : u / 2 ^ n < NMax := Nat.lt_of_le_of_lt (Nat.div_le_self _ _) huM
    refine shr_list l (natL u) (fun k => u / 18446744073709551616 ^ k % 18446744073709551616) _ n _ _ _ rfl hul s1 b1 htk h1 (natL_getD u) (fun k => Nat.mod_lt _ (by decide)) (fun k hk => ?_) hn rfl rfl (by omega) rfl (limbsOf ((natL u).length - n / 64) (u / 2 ^ n)) (limbsOf_length _ _) (fun j hj => ?_) t _ hlost htr _ (cut_as (limbsOf_limbs _ _) (by rw [limbsOf_length]; omega) (limbsOf_val hv) hvN)
    · show u / 18446744073709551616 ^ k % 18446744073709551616 = 0
      rw [Nat.div_eq_of_lt (Nat.lt_of_lt_of_le hlt (Nat.pow_le_pow_right (by decide) hk))]
    · rw [limbsOf_getD hj]
      have := shr_limb u (n / 64) (n % 64) j (Nat.mod_lt _ (by decide))
      rw [show 64 * (n / 64) + n % 64 = n by omega] at this
      rw [this]
def rhe (N U : Nat) : Nat := if 2 * (N % U) < U ∨ (2 * (N % U) = U ∧ N / U % 2 = 0) then N / U else N / U + 1
abbrev infB : Nat := 9218868437227405312
def rndU (N D : Nat) : Nat := min (rhe N (D * 2 ^ (bitlen (N / D) - 53)) + (bitlen (N / D) - 53) * 4503599627370496) infB
def upB (more : Bool) (n mv : Nat) : Prop := n / 2 ^ (mv - 1) % 2 = 1 ∧ (more = true ∨ n / 2 ^ mv % 2 = 1 ∨ n % 2 ^ (mv - 1) ≠ 0)
instance (more : Bool) (n mv : Nat) : Decidable (upB more n mv) := inferInstanceAs (Decidable (_ ∧ _))
theorem limbs_zeros (n : Nat) : Limbs (List.replicate n 0) := fun x hx => by rw [List.eq_of_mem_replicate hx]; decide
structure AddS (a b o : List Int) (i : Nat) (c : Int) : Prop where
  len : o.length = a.length + 1
  lim : Limbs o
  car : 0 ≤ c ∧ c ≤ 1
  eq : vt o i + B64 ^ i * c = vt a i + vt b i
theorem AddS.step {a b o : List Int} {i : Nat} {c s : Int} (h : AddS a b o i c) (ha : Limbs a) (hb : Limbs b) (hi : i < a.length) (hs : s = a.getD i 0 + b.getD i 0 + c) : AddS a b (o.set i (s % 18446744073709551616)) (i + 1) (s / 18446744073709551616) := by
  have hlt : i < o.length := by rw [h.len]; omega
  have hx := getD_limb ha i
  have hy := getD_limb hb i
  have hc := h.car
  simp only [B64] at hx hy
  refine ⟨by rw [List.length_set, h.len], limbs_set h.lim _ ⟨Int.emod_nonneg _ (by decide), Int.emod_lt_of_pos _ (by decide)⟩, by omega, ?_⟩
  simp only [vt]
  rw [vt_set_ge _ _ _ _ hlt (Nat.le_refl _), getD_set _ _ _ _ hlt, if_pos rfl, Int.pow_succ]
  have hsum : 18446744073709551616 * (s / 18446744073709551616) + s % 18446744073709551616 = s := Int.mul_ediv_add_emod s 18446744073709551616
  have he := h.eq
  rw [hs] at hsum ⊢
  simp only [B64] at he ⊢
  generalize (18446744073709551616 : Int) ^ i = p at *
  generalize (a.getD i 0 + b.getD i 0 + c) / 18446744073709551616 = q at *
  generalize (a.getD i 0 + b.getD i 0 + c) % 18446744073709551616 = r at *
  grind
theorem AddS.fin {a b o : List Int} {c : Int} (h : AddS a b o a.length c) (hlen : b.length ≤ a.length) : val (o.set a.length c) = val a + val b ∧ Limbs (o.set a.length c) := by
  have hc := h.car
  have hlt : a.length < o.length := by rw [h.len]; omega
  refine ⟨?_, limbs_set h.lim _ ⟨hc.1, by simp only [B64]; omega⟩⟩
  unfold val
  rw [List.length_set, h.len]
  simp only [vt]
  rw [vt_set_ge _ _ _ _ hlt (Nat.le_refl _), getD_set _ _ _ _ hlt, if_pos rfl, h.eq, vt_beyond _ hlen]
  rfl
abbrev adF (x y : List Int) (i : Nat) (c : Int) : PV.Frame := [(38, .int .i64 (i : Int)), (37, .int .i64 x.length), (36, .ints .u64 x), (7, .int .u64 c), (6, .sl 0 0 (x.length + 1) true), (1, .ints .u64 y), (0, .ints .u64 x)]
theorem add_list (a b x y : List Int) (hxy : (a.length < b.length ∧ b = x ∧ a = y) ∨ (¬ a.length < b.length ∧ a = x ∧ b = y)) (ha : Limbs a) (hb : Limbs b) (hla : a.length ≤ 4096) (hlb : b.length ≤ 4096) (hsa : size a = a.length) (hsb : size b = b.length) (v : Nat) (hv : val a + val b = v) (hm : v < NMax) :
    Meets Tryz.prog 57 [.ints .u64 a, .ints .u64 b] (.tup [.ints .u64 (natL v), .int .i64 0]) := by
  have s1 := size_as hla hsa
  have s2 := size_as hlb hsb
  have b1 := big_as hla hsa
  have b2 := big_as hlb hsb
  have hcut : ∀ o, Limbs o → o.length ≤ 100000 → val o = v → Meets Tryz.prog 99 [.ints .u64 o] (.tup [.ints .u64 (natL v), .int .i64 0]) := fun o h1 h2 h3 => cut_as h1 h2 h3 hm
  have hlen : y.length ≤ x.length ∧ x.length ≤ 4096 := by rcases hxy with ⟨h1, rfl, rfl⟩ | ⟨h1, rfl, rfl⟩ <;> omega
  have hlim : Limbs x ∧ Limbs y := by rcases hxy with ⟨h1, rfl, rfl⟩ | ⟨h1, rfl, rfl⟩ <;> exact ⟨by assumption, by assumption⟩
  have hval : val x + val y = v := by rcases hxy with ⟨h1, rfl, rfl⟩ | ⟨h1, rfl, rfl⟩ <;> omega
  have w1 : IntKind.wrap .i64 ((x.length : Int) + 1) = ((x.length + 1 : Nat) : Int) := wrap_i64 (by omega)
  generalize natL v = res at *
  clear hm hsa hsb
  refine meets_by ttOk Tryz.func57 Tryz.ntmps57 Tryz.results57 (by kernel_rfl) (c := _) rfl rfl rfl fun E => ?_
  simp only [argsFrame]
  rcases hxy with ⟨h1, rfl, rfl⟩ | ⟨h1, rfl, rfl⟩
  all_goals
    repeat' first
      | (simp only [w1, Int.toNat_natCast]) | (with_reducible first | refine PW.seq ?_ | refine PW.block ?_ | refine PW.fork ?_ | refine PW.skip ?_ | refine PW.exit ?_ | refine PW.ret ?_) | ((with_reducible refine PW.region ttOk ?_ ?_); rfl) | ((with_reducible refine PW.regionD ttOk mixed ?_ ?_ ?_); rfl; rfl) | (with_reducible refine ifW_dec (fun g => ?_) (fun g => ?_) <;> first | (exfalso; omega) | (simp -dsimp only [g, wkI])) | ((with_reducible first | refine condE_dec (fun g => ?_) (fun g => ?_) | refine condE_not (fun g => ?_) (fun g => ?_)) <;> try (exfalso; omega)) | (simp -dsimp only [↓wkA, ↓wkE, ↓wkJ, wkB, ↓tt, Nat.reduceBEq, Nat.reduceEqDiff, ↓reduceIte, Nat.reduceLT, Array.toList, Nat.reduceAdd, Nat.reduceMul, Int.reduceToNat, Int.reducePow, UInt8.reduceToNat]) | (refine call_by (b1) (views_data rfl) ⟨trivial, trivial⟩ rfl ?_) | (refine call_by (b2) (views_data rfl) ⟨trivial, trivial⟩ rfl ?_) | (refine callD_by (s1) (views_data rfl) ⟨trivial, trivial⟩ rfl ?_) | (refine callD_by (s2) (views_data rfl) ⟨trivial, trivial⟩ rfl ?_) | (simp -dsimp (disch := first | assumption | omega) only [dec_t, dec_f])
      | (refine And.intro ?_ ?_
         · first | omega | decide | (simp (disch := omega) only [wkW, Int.reduceToNat, Int.reducePow] <;> omega) | (simp <;> omega)) | (simp (disch := omega) only [wkW, Int.reduceToNat, Int.reducePow])
  case' inl => have hgo := And.intro ha hb; clear hv; generalize hbx : b = x at *; generalize hay : a = y at *
  case' inr => have hgo := And.intro hb ha; clear hv; generalize hbx : a = x at *; generalize hay : b = y at *
  all_goals
    refine PW.loopA (fun m F H => ∃ i o c, i + m = x.length ∧ AddS x y o i c ∧ F = adF x y i c ∧ H = ⟨1, [(0, .ints .u64 o)], [], []⟩) x.length (adF x y 0 0) ⟨1, [(0, .ints .u64 (List.replicate (x.length + 1) 0))], [], []⟩ (Sub.norm ⟨rfl, rfl, rfl, rfl, rfl, rfl, rfl, trivial⟩ ⟨rfl, trivial⟩ (by simp) rfl rfl rfl rfl) ⟨0, _, 0, by omega, ⟨by simp, limbs_zeros _, by decide, by simp [vt]⟩, rfl, rfl⟩ ?_
    rintro m F H ⟨i, o, c, hi, hS, rfl, rfl⟩
    have hol := hS.len
    cases m with
    | zero =>
      obtain rfl : i = x.length := by omega
      obtain ⟨hf, hfl⟩ := hS.fin hlen.1
      have hc := hcut _ hfl (by rw [List.length_set]; omega) (by rw [hf]; exact hval)
      repeat' first
        | (simp only [w1, Int.toNat_natCast]) | (with_reducible first | refine PW.seq ?_ | refine PW.block ?_ | refine PW.fork ?_ | refine PW.skip ?_ | refine PW.exit ?_ | refine PW.ret ?_) | ((with_reducible refine PW.region ttOk ?_ ?_); rfl) | ((with_reducible refine PW.regionD ttOk mixed ?_ ?_ ?_); rfl; rfl) | (with_reducible refine ifW_dec (fun g => ?_) (fun g => ?_) <;> first | (exfalso; omega) | (simp -dsimp only [g, wkI])) | ((with_reducible first | refine condE_dec (fun g => ?_) (fun g => ?_) | refine condE_not (fun g => ?_) (fun g => ?_)) <;> try (exfalso; omega)) | (simp -dsimp only [↓wkA, ↓wkE, ↓wkJ, wkB, ↓tt, Nat.reduceBEq, Nat.reduceEqDiff, ↓reduceIte, Nat.reduceLT, Array.toList, Nat.reduceAdd, Nat.reduceMul, Int.reduceToNat, Int.reducePow, UInt8.reduceToNat]) | (refine call_drop (args' := [.ints .u64 (o.set x.length c)]) (by simp -dsimp only [↓wkA, ↓wkE, ↓wkJ, wkB, ↓tt, Nat.reduceBEq, Nat.reduceEqDiff, ↓reduceIte, Nat.reduceLT, Array.toList, Nat.reduceAdd, Nat.reduceMul, Int.reduceToNat, Int.reducePow, UInt8.reduceToNat] <;> rw [List.take_of_length_le (by rw [List.length_set]; omega)]) hc (by simp -dsimp only [okViews, ↓wkA, ↓wkE, ↓wkJ, wkB, ↓tt, Nat.reduceBEq, Nat.reduceEqDiff, ↓reduceIte, Nat.reduceLT, Array.toList, Nat.reduceAdd, Nat.reduceMul, Int.reduceToNat, Int.reducePow, UInt8.reduceToNat] <;> rw [List.length_set] <;> omega) rfl ?_) | (simp -dsimp (disch := first | assumption | omega) only [dec_t, dec_f])
        | (refine And.intro ?_ ?_
           · first | omega | decide | (simp (disch := omega) only [wkW, Int.reduceToNat, Int.reducePow] <;> omega) | (simp <;> omega)) | (simp (disch := omega) only [wkW, Int.reduceToNat, Int.reducePow])
    | succ m =>
      have hx := getD_limb hlim.1 i
      have hy := getD_limb hlim.2 i
      have hc := hS.car
      simp only [B64] at hx hy
      have hstep := hS.step hlim.1 hlim.2 (by omega) rfl
      have h64 := add64 hx.1 hy.1 hc
      by_cases hib : i < y.length
      · skip
        repeat' first
          | (with_reducible first | refine PW.seq ?_ | refine PW.block ?_ | refine PW.fork ?_ | refine PW.skip ?_ | refine PW.exit ?_ | refine PW.ret ?_) | ((with_reducible refine PW.region ttOk ?_ ?_); rfl) | ((with_reducible refine PW.regionD ttOk mixed ?_ ?_ ?_); rfl; rfl) | (with_reducible refine ifW_dec (fun g => ?_) (fun g => ?_) <;> first | (exfalso; omega) | (simp -dsimp only [g, wkI])) | ((with_reducible first | refine condE_dec (fun g => ?_) (fun g => ?_) | refine condE_not (fun g => ?_) (fun g => ?_)) <;> try (exfalso; omega)) | (simp -dsimp only [↓wkA, ↓wkE, ↓wkJ, wkB, ↓tt, Nat.reduceBEq, Nat.reduceEqDiff, ↓reduceIte, Nat.reduceLT, Array.toList, Nat.reduceAdd, Nat.reduceMul, Int.reduceToNat, Int.reducePow, UInt8.reduceToNat]) | (refine call_by (h64) (views_data rfl) ⟨trivial, trivial, trivial, trivial⟩ rfl ?_) | (simp -dsimp (disch := first | assumption | omega) only [dec_t, dec_f])
          | (refine And.intro ?_ ?_
             · first | omega | decide | (simp (disch := omega) only [wkW, Int.reduceToNat, Int.reducePow] <;> omega) | (simp <;> omega)) | (simp (disch := omega) only [wkW, Int.reduceToNat, Int.reducePow])
        exact Again.mk m (adF x y (i + 1) _) ⟨1, [(0, .ints .u64 _)], [], []⟩ (by omega) (Sub.norm ⟨rfl, rfl, rfl, rfl, rfl, rfl, rfl, trivial⟩ ⟨rfl, trivial⟩ (Nat.le_refl _) rfl rfl rfl rfl) ⟨i + 1, _, _, by omega, hstep, rfl, rfl⟩
      · have hy0 : y.getD i 0 = 0 := by rw [List.getD_eq_getElem?_getD, List.getElem?_eq_none (by omega)]; rfl
        rw [hy0] at h64 hstep
        repeat' first
          | (with_reducible first | refine PW.seq ?_ | refine PW.block ?_ | refine PW.fork ?_ | refine PW.skip ?_ | refine PW.exit ?_ | refine PW.ret ?_) | ((with_reducible refine PW.region ttOk ?_ ?_); rfl) | ((with_reducible refine PW.regionD ttOk mixed ?_ ?_ ?_); rfl; rfl) | (with_reducible refine ifW_dec (fun g => ?_) (fun g => ?_) <;> first | (exfalso; omega) | (simp -dsimp only [g, wkI])) | ((with_reducible first | refine condE_dec (fun g => ?_) (fun g => ?_) | refine condE_not (fun g => ?_) (fun g => ?_)) <;> try (exfalso; omega)) | (simp -dsimp only [↓wkA, ↓wkE, ↓wkJ, wkB, ↓tt, Nat.reduceBEq, Nat.reduceEqDiff, ↓reduceIte, Nat.reduceLT, Array.toList, Nat.reduceAdd, Nat.reduceMul, Int.reduceToNat, Int.reducePow, UInt8.reduceToNat]) | (refine call_by (h64) (views_data rfl) ⟨trivial, trivial, trivial, trivial⟩ rfl ?_) | (simp -dsimp (disch := first | assumption | omega) only [dec_t, dec_f])
          | (refine And.intro ?_ ?_
             · first | omega | decide | (simp (disch := omega) only [wkW, Int.reduceToNat, Int.reducePow] <;> omega) | (simp <;> omega)) | (simp (disch := omega) only [wkW, Int.reduceToNat, Int.reducePow])
        exact Again.mk m (adF x y (i + 1) _) ⟨1, [(0, .ints .u64 _)], [], []⟩ (by omega) (Sub.norm ⟨rfl, rfl, rfl, rfl, rfl, rfl, rfl, trivial⟩ ⟨rfl, trivial⟩ (Nat.le_refl _) rfl rfl rfl rfl) ⟨i + 1, _, _, by omega, hstep, rfl, rfl⟩
theorem add_nat {u v : Nat} (hu : u < NMax) (hv : v < NMax) (h : u + v < NMax) : Meets Tryz.prog 57 [.ints .u64 (natL u), .ints .u64 (natL v)] (.tup [.ints .u64 (natL (u + v)), .int .i64 0]) := by
  by_cases hc : (natL u).length < (natL v).length
  · exact add_list _ _ _ _ (.inl ⟨hc, rfl, rfl⟩) (natL_limbs u) (natL_limbs v) (natL_small hu) (natL_small hv) (size_natL u) (size_natL v) _ (by rw [val_natL, val_natL]; omega) h
  · exact add_list _ _ _ _ (.inr ⟨hc, rfl, rfl⟩) (natL_limbs u) (natL_limbs v) (natL_small hu) (natL_small hv) (size_natL u) (size_natL v) _ (by rw [val_natL, val_natL]; omega) h
structure MuaS (a o : List Int) (k c0 : Int) (i : Nat) (c : Int) : Prop where
  len : o.length = a.length + 1
  lim : Limbs o
  car : 0 ≤ c ∧ c < B64
  eq : vt o i + B64 ^ i * c = vt a i * k + c0
theorem MuaS.step {a o : List Int} {k c0 c s : Int} {i : Nat} (h : MuaS a o k c0 i c) (ha : Limbs a) (hk : 0 ≤ k ∧ k < B64) (hi : i < a.length) (hs : s = a.getD i 0 * k + c) : MuaS a (o.set i (s % 18446744073709551616)) k c0 (i + 1) (s / 18446744073709551616) := by
  have hlt : i < o.length := by rw [h.len]; omega
  have hx := getD_limb ha i
  have hc := h.car
  have hb := mul_bound hx hk
  simp only [B64] at hx hc hk
  refine ⟨by rw [List.length_set, h.len], limbs_set h.lim _ ⟨Int.emod_nonneg _ (by decide), Int.emod_lt_of_pos _ (by decide)⟩, by simp only [B64]; omega, ?_⟩
  simp only [vt]
  rw [vt_set_ge _ _ _ _ hlt (Nat.le_refl _), getD_set _ _ _ _ hlt, if_pos rfl, Int.pow_succ]
  have hsum : 18446744073709551616 * (s / 18446744073709551616) + s % 18446744073709551616 = s := Int.mul_ediv_add_emod s 18446744073709551616
  have he := h.eq
  rw [hs] at hsum ⊢
  simp only [B64] at he ⊢
  generalize (18446744073709551616 : Int) ^ i = p at *
  generalize (a.getD i 0 * k + c) / 18446744073709551616 = q at *
  generalize (a.getD i 0 * k + c) % 18446744073709551616 = r at *
  grind
theorem MuaS.fin {a o : List Int} {k c0 c : Int} (h : MuaS a o k c0 a.length c) : val (o.set a.length c) = val a * k + c0 ∧ Limbs (o.set a.length c) := by
  have hc := h.car
  have hlt : a.length < o.length := by rw [h.len]; omega
  refine ⟨?_, limbs_set h.lim _ hc⟩
  unfold val
  rw [List.length_set, h.len]
  simp only [vt]
  rw [vt_set_ge _ _ _ _ hlt (Nat.le_refl _), getD_set _ _ _ _ hlt, if_pos rfl, h.eq]
structure DivS (a o : List Int) (d : Int) (i : Nat) (r : Int) : Prop where
  len : o.length = a.length
  lim : Limbs o
  car : 0 ≤ r ∧ r < d
  zero : ∀ j, j < i → o.getD j 0 = 0
  eq : vt a a.length = vt a i + vt o a.length * d + B64 ^ i * r
theorem DivS.step {a o : List Int} {d r s : Int} {i : Nat} (h : DivS a o d (i + 1) r) (ha : Limbs a) (hd : 0 < d ∧ d < B64) (hi : i < a.length) (hs : s = r * B64 + a.getD i 0) : DivS a (o.set i (s / d)) d i (s % d) := by
  have hlt : i < o.length := by rw [h.len]; exact hi
  have hx := getD_limb ha i
  have hc := h.car
  have hq : 0 ≤ s / d ∧ s / d < B64 := by
    simp only [B64] at *
    refine ⟨Int.ediv_nonneg (by omega) (by omega), ?_⟩
    rw [Int.ediv_lt_iff_lt_mul hd.1]
    have := Int.mul_le_mul_of_nonneg_right (show r + 1 ≤ d by omega) (show (0 : Int) ≤ 18446744073709551616 by decide)
    omega
  refine ⟨by rw [List.length_set, h.len], limbs_set h.lim _ hq, ⟨Int.emod_nonneg _ (by omega), Int.emod_lt_of_pos _ hd.1⟩, fun j hj => ?_, ?_⟩
  · rw [getD_set _ _ _ _ hlt, if_neg (by omega)]; exact h.zero j (by omega)
  · have he := h.eq
    rw [vt_set_add o i (s / d) hlt a.length hi, h.zero i (by omega)]
    have hsum : d * (s / d) + s % d = s := Int.mul_ediv_add_emod s d
    simp only [vt] at he
    rw [Int.pow_succ] at he
    rw [he]
    rw [hs] at hsum ⊢
    generalize B64 ^ i = p at *
    generalize (r * B64 + a.getD i 0) / d = q at *
    generalize (r * B64 + a.getD i 0) % d = t at *
    generalize B64 = bb at *
    grind
abbrev dsF (a : List Int) (d : Int) (i : Nat) (r : Int) : PV.Frame := [(9, .int .i64 ((i : Int) - 1)), (8, .int .u64 r), (7, .sl 0 0 a.length true), (0, .ints .u64 a), (1, .int .u64 d)]
theorem div_small_list (a : List Int) (ha : Limbs a) (hla : a.length ≤ 4096) (hsa : size a = a.length) (d : Int) (hd : 0 < d ∧ d < B64) (q r : Nat) (hq : val a / d = q) (hr : val a % d = r) (hm : q < NMax) :
    Meets Tryz.prog 94 [.ints .u64 a, .int .u64 d] (.tup [.ints .u64 (natL q), .int .u64 (r : Int), .int .i64 0]) := by
  have s1 := size_as hla hsa
  have b1 := big_as hla hsa
  have hcut : ∀ o, Limbs o → o.length ≤ 100000 → val o = q → Meets Tryz.prog 99 [.ints .u64 o] (.tup [.ints .u64 (natL q), .int .i64 0]) := fun o h1 h2 h3 => cut_as h1 h2 h3 hm
  have w1 : IntKind.wrap .i64 ((a.length : Int) - 1) = (a.length : Int) - 1 := wrap_i64 (by omega)
  have htk : a.take a.length = a := List.take_of_length_le (Nat.le_refl _)
  have hd0 : decide (d = 0) = false := decide_eq_false (by omega)
  generalize natL q = res at *
  clear hm hsa
  refine meets_by ttOk Tryz.func94 Tryz.ntmps94 Tryz.results94 (by kernel_rfl) (c := _) rfl rfl rfl fun E => ?_
  simp only [argsFrame]
  repeat' first
    | (simp only [w1, htk, hd0, Int.toNat_natCast]) | (with_reducible first | refine PW.seq ?_ | refine PW.block ?_ | refine PW.fork ?_ | refine PW.skip ?_ | refine PW.exit ?_ | refine PW.ret ?_) | ((with_reducible refine PW.region ttOk ?_ ?_); rfl) | ((with_reducible refine PW.regionD ttOk mixed ?_ ?_ ?_); rfl; rfl) | (with_reducible refine ifW_dec (fun g => ?_) (fun g => ?_) <;> first | (exfalso; omega) | (simp -dsimp only [g, wkI])) | ((with_reducible first | refine condE_dec (fun g => ?_) (fun g => ?_) | refine condE_not (fun g => ?_) (fun g => ?_)) <;> try (exfalso; omega)) | (simp -dsimp only [↓wkA, ↓wkE, ↓wkJ, wkB, ↓tt, Nat.reduceBEq, Nat.reduceEqDiff, ↓reduceIte, Nat.reduceLT, Array.toList, Nat.reduceAdd, Nat.reduceMul, Int.reduceToNat, Int.reducePow, UInt8.reduceToNat]) | (refine call_by (b1) (views_data rfl) ⟨trivial, trivial⟩ rfl ?_) | (refine call_by (s1) (views_data rfl) ⟨trivial, trivial⟩ rfl ?_) | (simp -dsimp (disch := first | assumption | omega) only [dec_t, dec_f])
    | (refine And.intro ?_ ?_
       · first | omega | decide | (simp (disch := omega) only [wkW, Int.reduceToNat, Int.reducePow] <;> omega) | (simp <;> omega)) | (simp (disch := omega) only [wkW, Int.reduceToNat, Int.reducePow])
  refine PW.loopA (fun i F H => ∃ o r, i ≤ a.length ∧ DivS a o d i r ∧ F = dsF a d i r ∧ H = ⟨1, [(0, .ints .u64 o)], [], []⟩) a.length (dsF a d a.length 0) ⟨1, [(0, .ints .u64 (List.replicate a.length 0))], [], []⟩ (Sub.norm ⟨rfl, rfl, rfl, rfl, rfl, trivial⟩ ⟨rfl, trivial⟩ (by simp) rfl rfl rfl rfl) ⟨_, 0, Nat.le_refl _, ⟨by simp, limbs_zeros _, ⟨by omega, hd.1⟩, fun j hj => getD_zeros _ _, by rw [vt_zeros]; simp⟩, rfl, rfl⟩ ?_
  rintro i F H ⟨o, t, hi, hS, rfl, rfl⟩
  have hol := hS.len
  cases i with
  | zero =>
    have he := hS.eq
    have hc := hS.car
    simp only [vt, Int.pow_zero, Int.zero_add, Int.one_mul] at he
    have hvo : val o = vt o a.length := by unfold val; rw [hol]
    have e1 : val o = q := by
      rw [← hq, hvo]
      show _ = vt a a.length / d
      rw [he, Int.add_comm, Int.add_mul_ediv_right _ _ (by omega), Int.ediv_eq_zero_of_lt hc.1 hc.2, Int.zero_add]
    have e2 : t = r := by
      rw [← hr]
      show _ = vt a a.length % d
      rw [he, Int.add_comm, Int.add_mul_emod_self_right, Int.emod_eq_of_lt hc.1 hc.2]
    have hct := hcut o hS.lim (by omega) e1
    subst e2
    repeat' first
      | (with_reducible first | refine PW.seq ?_ | refine PW.block ?_ | refine PW.fork ?_ | refine PW.skip ?_ | refine PW.exit ?_ | refine PW.ret ?_) | ((with_reducible refine PW.region ttOk ?_ ?_); rfl) | ((with_reducible refine PW.regionD ttOk mixed ?_ ?_ ?_); rfl; rfl) | (with_reducible refine ifW_dec (fun g => ?_) (fun g => ?_) <;> first | (exfalso; omega) | (simp -dsimp only [g, wkI])) | ((with_reducible first | refine condE_dec (fun g => ?_) (fun g => ?_) | refine condE_not (fun g => ?_) (fun g => ?_)) <;> try (exfalso; omega)) | (simp -dsimp only [↓wkA, ↓wkE, ↓wkJ, wkB, ↓tt, Nat.reduceBEq, Nat.reduceEqDiff, ↓reduceIte, Nat.reduceLT, Array.toList, Nat.reduceAdd, Nat.reduceMul, Int.reduceToNat, Int.reducePow, UInt8.reduceToNat]) | (refine call_drop (args' := [.ints .u64 o]) (by simp -dsimp only [↓wkA, ↓wkE, ↓wkJ, wkB, ↓tt, Nat.reduceBEq, Nat.reduceEqDiff, ↓reduceIte, Nat.reduceLT, Array.toList, Nat.reduceAdd, Nat.reduceMul, Int.reduceToNat, Int.reducePow, UInt8.reduceToNat] <;> rw [List.take_of_length_le (by omega)]) hct (by simp -dsimp only [okViews, ↓wkA, ↓wkE, ↓wkJ, wkB, ↓tt, Nat.reduceBEq, Nat.reduceEqDiff, ↓reduceIte, Nat.reduceLT, Array.toList, Nat.reduceAdd, Nat.reduceMul, Int.reduceToNat, Int.reducePow, UInt8.reduceToNat] <;> omega) rfl ?_) | (simp -dsimp (disch := first | assumption | omega) only [dec_t, dec_f])
      | (refine And.intro ?_ ?_
         · first | omega | decide | (simp (disch := omega) only [wkW, Int.reduceToNat, Int.reducePow] <;> omega) | (simp <;> omega)) | (simp (disch := omega) only [wkW, Int.reduceToNat, Int.reducePow])
  | succ i =>
    have hx := getD_limb ha i
    have hc := hS.car
    have hstep := hS.step ha hd (by omega) rfl
    have h64 := div64 t (a.getD i 0) d hd hc hx
    have e0 : (((i + 1 : Nat) : Int) - 1) = (i : Int) := by omega
    have w2 : IntKind.wrap .i64 ((i : Int) - 1) = (i : Int) - 1 := wrap_i64 (by omega)
    repeat' first
      | (simp only [e0, w2, Int.toNat_natCast]) | (with_reducible first | refine PW.seq ?_ | refine PW.block ?_ | refine PW.fork ?_ | refine PW.skip ?_ | refine PW.exit ?_ | refine PW.ret ?_) | ((with_reducible refine PW.region ttOk ?_ ?_); rfl) | ((with_reducible refine PW.regionD ttOk mixed ?_ ?_ ?_); rfl; rfl) | (with_reducible refine ifW_dec (fun g => ?_) (fun g => ?_) <;> first | (exfalso; omega) | (simp -dsimp only [g, wkI])) | ((with_reducible first | refine condE_dec (fun g => ?_) (fun g => ?_) | refine condE_not (fun g => ?_) (fun g => ?_)) <;> try (exfalso; omega)) | (simp -dsimp only [↓wkA, ↓wkE, ↓wkJ, wkB, ↓tt, Nat.reduceBEq, Nat.reduceEqDiff, ↓reduceIte, Nat.reduceLT, Array.toList, Nat.reduceAdd, Nat.reduceMul, Int.reduceToNat, Int.reducePow, UInt8.reduceToNat]) | (refine call_by (h64) (views_data rfl) ⟨trivial, trivial, trivial, trivial⟩ rfl ?_) | (simp -dsimp (disch := first | assumption | omega) only [dec_t, dec_f])
      | (refine And.intro ?_ ?_
         · first | omega | decide | (simp (disch := omega) only [wkW, Int.reduceToNat, Int.reducePow] <;> omega) | (simp <;> omega)) | (simp (disch := omega) only [wkW, Int.reduceToNat, Int.reducePow])
    exact Again.mk i (dsF a d i _) ⟨1, [(0, .ints .u64 _)], [], []⟩ (by omega) (Sub.norm ⟨rfl, rfl, rfl, rfl, rfl, trivial⟩ ⟨rfl, trivial⟩ (Nat.le_refl _) rfl rfl rfl rfl) ⟨_, _, by omega, hstep, rfl, rfl⟩
theorem div_small_nat {u d : Nat} (hu : u < NMax) (hd : 0 < d ∧ d < 18446744073709551616) : Meets Tryz.prog 94 [.ints .u64 (natL u), .int .u64 (d : Int)] (.tup [.ints .u64 (natL (u / d)), .int .u64 ((u % d : Nat) : Int), .int .i64 0]) :=
  div_small_list _ (natL_limbs u) (natL_small hu) (size_natL u) _ ⟨by omega, by simp only [B64]; omega⟩ _ _ (by rw [val_natL]; rfl) (by rw [val_natL]; rfl) (Nat.lt_of_le_of_lt (Nat.div_le_self _ _) hu)
end Go.Proofs.YtmoilbeomnapfaaGreatDoor

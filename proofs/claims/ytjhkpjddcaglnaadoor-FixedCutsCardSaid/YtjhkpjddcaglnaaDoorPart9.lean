/- Contracts and laws that the row leans on, part 9: texts that were built one by one, laid together. -/
import Derived.Test.YtjhkpjddcaglnaaDoorPart8
set_option maxHeartbeats 4000000
set_option maxRecDepth 4000
set_option exponentiation.threshold 300000
set_option linter.unusedVariables false
set_option linter.unusedSimpArgs false
namespace Go.Proofs.YtjhkpjddcaglnaaDoor
open Go Go.PV

theorem small64 {x : Nat} (h : x < 18446744073709551616) : x < NMax := nmax_of (k := 64) (by simpa using h) (by decide)

theorem law11_works : Meets Tryd.prog 21 [] (.bool true) := by
  have c1 : Meets Tryd.prog 13 [.str [49, 50, 48]] (.tup [.ints .u64 [120], .int .i64 0, .int .i64 0]) := by
    have h := read_nat (s := [49, 50, 48]) (by intro x hx; revert x; decide) (by decide) (by decide)
    rw [show num 10 [49, 50, 48] = 120 from rfl, natL_one 120 (by decide)] at h
    exact h
  have c2 : Meets Tryd.prog 12 [.int .i64 2] (.tup [.ints .u64 [100], .int .i64 0]) := by
    have h := pow10_ok 2 (by decide) (small64 (by decide))
    rw [show 10 ^ 2 = 100 from rfl, natL_one 100 (by decide)] at h
    exact h
  have c3 : Meets Tryd.prog 41 [.int .u64 4593671619917905920] (.agg [.bool false, .int .i64 2, .int .u64 4503599627370496, .int .i64 (-55)]) := by
    have h := ieee_decode 4593671619917905920 (by decide)
    exact h
  have c4 : Meets Tryd.prog 14 [.ints .u64 [100], .ints .u64 [3]] (.tup [.ints .u64 [300], .int .i64 0]) := by
    have h := mul_nat0 (u := 100) (v := 3) (small64 (by decide)) (small64 (by decide)) (small64 (by decide))
    rw [natL_one 100 (by decide), natL_one 3 (by decide), show 100 * 3 = 300 from rfl, natL_one 300 (by decide)] at h
    exact h
  have c5 : Meets Tryd.prog 15 [.ints .u64 [120], .ints .u64 [120]] (.int .i64 0) := by
    have h := cmp_nat (u := 120) (v := 120) (small64 (by decide)) (small64 (by decide))
    rw [natL_one 120 (by decide)] at h
    exact h
  have c6 : Meets Tryd.prog 15 [.ints .u64 [300], .ints .u64 [300]] (.int .i64 0) := by
    have h := cmp_nat (u := 300) (v := 300) (small64 (by decide)) (small64 (by decide))
    rw [natL_one 300 (by decide)] at h
    exact h
  refine meets_by ttOk Tryd.func21 Tryd.ntmps21 Tryd.results21 (by kernel_rfl) (c := _) rfl rfl rfl fun E => ?_
  simp only [argsFrame]
  repeat' first
    | (with_reducible first | refine PW.seq ?_ | refine PW.block ?_ | refine PW.fork ?_ | refine PW.skip ?_ | refine PW.exit ?_ | refine PW.ret ?_)
    | (with_reducible refine PW.region ttOk ?_ ?_
       · rfl)
    | (with_reducible refine PW.regionD ttOk mixed ?_ ?_ ?_
       · rfl
       · rfl)
    | (with_reducible refine ifW_dec (fun g => ?_) (fun g => ?_) <;> first | (exfalso; omega) | (simp -dsimp only [g, wkI]))
    | (with_reducible refine condE_dec (fun g => ?_) (fun g => ?_) <;> try (exfalso; omega))
    | (with_reducible refine condE_not (fun g => ?_) (fun g => ?_) <;> try (exfalso; omega))
    | (simp -dsimp only [↓wkA, ↓wkE, wkB, ↓tt, Nat.reduceBEq, Nat.reduceEqDiff, ↓reduceIte, Nat.reduceLT, Array.toList, Nat.reduceAdd, Nat.reduceMul, Int.reduceToNat, Int.reducePow, UInt8.reduceToNat])
    | (refine call_by (c1) (views_data rfl) ⟨trivial, trivial⟩ rfl ?_)
    | (refine call_by (c2) (views_data rfl) ⟨trivial, trivial⟩ rfl ?_)
    | (refine call_by (c3) (views_data rfl) ⟨trivial, trivial⟩ rfl ?_)
    | (refine call_drop (args' := [.ints .u64 [100], .ints .u64 [3]]) rfl c4 (by simp -dsimp only [okViews, ↓wkA, ↓wkE, wkB, ↓tt, Nat.reduceBEq, Nat.reduceEqDiff, ↓reduceIte, Nat.reduceLT, Array.toList, Nat.reduceAdd, Nat.reduceMul, Int.reduceToNat, Int.reducePow, UInt8.reduceToNat]; decide) rfl ?_; simp only [Heap.drop, List.flatMap_cons, List.flatMap_nil, ids, ids0, List.append_nil, List.nil_append, List.cons_append, dropRows, List.contains_cons, List.contains_nil, Nat.reduceBEq, Bool.or_false, cond_true, cond_false])
    | (refine call_by' (args' := [.ints .u64 [120], .ints .u64 [120]]) rfl c5 (by simp -dsimp only [okViews, ↓wkA, ↓wkE, wkB, ↓tt, Nat.reduceBEq, Nat.reduceEqDiff, ↓reduceIte, Nat.reduceLT, Array.toList, Nat.reduceAdd, Nat.reduceMul, Int.reduceToNat, Int.reducePow, UInt8.reduceToNat]; decide) rfl ?_)
    | (refine call_by' (args' := [.ints .u64 [300], .ints .u64 [300]]) rfl c6 (by simp -dsimp only [okViews, ↓wkA, ↓wkE, wkB, ↓tt, Nat.reduceBEq, Nat.reduceEqDiff, ↓reduceIte, Nat.reduceLT, Array.toList, Nat.reduceAdd, Nat.reduceMul, Int.reduceToNat, Int.reducePow, UInt8.reduceToNat]; decide) rfl ?_)
    | (exact Nat.le_refl _)
    | (simp -dsimp (disch := first | assumption | omega) only [dec_t, dec_f])
    | (refine And.intro ?_ ?_
       · first | omega | decide | (simp (disch := omega) only [wkW, Int.reduceToNat, Int.reducePow] <;> omega) | (simp <;> omega))
    | (simp (disch := omega) only [wkW, Int.reduceToNat, Int.reducePow])
    | fail

theorem law11_finite (d : Nat) (hd : d < 18446744073709551616) : Meets Tryd.prog 22 [.int .u64 (d : Int)] (.bool (decide (finD d))) := by
  have h1 := andNot_sign hd
  have hp := abs_parts d
  have hf := frac_lt d
  refine meets_by ttOk Tryd.func22 Tryd.ntmps22 Tryd.results22 (by kernel_rfl) (c := _) rfl rfl rfl fun E => ?_
  simp only [argsFrame]
  repeat' first
    | (simp only [h1])
    | (with_reducible first | refine PW.seq ?_ | refine PW.block ?_ | refine PW.fork ?_ | refine PW.skip ?_ | refine PW.exit ?_ | refine PW.ret ?_)
    | (with_reducible refine PW.region ttOk ?_ ?_
       · rfl)
    | (with_reducible refine PW.regionD ttOk mixed ?_ ?_ ?_
       · rfl
       · rfl)
    | (with_reducible refine ifW_dec (fun g => ?_) (fun g => ?_) <;> first | (exfalso; omega) | (simp -dsimp only [g, wkI]))
    | (with_reducible refine condE_dec (fun g => ?_) (fun g => ?_) <;> try (exfalso; omega))
    | (with_reducible refine condE_not (fun g => ?_) (fun g => ?_) <;> try (exfalso; omega))
    | (simp -dsimp only [↓wkA, ↓wkE, wkB, ↓tt, Nat.reduceBEq, Nat.reduceEqDiff, ↓reduceIte, Nat.reduceLT, Array.toList, Nat.reduceAdd, Nat.reduceMul, Int.reduceToNat, Int.reducePow, UInt8.reduceToNat])
    | (simp -dsimp (disch := first | assumption | omega) only [dec_t, dec_f])
    | (refine And.intro ?_ ?_
       · first | omega | decide | (simp (disch := omega) only [wkW, Int.reduceToNat, Int.reducePow] <;> omega) | (simp <;> omega))
    | (simp (disch := omega) only [wkW, Int.reduceToNat, Int.reducePow])
    | fail
  all_goals (refine congrArg PV.bool ?_; unfold finD; refine decide_eq_decide.2 ?_; omega)

/-- |d| times a power of ten, as a fraction with a power of two below. -/
def topD (d n : Nat) : Nat := mantD d * 10 ^ n * 2 ^ (expD d).toNat
theorem topD_lt {d n : Nat} (h : finD d) (hn : n ≤ 5000) : topD d n < 2 ^ 30000 := by
  have hm := mantD_lt d
  have h2 := expD_le h
  have hm2 : mantD d < 2 ^ 53 := by simpa using hm
  have h10 : 10 ^ n ≤ 2 ^ (4 * n) := by rw [Nat.pow_mul]; exact Nat.pow_le_pow_left (by decide) n
  have h3 : 2 ^ (4 * n) ≤ 2 ^ 20000 := Nat.pow_le_pow_right (by decide) (by omega)
  have h4 : 2 ^ (expD d).toNat ≤ 2 ^ 971 := Nat.pow_le_pow_right (by decide) (by omega)
  have h5 : mantD d * 10 ^ n ≤ 2 ^ 53 * 2 ^ 20000 := Nat.mul_le_mul (Nat.le_of_lt hm2) (Nat.le_trans h10 h3)
  have h6 : topD d n ≤ 2 ^ 53 * 2 ^ 20000 * 2 ^ 971 := Nat.mul_le_mul h5 h4
  rw [← Nat.pow_add, ← Nat.pow_add] at h6
  exact Nat.lt_of_le_of_lt h6 (Nat.pow_lt_pow_right (by decide) (by decide))

theorem scaled_walk (d : Int) (ng : Bool) (c e : Int) (m n t1 t2 : Nat) (he : -1074 ≤ e ∧ e ≤ 971) (hdec : Meets Tryd.prog 41 [.int .u64 d] (.agg [.bool ng, .int .i64 c, .int .u64 (m : Int), .int .i64 e]))
    (hfrom : Meets Tryd.prog 42 [.int .u64 (m : Int)] (.ints .u64 (natL m))) (ten : List Int) (hpow : Meets Tryd.prog 12 [.int .i64 (n : Int)] (.tup [.ints .u64 ten, .int .i64 0]))
    (hmul : Meets Tryd.prog 14 [.ints .u64 (natL m), .ints .u64 ten] (.tup [.ints .u64 (natL t1), .int .i64 0])) (hshl : 0 ≤ e → Meets Tryd.prog 17 [.ints .u64 (natL t1), .int .i64 e] (.tup [.ints .u64 (natL t2), .int .i64 0])) (h2 : e < 0 → t2 = t1) :
    Meets Tryd.prog 23 [.int .u64 d, .int .i64 (n : Int)] (.tup [.ints .u64 (natL t2), .int .i64 (if 0 ≤ e then 0 else -e)]) := by
  generalize natL m = a at *
  have w0 : IntKind.wrap .i64 (-e) = -e := wrap_i64 (by omega)
  by_cases h : 0 ≤ e
  · rw [if_pos h]
    have hs := hshl h
    generalize natL t1 = b at *
    generalize natL t2 = b2 at *
    refine meets_by ttOk Tryd.func23 Tryd.ntmps23 Tryd.results23 (by kernel_rfl) (c := _) rfl rfl rfl fun E => ?_
    simp only [argsFrame]
    repeat' first
      | (with_reducible first | refine PW.seq ?_ | refine PW.block ?_ | refine PW.fork ?_ | refine PW.skip ?_ | refine PW.exit ?_ | refine PW.ret ?_)
      | (with_reducible refine PW.region ttOk ?_ ?_
         · rfl)
      | (with_reducible refine PW.regionD ttOk mixed ?_ ?_ ?_
         · rfl
         · rfl)
      | (with_reducible refine ifW_dec (fun g => ?_) (fun g => ?_) <;> first | (exfalso; omega) | (simp -dsimp only [g, wkI]))
      | (with_reducible refine condE_dec (fun g => ?_) (fun g => ?_) <;> try (exfalso; omega))
      | (with_reducible refine condE_not (fun g => ?_) (fun g => ?_) <;> try (exfalso; omega))
      | (simp -dsimp only [↓wkA, ↓wkE, wkB, ↓tt, Nat.reduceBEq, Nat.reduceEqDiff, ↓reduceIte, Nat.reduceLT, Array.toList, Nat.reduceAdd, Nat.reduceMul, Int.reduceToNat, Int.reducePow, UInt8.reduceToNat])
      | (refine call_by (hdec) (views_data rfl) ⟨trivial, trivial⟩ rfl ?_)
      | (refine call_by (hfrom) (views_data rfl) ⟨trivial, trivial⟩ rfl ?_)
      | (refine call_by (hpow) (views_data rfl) ⟨trivial, trivial⟩ rfl ?_)
      | (refine call_by (hmul) (views_data rfl) ⟨trivial, trivial, trivial⟩ rfl ?_)
      | (refine call_by (hs) (views_data rfl) ⟨trivial, trivial, trivial⟩ rfl ?_)
      | (simp -dsimp (disch := first | assumption | omega) only [dec_t, dec_f])
      | (refine And.intro ?_ ?_
         · first | omega | decide | (simp (disch := omega) only [wkW, Int.reduceToNat, Int.reducePow] <;> omega) | (simp <;> omega))
      | (simp (disch := omega) only [wkW, Int.reduceToNat, Int.reducePow])
      | fail
  · rw [if_neg h, h2 (by omega)]
    generalize natL t1 = b at *
    refine meets_by ttOk Tryd.func23 Tryd.ntmps23 Tryd.results23 (by kernel_rfl) (c := _) rfl rfl rfl fun E => ?_
    simp only [argsFrame]
    repeat' first
      | (simp only [Int.zero_sub, w0])
      | (with_reducible first | refine PW.seq ?_ | refine PW.block ?_ | refine PW.fork ?_ | refine PW.skip ?_ | refine PW.exit ?_ | refine PW.ret ?_)
      | (with_reducible refine PW.region ttOk ?_ ?_
         · rfl)
      | (with_reducible refine PW.regionD ttOk mixed ?_ ?_ ?_
         · rfl
         · rfl)
      | (with_reducible refine ifW_dec (fun g => ?_) (fun g => ?_) <;> first | (exfalso; omega) | (simp -dsimp only [g, wkI]))
      | (with_reducible refine condE_dec (fun g => ?_) (fun g => ?_) <;> try (exfalso; omega))
      | (with_reducible refine condE_not (fun g => ?_) (fun g => ?_) <;> try (exfalso; omega))
      | (simp -dsimp only [↓wkA, ↓wkE, wkB, ↓tt, Nat.reduceBEq, Nat.reduceEqDiff, ↓reduceIte, Nat.reduceLT, Array.toList, Nat.reduceAdd, Nat.reduceMul, Int.reduceToNat, Int.reducePow, UInt8.reduceToNat])
      | (refine call_by (hdec) (views_data rfl) ⟨trivial, trivial⟩ rfl ?_)
      | (refine call_by (hfrom) (views_data rfl) ⟨trivial, trivial⟩ rfl ?_)
      | (refine call_by (hpow) (views_data rfl) ⟨trivial, trivial⟩ rfl ?_)
      | (refine call_by (hmul) (views_data rfl) ⟨trivial, trivial, trivial⟩ rfl ?_)
      | (simp -dsimp (disch := first | assumption | omega) only [dec_t, dec_f])
      | (refine And.intro ?_ ?_
         · first | omega | decide | (simp (disch := omega) only [wkW, Int.reduceToNat, Int.reducePow] <;> omega) | (simp <;> omega))
      | (simp (disch := omega) only [wkW, Int.reduceToNat, Int.reducePow])
      | fail

theorem law11_scaled (d : Nat) (hd : d < 18446744073709551616) (hf : finD d) (n : Nat) (hn : n ≤ 5000) : Meets Tryd.prog 23 [.int .u64 (d : Int), .int .i64 (n : Int)] (.tup [.ints .u64 (natL (topD d n)), .int .i64 (if absD d = 0 then 0 else if 0 ≤ expD d then 0 else -expD d)]) := by
  have hdec := ieee_decode d hd
  unfold partsP at hdec
  have hm := mantD_lt d
  have hm2 : mantD d < 2 ^ 53 := by simpa using hm
  have h10 : 10 ^ n < NMax := ten_small (by omega)
  have hpow := pow10_ok n (by omega) h10
  have hge := expD_ge d
  have hle := expD_le hf
  have htop := topD_lt hf hn
  by_cases h0 : absD d = 0
  · rw [if_pos h0]
    have hM : partsM d = 0 := by
      have := (abs_zero.1 h0).2
      unfold partsM
      rw [if_neg (by have := class_zero.2 h0; omega)]
      omega
    have hE : partsE d = 0 := by
      unfold partsE
      rw [if_neg (by have := class_zero.2 h0; omega)]
    rw [hM, hE] at hdec
    have hT : topD d n = 0 := by unfold topD; rw [mantD_zero.2 h0]; simp
    rw [hT]
    have hfrom := from_uint 0 (by decide)
    have hmul := mul_nat0 (u := 0) (v := 10 ^ n) nmax_pos h10 (by rw [Nat.zero_mul]; exact nmax_pos)
    rw [Nat.zero_mul] at hmul
    have h := scaled_walk (d : Int) _ _ 0 0 n 0 0 (by decide) hdec hfrom _ hpow hmul (fun _ => by have := shl_nat (u := 0) (n := 0) nmax_pos (by decide) (by rw [Nat.zero_mul]; exact nmax_pos); rwa [Nat.zero_mul] at this) (fun h => by omega)
    exact h
  · rw [if_neg h0]
    obtain ⟨hM, hE⟩ := parts_fin hf h0
    rw [hM, hE] at hdec
    have hfrom := from_uint (mantD d) (by omega)
    have hp0 : 0 < 2 ^ (expD d).toNat := Nat.pow_pos (by decide)
    have ht1 : mantD d * 10 ^ n < 2 ^ 30000 := Nat.lt_of_le_of_lt (Nat.le_mul_of_pos_right _ hp0) htop
    have hmul := mul_nat0 (u := mantD d) (v := 10 ^ n) (nmax_of hm2 (by decide)) h10 (nmax_of ht1 (by decide))
    refine scaled_walk (d : Int) _ _ (expD d) (mantD d) n (mantD d * 10 ^ n) (topD d n) ⟨hge, hle⟩ hdec hfrom _ hpow hmul (fun h => ?_) (fun h => ?_)
    · have := shl_nat (u := mantD d * 10 ^ n) (n := (expD d).toNat) (nmax_of ht1 (by decide)) (by omega) (nmax_of htop (by decide))
      rwa [show (((expD d).toNat : Nat) : Int) = expD d by omega] at this
    · unfold topD
      rw [show (expD d).toNat = 0 by omega, Nat.pow_zero, Nat.mul_one]

/-- D times 10^x is less than 2^1024. -/
theorem allX_le {d : Nat} (hf : finD d) (h0 : absD d ≠ 0) : allX d ≤ 308 := by
  obtain ⟨h1, h2⟩ := allN_dec h0
  have hD : allD d ≠ 0 := fun e => h1 (by rw [e])
  have hm2 : mantD d < 2 ^ 53 := by simpa using mantD_lt d
  have hle := expD_le hf
  refine Int.not_lt.1 fun hgt => ?_
  rw [show (-allX d).toNat = 0 by omega, Nat.pow_zero, Nat.mul_one] at h2
  have h3 : 10 ^ 309 ≤ allD d * 10 ^ (allX d).toNat := by
    have : 10 ^ 309 ≤ 10 ^ (allX d).toNat := Nat.pow_le_pow_right (by decide) (by omega)
    exact Nat.le_trans this (Nat.le_mul_of_pos_left _ (Nat.pos_of_ne_zero hD))
  have h4 : mantD d * 2 ^ (expD d).toNat < 2 ^ 1024 := by
    have : 2 ^ (expD d).toNat ≤ 2 ^ 971 := Nat.pow_le_pow_right (by decide) (by omega)
    have h5 : mantD d * 2 ^ (expD d).toNat < 2 ^ 53 * 2 ^ 971 := Nat.lt_of_le_of_lt (Nat.mul_le_mul_left _ this) (Nat.mul_lt_mul_of_pos_right hm2 (Nat.pow_pos (by decide)))
    rwa [← Nat.pow_add] at h5
  have h6 : allD d * 10 ^ (allX d).toNat ≤ allD d * 10 ^ (allX d).toNat * 2 ^ (-expD d).toNat := Nat.le_mul_of_pos_right _ (Nat.pow_pos (by decide))
  have h7 : (2 : Nat) ^ 1024 < 10 ^ 309 := by decide +kernel
  exact absurd (Nat.lt_of_le_of_lt (Nat.le_trans h3 (Nat.le_trans h6 (Nat.le_of_eq h2))) (Nat.lt_trans h4 h7)) (Nat.lt_irrefl _)

theorem fixed_exact_walk (d : Int) (ngd : Bool) (hneg : decide (9223372036854775808 ≤ d) = ngd) (ab : Int) (hab : ibits .andNot .u64 d 9223372036854775808 = ab) (hab0 : decide (ab = 0) = false) (s : List Int) (x : Int) (hx : -1074 ≤ x ∧ x ≤ 308) (D up down L1 L2 p : Nat) (hup : ((up : Nat) : Int) = if x < 0 then 0 else x) (hdown : ((down : Nat) : Int) = if x < 0 then -x else 0)
    (c1 : Meets Tryd.prog 20 [.int .u64 13876364508114452480] (.tup [.agg [.bool true, .str [49, 50], .int .i64 2], .int .i64 0])) (c2 : Meets Tryd.prog 21 [] (.bool true))
    (hall : Meets Tryd.prog 20 [.int .u64 d] (.tup [.agg [.bool ngd, .str s, .int .i64 x], .int .i64 0])) (hfin : Meets Tryd.prog 22 [.int .u64 d] (.bool true))
    (hread : Meets Tryd.prog 13 [.str s] (.tup [.ints .u64 (natL D), .int .i64 0, .int .i64 0])) (hsl : 0 < s.length ∧ s.length ≤ 10000) (hs0 : s.getD 0 0 ≠ 48) (hs1 : s.getD (s.length - 1) 0 ≠ 48)
    (ten : List Int) (hpow : Meets Tryd.prog 12 [.int .i64 (up : Int)] (.tup [.ints .u64 ten, .int .i64 0])) (hmul : Meets Tryd.prog 14 [.ints .u64 (natL D), .ints .u64 ten] (.tup [.ints .u64 (natL L1), .int .i64 0]))
    (hsc : Meets Tryd.prog 23 [.int .u64 d, .int .i64 (down : Int)] (.tup [.ints .u64 (natL L2), .int .i64 (p : Int)]))
    (hshl : Meets Tryd.prog 17 [.ints .u64 (natL L1), .int .i64 (p : Int)] (.tup [.ints .u64 (natL L2), .int .i64 0])) (hcmp : Meets Tryd.prog 15 [.ints .u64 (natL L2), .ints .u64 (natL L2)] (.int .i64 0)) :
    Meets Tryd.prog 5 [.int .u64 d] (.bool true) := by
  generalize natL D = a at *
  generalize natL L1 = b at *
  generalize natL L2 = b2 at *
  have w1 : IntKind.wrap .i64 ((s.length : Int) - 1) = ((s.length - 1 : Nat) : Int) := by rw [wrap_i64 (by omega)]; omega
  have w2 : IntKind.wrap .i64 (-x) = -x := wrap_i64 (by omega)
  have e1 : ∀ b : Bool, (b == b) = true := fun b => by cases b <;> rfl
  have hd0 : decide (s.getD 0 0 = 48) = false := decide_eq_false hs0
  have hd1 : decide (s.getD (s.length - 1) 0 = 48) = false := decide_eq_false hs1
  by_cases hx0 : x < 0
  · rw [if_pos hx0] at hup hdown
    rw [hup] at hpow
    rw [hdown] at hsc
    refine meets_by ttOk Tryd.func5 Tryd.ntmps5 Tryd.results5 (by kernel_rfl) (c := _) rfl rfl rfl fun E => ?_
    simp only [argsFrame]
    repeat' first
      | (simp only [Int.zero_sub, w1, w2, hneg, hab, hab0, e1, hd0, hd1, Int.toNat_natCast])
      | (with_reducible first | refine PW.seq ?_ | refine PW.block ?_ | refine PW.fork ?_ | refine PW.skip ?_ | refine PW.exit ?_ | refine PW.ret ?_)
      | (with_reducible refine PW.region ttOk ?_ ?_
         · rfl)
      | (with_reducible refine PW.regionD ttOk mixed ?_ ?_ ?_
         · rfl
         · rfl)
      | (with_reducible refine ifW_dec (fun g => ?_) (fun g => ?_) <;> first | (exfalso; omega) | (simp -dsimp only [g, wkI]))
      | (with_reducible refine condE_dec (fun g => ?_) (fun g => ?_) <;> try (exfalso; omega))
      | (with_reducible refine condE_not (fun g => ?_) (fun g => ?_) <;> try (exfalso; omega))
      | (simp -dsimp only [↓wkA, ↓wkE, wkB, ↓tt, Nat.reduceBEq, Nat.reduceEqDiff, ↓reduceIte, Nat.reduceLT, Array.toList, Nat.reduceAdd, Nat.reduceMul, Int.reduceToNat, Int.reducePow, UInt8.reduceToNat])
      | (refine call_by (c1) (views_data rfl) ⟨trivial, trivial⟩ rfl ?_)
      | (refine call_by (c2) (views_data rfl) trivial rfl ?_)
      | (refine call_by (hall) (views_data rfl) ⟨trivial, trivial⟩ rfl ?_)
      | (refine call_by (hfin) (views_data rfl) ⟨trivial, trivial⟩ rfl ?_)
      | (refine call_by (hread) (views_data rfl) ⟨trivial, trivial⟩ rfl ?_)
      | (refine call_by (hpow) (views_data rfl) ⟨trivial, trivial⟩ rfl ?_)
      | (refine call_by (hmul) (views_data rfl) ⟨trivial, trivial, trivial⟩ rfl ?_)
      | (refine call_by (hsc) (views_data rfl) ⟨trivial, trivial, trivial⟩ rfl ?_)
      | (refine call_by (hshl) (views_data rfl) ⟨trivial, trivial, trivial⟩ rfl ?_)
      | (refine call_by (hcmp) (views_data rfl) ⟨trivial, trivial, trivial⟩ rfl ?_)
      | (simp -dsimp (disch := first | assumption | omega) only [dec_t, dec_f])
      | (refine And.intro ?_ ?_
         · first | omega | decide | (simp (disch := omega) only [wkW, Int.reduceToNat, Int.reducePow] <;> omega) | (simp <;> omega))
      | (simp (disch := omega) only [wkW, Int.reduceToNat, Int.reducePow])
      | fail
  · rw [if_neg hx0] at hup hdown
    rw [hup] at hpow
    rw [hdown] at hsc
    refine meets_by ttOk Tryd.func5 Tryd.ntmps5 Tryd.results5 (by kernel_rfl) (c := _) rfl rfl rfl fun E => ?_
    simp only [argsFrame]
    repeat' first
      | (simp only [Int.zero_sub, w1, w2, hneg, hab, hab0, e1, hd0, hd1, Int.toNat_natCast])
      | (with_reducible first | refine PW.seq ?_ | refine PW.block ?_ | refine PW.fork ?_ | refine PW.skip ?_ | refine PW.exit ?_ | refine PW.ret ?_)
      | (with_reducible refine PW.region ttOk ?_ ?_
         · rfl)
      | (with_reducible refine PW.regionD ttOk mixed ?_ ?_ ?_
         · rfl
         · rfl)
      | (with_reducible refine ifW_dec (fun g => ?_) (fun g => ?_) <;> first | (exfalso; omega) | (simp -dsimp only [g, wkI]))
      | (with_reducible refine condE_dec (fun g => ?_) (fun g => ?_) <;> try (exfalso; omega))
      | (with_reducible refine condE_not (fun g => ?_) (fun g => ?_) <;> try (exfalso; omega))
      | (simp -dsimp only [↓wkA, ↓wkE, wkB, ↓tt, Nat.reduceBEq, Nat.reduceEqDiff, ↓reduceIte, Nat.reduceLT, Array.toList, Nat.reduceAdd, Nat.reduceMul, Int.reduceToNat, Int.reducePow, UInt8.reduceToNat])
      | (refine call_by (c1) (views_data rfl) ⟨trivial, trivial⟩ rfl ?_)
      | (refine call_by (c2) (views_data rfl) trivial rfl ?_)
      | (refine call_by (hall) (views_data rfl) ⟨trivial, trivial⟩ rfl ?_)
      | (refine call_by (hfin) (views_data rfl) ⟨trivial, trivial⟩ rfl ?_)
      | (refine call_by (hread) (views_data rfl) ⟨trivial, trivial⟩ rfl ?_)
      | (refine call_by (hpow) (views_data rfl) ⟨trivial, trivial⟩ rfl ?_)
      | (refine call_by (hmul) (views_data rfl) ⟨trivial, trivial, trivial⟩ rfl ?_)
      | (refine call_by (hsc) (views_data rfl) ⟨trivial, trivial, trivial⟩ rfl ?_)
      | (refine call_by (hshl) (views_data rfl) ⟨trivial, trivial, trivial⟩ rfl ?_)
      | (refine call_by (hcmp) (views_data rfl) ⟨trivial, trivial, trivial⟩ rfl ?_)
      | (simp -dsimp (disch := first | assumption | omega) only [dec_t, dec_f])
      | (refine And.intro ?_ ?_
         · first | omega | decide | (simp (disch := omega) only [wkW, Int.reduceToNat, Int.reducePow] <;> omega) | (simp <;> omega))
      | (simp (disch := omega) only [wkW, Int.reduceToNat, Int.reducePow])
      | fail
end Go.Proofs.YtjhkpjddcaglnaaDoor
set_option maxHeartbeats 4000000
set_option maxRecDepth 4000
set_option exponentiation.threshold 300000
set_option linter.unusedVariables false
set_option linter.unusedSimpArgs false
namespace Go.Proofs.YtjhkpjddcaglnaaDoor
open Go Go.PV

/-- What All tells, out of what the number is. -/
theorem allD_of {d D : Nat} {x : Int} (h0 : absD d ≠ 0) (h : DecIs (mantD d) (expD d) D x) : allD d = D ∧ allX d = x :=
  decIs_unique (fun e => h0 (mantD_zero.1 e)) (allN_dec h0) h
theorem text_num (s : List Int) (hs : ∀ x ∈ s, 48 ≤ x ∧ x ≤ 57) (h0 : s ≠ []) (h : s.getD 0 0 ≠ 48) {D : Nat} (hD : num 10 s = D) : text 10 false D = s := by
  have := (digs_text (s := s) hs h0 h).1
  rw [hD] at this
  exact this.symm

theorem fixed_exact (d : Nat) (hd : d < 18446744073709551616) : Meets Tryd.prog 5 [.int .u64 (d : Int)] (.bool true) := by
  have c1 : Meets Tryd.prog 20 [.int .u64 13876364508114452480] (.tup [.agg [.bool true, .str [49, 50], .int .i64 2], .int .i64 0]) := by
    have h := fixed_all 13876364508114452480 (by decide)
    obtain ⟨e1, e2⟩ := allD_of (d := 13876364508114452480) (D := 12) (x := 2) (by decide) ⟨by decide, by decide⟩
    unfold allP decP at h
    rw [if_pos (by decide), if_neg (by decide), e1, e2, text_num [49, 50] (by decide) (by decide) (by decide) (show num 10 [49, 50] = 12 from rfl)] at h
    exact h
  have c2 := law11_works
  have hall := fixed_all d hd
  have hfin := law11_finite d hd
  have hab := andNot_sign hd
  unfold allP at hall
  by_cases hf : finD d
  case neg =>
    rw [decide_eq_false hf] at hfin
    rw [if_neg hf] at hall
    refine meets_by ttOk Tryd.func5 Tryd.ntmps5 Tryd.results5 (by kernel_rfl) (c := _) rfl rfl rfl fun E => ?_
    simp only [argsFrame]
    repeat' first
      | (simp only [eq_self, decide_true])
      | (with_reducible first | refine PW.seq ?_ | refine PW.block ?_ | refine PW.fork ?_ | refine PW.skip ?_ | refine PW.exit ?_ | refine PW.ret ?_)
      | (with_reducible refine PW.region ttOk ?_ ?_
         · rfl)
      | (with_reducible refine PW.regionD ttOk mixed ?_ ?_ ?_
         · rfl
         · rfl)
      | (with_reducible refine ifW_dec (fun g => ?_) (fun g => ?_) <;> first | (exfalso; omega) | (simp -dsimp only [g, wkI]))
      | (with_reducible refine condE_dec (fun g => ?_) (fun g => ?_) <;> try (exfalso; omega))
      | (with_reducible refine condE_not (fun g => ?_) (fun g => ?_) <;> try (exfalso; omega))
      | (simp -dsimp only [↓wkA, ↓wkE, wkB, ↓tt, Nat.reduceBEq, Nat.reduceEqDiff, ↓reduceIte, Nat.reduceLT, Array.toList, Nat.reduceAdd, Nat.reduceMul, Int.reduceToNat, Int.reducePow, UInt8.reduceToNat])
      | (refine call_by (c1) (views_data rfl) ⟨trivial, trivial⟩ rfl ?_)
      | (refine call_by (c2) (views_data rfl) trivial rfl ?_)
      | (refine call_by (hall) (views_data rfl) ⟨trivial, trivial⟩ rfl ?_)
      | (refine call_by (hfin) (views_data rfl) ⟨trivial, trivial⟩ rfl ?_)
      | (simp -dsimp (disch := first | assumption | omega) only [dec_t, dec_f])
      | (refine And.intro ?_ ?_
         · first | omega | decide | (simp (disch := omega) only [wkW, Int.reduceToNat, Int.reducePow] <;> omega) | (simp <;> omega))
      | (simp (disch := omega) only [wkW, Int.reduceToNat, Int.reducePow])
      | fail
  rw [decide_eq_true hf] at hfin
  rw [if_pos hf] at hall
  have hneg : decide ((9223372036854775808 : Int) ≤ (d : Int)) = negD d := decide_eq_decide.2 (by omega)
  have e1 : ∀ b : Bool, (b == b) = true := fun b => by cases b <;> rfl
  by_cases h0 : absD d = 0
  · rw [if_pos h0] at hall
    have hz : decide ((absD d : Int) = 0) = true := decide_eq_true (by omega)
    clear hf h0
    generalize negD d = ng at *
    generalize (absD d : Int) = ab at *
    refine meets_by ttOk Tryd.func5 Tryd.ntmps5 Tryd.results5 (by kernel_rfl) (c := _) rfl rfl rfl fun E => ?_
    simp only [argsFrame]
    repeat' first
      | (simp only [hneg, hab, hz, e1, eq_self, decide_true])
      | (with_reducible first | refine PW.seq ?_ | refine PW.block ?_ | refine PW.fork ?_ | refine PW.skip ?_ | refine PW.exit ?_ | refine PW.ret ?_)
      | (with_reducible refine PW.region ttOk ?_ ?_
         · rfl)
      | (with_reducible refine PW.regionD ttOk mixed ?_ ?_ ?_
         · rfl
         · rfl)
      | (with_reducible refine ifW_dec (fun g => ?_) (fun g => ?_) <;> first | (exfalso; omega) | (simp -dsimp only [g, wkI]))
      | (with_reducible refine condE_dec (fun g => ?_) (fun g => ?_) <;> try (exfalso; omega))
      | (with_reducible refine condE_not (fun g => ?_) (fun g => ?_) <;> try (exfalso; omega))
      | (simp -dsimp only [↓wkA, ↓wkE, wkB, ↓tt, Nat.reduceBEq, Nat.reduceEqDiff, ↓reduceIte, Nat.reduceLT, Array.toList, Nat.reduceAdd, Nat.reduceMul, Int.reduceToNat, Int.reducePow, UInt8.reduceToNat])
      | (refine call_by (c1) (views_data rfl) ⟨trivial, trivial⟩ rfl ?_)
      | (refine call_by (c2) (views_data rfl) trivial rfl ?_)
      | (refine call_by (hall) (views_data rfl) ⟨trivial, trivial⟩ rfl ?_)
      | (refine call_by (hfin) (views_data rfl) ⟨trivial, trivial⟩ rfl ?_)
      | (simp -dsimp (disch := first | assumption | omega) only [dec_t, dec_f])
      | (refine And.intro ?_ ?_
         · first | omega | decide | (simp (disch := omega) only [wkW, Int.reduceToNat, Int.reducePow] <;> omega) | (simp <;> omega))
      | (simp (disch := omega) only [wkW, Int.reduceToNat, Int.reducePow])
      | fail
  rw [if_neg h0] at hall
  unfold decP at hall
  obtain ⟨b1, b2, b3, b4, b5, b6⟩ := allD_bounds hf h0
  have hx := allX_le hf h0
  have hge := expD_ge d
  have hle := expD_le hf
  obtain ⟨_, hdec⟩ := allN_dec h0
  have hab0 : decide ((absD d : Int) = 0) = false := decide_eq_false (by omega)
  have hl : (text 10 false (allD d)).length = ndig (allD d) := rfl
  have hread := read_nat (s := text 10 false (allD d)) text_digs (text_ne (by decide) false b1) (by omega)
  rw [num_text (by decide)] at hread
  have hs0 := text_head (b := 10) (by decide) false (allD d) b1
  have hs1 : (text 10 false (allD d)).getD ((text 10 false (allD d)).length - 1) 0 ≠ 48 := fun h => by
    have h1 := text_digL (allD d)
    rw [hl] at h
    obtain ⟨k, hk⟩ : ∃ k, ndig (allD d) = k + 1 := ⟨ndig (allD d) - 1, by omega⟩
    rw [hk, digL] at h1
    rw [hk, h1, List.getD_eq_getElem?_getD, Nat.add_sub_cancel, List.getElem?_append_right (by rw [digL_len]; exact Nat.le_refl _), digL_len, Nat.sub_self] at h
    simp at h
    omega
  have hDlt : allD d < 2 ^ 13200 := by
    have h1 := ndig_lt (allD d)
    have h2 : 10 ^ ndig (allD d) ≤ 2 ^ (4 * ndig (allD d)) := by rw [Nat.pow_mul]; exact Nat.pow_le_pow_left (by decide) _
    exact Nat.lt_of_lt_of_le h1 (Nat.le_trans h2 (Nat.pow_le_pow_right (by decide) (by omega)))
  obtain ⟨up, hup⟩ : ∃ up : Nat, up = (allX d).toNat := ⟨_, rfl⟩
  obtain ⟨down, hdown⟩ : ∃ down : Nat, down = (-allX d).toNat := ⟨_, rfl⟩
  rw [← hup, ← hdown] at hdec
  have htop := topD_lt hf (show down ≤ 5000 by omega)
  have hsc := law11_scaled d hd hf down (by omega)
  rw [if_neg h0] at hsc
  have htopeq : allD d * 10 ^ up * 2 ^ (-expD d).toNat = topD d down := by rw [hdec]; unfold topD; grind
  have hL1 : allD d * 10 ^ up < 2 ^ 30000 := Nat.lt_of_le_of_lt (Nat.le_trans (Nat.le_mul_of_pos_right _ (Nat.pow_pos (by decide))) (Nat.le_of_eq htopeq)) htop
  have hpow := pow10_ok up (by omega) (ten_small (by omega))
  have hmul := mul_nat0 (u := allD d) (v := 10 ^ up) (nmax_of hDlt (by decide)) (ten_small (by omega)) (nmax_of hL1 (by decide))
  have hshl := shl_nat (u := allD d * 10 ^ up) (n := (-expD d).toNat) (nmax_of hL1 (by decide)) (by omega) (by rw [htopeq]; exact nmax_of htop (by decide))
  rw [htopeq] at hshl
  have hcmp := cmp_nat (u := topD d down) (v := topD d down) (nmax_of htop (by decide)) (nmax_of htop (by decide))
  rw [if_neg (Nat.lt_irrefl _), if_neg (Nat.lt_irrefl _)] at hcmp
  have hpp : (if 0 ≤ expD d then (0 : Int) else -expD d) = (((-expD d).toNat : Nat) : Int) := by split <;> omega
  rw [hpp] at hsc
  exact fixed_exact_walk (d : Int) (negD d) hneg _ hab hab0 _ (allX d) ⟨b5, hx⟩ (allD d) up down (allD d * 10 ^ up) (topD d down) (-expD d).toNat (by rw [hup]; split <;> omega) (by rw [hdown]; split <;> omega) c1 c2 hall hfin hread (by omega) hs0 hs1 _ hpow hmul hsc hshl hcmp
end Go.Proofs.YtjhkpjddcaglnaaDoor
set_option maxHeartbeats 4000000
set_option maxRecDepth 4000
set_option exponentiation.threshold 300000
set_option linter.unusedVariables false
set_option linter.unusedSimpArgs false
namespace Go.Proofs.YtjhkpjddcaglnaaDoor
open Go Go.PV

theorem law11_digits (s : List Int) (hs : Digs s) (hsl : s.length ≤ 1000000) : Meets Tryd.prog 27 [.str s] (.bool true) := by
  refine meets_by ttOk Tryd.func27 Tryd.ntmps27 Tryd.results27 (by kernel_rfl) (c := _) rfl rfl rfl fun E => ?_
  simp only [argsFrame]
  repeat' first
    | (with_reducible first | refine PW.seq ?_ | refine PW.block ?_ | refine PW.fork ?_ | refine PW.skip ?_ | refine PW.exit ?_ | refine PW.ret ?_)
    | (with_reducible refine PW.region ttOk ?_ ?_
       · rfl)
    | (with_reducible refine PW.regionD ttOk mixed ?_ ?_ ?_
       · rfl
       · rfl)
    | (with_reducible refine ifW_dec (fun g => ?_) (fun g => ?_) <;> first | (exfalso; omega) | (simp -dsimp only [g, wkI]))
    | (with_reducible refine condE_dec (fun g => ?_) (fun g => ?_) <;> try (exfalso; omega))
    | (with_reducible refine condE_not (fun g => ?_) (fun g => ?_) <;> try (exfalso; omega))
    | (simp -dsimp only [↓wkA, ↓wkE, wkB, ↓tt, Nat.reduceBEq, Nat.reduceEqDiff, ↓reduceIte, Nat.reduceLT, Array.toList, Nat.reduceAdd, Nat.reduceMul, Int.reduceToNat, Int.reducePow, UInt8.reduceToNat])
    | (simp -dsimp (disch := first | assumption | omega) only [dec_t, dec_f])
    | (refine And.intro ?_ ?_
       · first | omega | decide | (simp (disch := omega) only [wkW, Int.reduceToNat, Int.reducePow] <;> omega) | (simp <;> omega))
    | (simp (disch := omega) only [wkW, Int.reduceToNat, Int.reducePow])
    | fail
  refine PW.loopA (fun m F H => ∃ i, i + m = s.length ∧ F = [(3, .int .i64 (i : Int)), (0, .str s)] ∧ H = ⟨0, [], [], []⟩) s.length [(3, .int .i64 ((0 : Nat) : Int)), (0, .str s)] ⟨0, [], [], []⟩ (Sub.norm ⟨rfl, rfl, trivial⟩ trivial (Nat.le_refl _) rfl rfl rfl rfl) ⟨0, by omega, rfl, rfl⟩ ?_
  rintro m F H ⟨i, hi, rfl, rfl⟩
  cases m with
  | zero =>
    obtain rfl : i = s.length := by omega
    repeat' first
      | (with_reducible first | refine PW.seq ?_ | refine PW.block ?_ | refine PW.fork ?_ | refine PW.skip ?_ | refine PW.exit ?_ | refine PW.ret ?_)
      | (with_reducible refine PW.region ttOk ?_ ?_
         · rfl)
      | (with_reducible refine PW.regionD ttOk mixed ?_ ?_ ?_
         · rfl
         · rfl)
      | (with_reducible refine ifW_dec (fun g => ?_) (fun g => ?_) <;> first | (exfalso; omega) | (simp -dsimp only [g, wkI]))
      | (with_reducible refine condE_dec (fun g => ?_) (fun g => ?_) <;> try (exfalso; omega))
      | (with_reducible refine condE_not (fun g => ?_) (fun g => ?_) <;> try (exfalso; omega))
      | (simp -dsimp only [↓wkA, ↓wkE, wkB, ↓tt, Nat.reduceBEq, Nat.reduceEqDiff, ↓reduceIte, Nat.reduceLT, Array.toList, Nat.reduceAdd, Nat.reduceMul, Int.reduceToNat, Int.reducePow, UInt8.reduceToNat])
      | (simp -dsimp (disch := first | assumption | omega) only [dec_t, dec_f])
      | (refine And.intro ?_ ?_
         · first | omega | decide | (simp (disch := omega) only [wkW, Int.reduceToNat, Int.reducePow] <;> omega) | (simp <;> omega))
      | (simp (disch := omega) only [wkW, Int.reduceToNat, Int.reducePow])
      | fail
  | succ m =>
    have hx := digs_get hs (show i < s.length by omega)
    repeat' first
      | (simp only [Int.toNat_natCast])
      | (with_reducible first | refine PW.seq ?_ | refine PW.block ?_ | refine PW.fork ?_ | refine PW.skip ?_ | refine PW.exit ?_ | refine PW.ret ?_)
      | (with_reducible refine PW.region ttOk ?_ ?_
         · rfl)
      | (with_reducible refine PW.regionD ttOk mixed ?_ ?_ ?_
         · rfl
         · rfl)
      | (with_reducible refine ifW_dec (fun g => ?_) (fun g => ?_) <;> first | (exfalso; omega) | (simp -dsimp only [g, wkI]))
      | (with_reducible refine condE_dec (fun g => ?_) (fun g => ?_) <;> try (exfalso; omega))
      | (with_reducible refine condE_not (fun g => ?_) (fun g => ?_) <;> try (exfalso; omega))
      | (simp -dsimp only [↓wkA, ↓wkE, wkB, ↓tt, Nat.reduceBEq, Nat.reduceEqDiff, ↓reduceIte, Nat.reduceLT, Array.toList, Nat.reduceAdd, Nat.reduceMul, Int.reduceToNat, Int.reducePow, UInt8.reduceToNat])
      | (simp -dsimp (disch := first | assumption | omega) only [dec_t, dec_f])
      | (refine And.intro ?_ ?_
         · first | omega | decide | (simp (disch := omega) only [wkW, Int.reduceToNat, Int.reducePow] <;> omega) | (simp <;> omega))
      | (simp (disch := omega) only [wkW, Int.reduceToNat, Int.reducePow])
      | fail
    exact Again.mk m [(3, .int .i64 ((i + 1 : Nat) : Int)), (0, .str s)] ⟨0, [], [], []⟩ (by omega) (Sub.norm ⟨rfl, rfl, trivial⟩ trivial (Nat.le_refl _) rfl rfl rfl rfl) ⟨i + 1, by omega, rfl, rfl⟩

/-- What is rounded lies at most a half away, and is even at just a half. -/
theorem rhe_near {N U : Nat} (hU : 0 < U) : (rhe N U * U ≤ N ∧ (2 * (N - rhe N U * U) < U ∨ (2 * (N - rhe N U * U) = U ∧ rhe N U % 2 = 0))) ∨ (N < rhe N U * U ∧ (2 * (rhe N U * U - N) < U ∨ (2 * (rhe N U * U - N) = U ∧ rhe N U % 2 = 0))) := by
  have h1 := Nat.div_add_mod N U
  have h2 := Nat.mod_lt N hU
  have h3 : N / U * U = U * (N / U) := Nat.mul_comm _ _
  unfold rhe
  by_cases h : 2 * (N % U) < U ∨ (2 * (N % U) = U ∧ N / U % 2 = 0)
  · rw [if_pos h]
    refine .inl ⟨by omega, ?_⟩
    rcases h with h | ⟨h, h'⟩
    · exact .inl (by omega)
    · exact .inr ⟨by omega, h'⟩
  · rw [if_neg h]
    have h4 : (N / U + 1) * U = U * (N / U) + U := by rw [Nat.add_mul, Nat.one_mul, Nat.mul_comm]
    refine .inr ⟨by omega, ?_⟩
    rw [h4]
    by_cases h5 : 2 * (N % U) = U
    · exact .inr ⟨by omega, by omega⟩
    · exact .inl (by omega)

theorem placesW_move {d : Nat} (hf : finD d) (h0 : absD d ≠ 0) (n : Nat) : placesW d n = if 0 ≤ allX d + n then allD d * 10 ^ (allX d + n).toNat else rhe (allD d) (10 ^ (-(allX d + n)).toNat) := by
  obtain ⟨b1, b2, b3, b4, b5, b6⟩ := allD_bounds hf h0
  have hkd : keepD d n = (ndig (allD d) : Int) + allX d + n := rfl
  unfold placesW
  rw [if_neg h0]
  by_cases h : 0 ≤ allX d + n
  · rw [if_pos h, if_neg (by omega), rowW, if_pos (by omega)]
    congr 2
    omega
  · rw [if_neg h]
    by_cases hk : keepD d n < 0
    · rw [if_pos hk]
      have h1 := ndig_lt (allD d)
      have h2 : 10 ^ ndig (allD d) * 10 ≤ 10 ^ (-(allX d + n)).toNat := by
        rw [← Nat.pow_succ]
        exact Nat.pow_le_pow_right (by decide) (by omega)
      unfold rhe
      rw [Nat.mod_eq_of_lt (by omega), Nat.div_eq_of_lt (by omega), if_pos (.inl (by omega))]
    · rw [if_neg hk, rowW, if_neg (by omega)]
      congr 2
      omega

/-- The number told, against |d| * 10^n. -/
theorem places_near {d : Nat} (hf : finD d) (n down : Nat) (hdown : down = if absD d = 0 then 0 else (-expD d).toNat) {W T P : Nat} (hW : placesW d n = W) (hT : topD d n = T) (hP : 2 ^ down = P) :
    (W * P ≤ T ∧ (2 * (T - W * P) < P ∨ (2 * (T - W * P) = P ∧ W % 2 = 0))) ∨ (T < W * P ∧ (2 * (W * P - T) < P ∨ (2 * (W * P - T) = P ∧ W % 2 = 0))) := by
  have hP0 : 0 < P := by rw [← hP]; exact Nat.pow_pos (by decide)
  by_cases h0 : absD d = 0
  · have hW0 : W = 0 := by rw [← hW]; exact if_pos h0
    have hT0 : T = 0 := by rw [← hT]; unfold topD; rw [mantD_zero.2 h0]; simp
    subst hW0 hT0
    exact .inl ⟨by omega, .inl (by omega)⟩
  rw [if_neg h0] at hdown
  obtain ⟨_, hdec⟩ := allN_dec h0
  rw [← hdown, hP] at hdec
  rw [placesW_move hf h0] at hW
  unfold topD at hT
  by_cases h : 0 ≤ allX d + n
  · rw [if_pos h] at hW
    -- just |d| * 10^n
    have he : W * P = T := by
      rw [← hW, ← hT]
      rcases Int.le_total 0 (allX d) with hx | hx
      · rw [show (-allX d).toNat = 0 by omega, Nat.pow_zero, Nat.mul_one] at hdec
        rw [show (allX d + n).toNat = (allX d).toNat + n by omega, Nat.pow_add]
        have : allD d * (10 ^ (allX d).toNat * 10 ^ n) * P = allD d * 10 ^ (allX d).toNat * P * 10 ^ n := by grind
        rw [this, hdec]
        grind
      · rw [show (allX d).toNat = 0 by omega, Nat.pow_zero, Nat.mul_one] at hdec
        have e1 : n = (allX d + n).toNat + (-allX d).toNat := by omega
        refine Nat.eq_of_mul_eq_mul_right (Nat.pow_pos (n := (-allX d).toNat) (show 0 < 10 by decide)) ?_
        have e2 : allD d * 10 ^ (allX d + n).toNat * P * 10 ^ (-allX d).toNat = allD d * P * (10 ^ (allX d + n).toNat * 10 ^ (-allX d).toNat) := by grind
        rw [e2, ← Nat.pow_add, ← e1, hdec]
        grind
    exact .inl ⟨by omega, .inl (by omega)⟩
  · rw [if_neg h] at hW
    obtain ⟨U, hU⟩ : ∃ U, 10 ^ (-(allX d + n)).toNat = U := ⟨_, rfl⟩
    have hU0 : 0 < U := by rw [← hU]; exact Nat.pow_pos (by decide)
    rw [hU] at hW
    -- D * 2^down = T * U
    have hDU : allD d * P = T * U := by
      rw [show (allX d).toNat = 0 by omega, Nat.pow_zero, Nat.mul_one, show (-allX d).toNat = n + (-(allX d + n)).toNat by omega, Nat.pow_add, hU] at hdec
      rw [hdec, ← hT]
      grind
    have hn := rhe_near (N := allD d) hU0
    rw [hW] at hn
    generalize allD d = D at *
    -- everything times P, then without U
    have key : ∀ a b : Nat, a * U = b * P → (2 * b < U → 2 * a < P) ∧ (2 * b = U → 2 * a = P) := fun a b hab => by
      constructor
      · intro hlt
        refine Nat.lt_of_mul_lt_mul_right (a := U) ?_
        have : 2 * b * P < U * P := Nat.mul_lt_mul_of_pos_right hlt hP0
        have e1 : 2 * a * U = 2 * b * P := by rw [Nat.mul_assoc, hab, Nat.mul_assoc]
        rw [e1, Nat.mul_comm P U]; exact this
      · intro heq
        refine Nat.eq_of_mul_eq_mul_right hU0 ?_
        rw [Nat.mul_assoc, hab, ← Nat.mul_assoc, heq, Nat.mul_comm]
    have hWP : W * P * U = W * U * P := by grind
    rcases hn with ⟨h1, h2⟩ | ⟨h1, h2⟩
    · have hle : W * P ≤ T := by
        refine Nat.le_of_mul_le_mul_right (c := U) ?_ hU0
        rw [hWP, ← hDU]; exact Nat.mul_le_mul_right _ h1
      obtain ⟨k1, k2⟩ := key (T - W * P) (D - W * U) (by rw [Nat.sub_mul, Nat.sub_mul, hWP, hDU])
      exact .inl ⟨hle, h2.imp k1 fun ⟨a, b⟩ => ⟨k2 a, b⟩⟩
    · have hlt : T < W * P := by
        refine Nat.lt_of_mul_lt_mul_right (a := U) ?_
        rw [hWP, ← hDU]; exact Nat.mul_lt_mul_of_pos_right h1 hP0
      obtain ⟨k1, k2⟩ := key (W * P - T) (W * U - D) (by rw [Nat.sub_mul, Nat.sub_mul, hWP, hDU])
      exact .inr ⟨hlt, h2.imp k1 fun ⟨a, b⟩ => ⟨k2 a, b⟩⟩

theorem nearest_walk (d : Int) (n : Nat) (hn : n ≤ 4200) (wh pt : List Int) (w T p near gap tw one : Nat) (side : Int) (ev : Int) (below : Bool)
    (c1 : Meets Tryd.prog 29 [.int .u64 4593671619917905920, .int .i64 2] (.tup [.str [48], .str [49, 50], .int .i64 0])) (c2 : Meets Tryd.prog 21 [] (.bool true))
    (hpl : Meets Tryd.prog 29 [.int .u64 d, .int .i64 (n : Int)] (.tup [.str wh, .str pt, .int .i64 0])) (hfin : Meets Tryd.prog 22 [.int .u64 d] (.bool true))
    (hptl : pt.length = n) (hwl : 0 < wh.length ∧ wh.length ≤ 10000) (hd1 : Meets Tryd.prog 27 [.str wh] (.bool true)) (hd2 : Meets Tryd.prog 27 [.str pt] (.bool true)) (hw0 : 1 < wh.length → wh.getD 0 0 ≠ 48)
    (hread : Meets Tryd.prog 13 [.str (wh ++ pt)] (.tup [.ints .u64 (natL w), .int .i64 0, .int .i64 0]))
    (hsc : Meets Tryd.prog 23 [.int .u64 d, .int .i64 (n : Int)] (.tup [.ints .u64 (natL T), .int .i64 (p : Int)])) (hshl : Meets Tryd.prog 17 [.ints .u64 (natL w), .int .i64 (p : Int)] (.tup [.ints .u64 (natL near), .int .i64 0]))
    (hsub : Meets Tryd.prog 16 [.ints .u64 (natL near), .ints .u64 (natL T)] (.tup [.ints .u64 (if below then [] else natL gap), .int .i64 (if below then 10 else 0)])) (hsub2 : below = true → Meets Tryd.prog 16 [.ints .u64 (natL T), .ints .u64 (natL near)] (.tup [.ints .u64 (natL gap), .int .i64 0]))
    (htw : Meets Tryd.prog 17 [.ints .u64 (natL gap), .int .i64 1] (.tup [.ints .u64 (natL tw), .int .i64 0])) (hone : Meets Tryd.prog 17 [.ints .u64 [1], .int .i64 (p : Int)] (.tup [.ints .u64 (natL one), .int .i64 0]))
    (hcmp : Meets Tryd.prog 15 [.ints .u64 (natL tw), .ints .u64 (natL one)] (.int .i64 side)) (hbit : Meets Tryd.prog 18 [.ints .u64 (natL w), .int .i64 0] (.int .i64 ev)) (hfin2 : side < 0 ∨ side = 0 ∧ ev = 0) :
    Meets Tryd.prog 9 [.int .u64 d, .int .i64 (n : Int)] (.bool true) := by
  generalize natL w = a1 at *
  generalize natL T = a2 at *
  generalize natL near = a3 at *
  generalize natL gap = a4 at *
  generalize natL tw = a5 at *
  generalize natL one = a6 at *
  have hne : decide (wh = []) = false := decide_eq_false fun h => by rw [h] at hwl; simp at hwl
  by_cases hw1 : 1 < wh.length
  · have hh := decide_eq_false (hw0 hw1)
    cases below
    case' true => have hs2 := hsub2 rfl
    case' false => have hs2 := hsub
    all_goals simp only [Bool.false_eq_true, if_false, if_true] at hsub hs2
    all_goals clear hsub2
    all_goals (refine meets_by ttOk Tryd.func9 Tryd.ntmps9 Tryd.results9 (by kernel_rfl) (c := _) rfl rfl rfl fun E => ?_; simp only [argsFrame])
    all_goals
      repeat' first
        | (simp only [hne, hh, hptl, eq_self, decide_true, Bool.not_true, Int.toNat_natCast])
        | (with_reducible first | refine PW.seq ?_ | refine PW.block ?_ | refine PW.fork ?_ | refine PW.skip ?_ | refine PW.exit ?_ | refine PW.ret ?_)
        | (with_reducible refine PW.region ttOk ?_ ?_
           · rfl)
        | (with_reducible refine PW.regionD ttOk mixed ?_ ?_ ?_
           · rfl
           · rfl)
        | (with_reducible refine ifW_dec (fun g => ?_) (fun g => ?_) <;> first | (exfalso; omega) | (simp -dsimp only [g, wkI]))
        | (with_reducible refine condE_dec (fun g => ?_) (fun g => ?_) <;> try (exfalso; omega))
        | (with_reducible refine condE_not (fun g => ?_) (fun g => ?_) <;> try (exfalso; omega))
        | (simp -dsimp only [↓wkA, ↓wkE, wkB, ↓tt, Nat.reduceBEq, Nat.reduceEqDiff, ↓reduceIte, Nat.reduceLT, Array.toList, Nat.reduceAdd, Nat.reduceMul, Int.reduceToNat, Int.reducePow, UInt8.reduceToNat])
        | (refine call_by (c1) (views_data rfl) ⟨trivial, trivial, trivial⟩ rfl ?_)
        | (refine call_by (c2) (views_data rfl) trivial rfl ?_)
        | (refine call_by (hpl) (views_data rfl) ⟨trivial, trivial, trivial⟩ rfl ?_)
        | (refine call_by (hfin) (views_data rfl) ⟨trivial, trivial⟩ rfl ?_)
        | (refine call_by (hd1) (views_data rfl) ⟨trivial, trivial⟩ rfl ?_)
        | (refine call_by (hd2) (views_data rfl) ⟨trivial, trivial⟩ rfl ?_)
        | (refine call_by (hread) (views_data rfl) ⟨trivial, trivial⟩ rfl ?_)
        | (refine call_by (hsc) (views_data rfl) ⟨trivial, trivial, trivial⟩ rfl ?_)
        | (refine call_by (hshl) (views_data rfl) ⟨trivial, trivial, trivial⟩ rfl ?_)
        | (refine call_by (hsub) (views_data rfl) ⟨trivial, trivial, trivial⟩ rfl ?_)
        | (refine call_by (hs2) (views_data rfl) ⟨trivial, trivial, trivial⟩ rfl ?_)
        | (refine call_by (htw) (views_data rfl) ⟨trivial, trivial, trivial⟩ rfl ?_)
        | (refine call_drop (args' := [.ints .u64 [1], .int .i64 (p : Int)]) rfl hone (by simp -dsimp only [okViews, ↓wkA, ↓wkE, wkB, ↓tt, Nat.reduceBEq, Nat.reduceEqDiff, ↓reduceIte, Nat.reduceLT, Array.toList, Nat.reduceAdd, Nat.reduceMul, Int.reduceToNat, Int.reducePow, UInt8.reduceToNat]; decide) rfl ?_)
        | (refine call_by (hcmp) (views_data rfl) ⟨trivial, trivial, trivial⟩ rfl ?_)
        | (refine call_by (hbit) (views_data rfl) ⟨trivial, trivial, trivial⟩ rfl ?_)
        | (simp -dsimp (disch := first | assumption | omega) only [dec_t, dec_f])
        | (refine And.intro ?_ ?_
           · first | omega | decide | (simp (disch := omega) only [wkW, Int.reduceToNat, Int.reducePow] <;> omega) | (simp <;> omega))
        | (simp (disch := omega) only [wkW, Int.reduceToNat, Int.reducePow])
        | fail
    all_goals trace_state
    all_goals sorry
  · cases below
    case' true => have hs2 := hsub2 rfl
    case' false => have hs2 := hsub
    all_goals simp only [Bool.false_eq_true, if_false, if_true] at hsub hs2
    all_goals clear hsub2
    all_goals (refine meets_by ttOk Tryd.func9 Tryd.ntmps9 Tryd.results9 (by kernel_rfl) (c := _) rfl rfl rfl fun E => ?_; simp only [argsFrame])
    all_goals
      repeat' first
        | (simp only [hne, hptl, eq_self, decide_true, Bool.not_true, Int.toNat_natCast])
        | (with_reducible first | refine PW.seq ?_ | refine PW.block ?_ | refine PW.fork ?_ | refine PW.skip ?_ | refine PW.exit ?_ | refine PW.ret ?_)
        | (with_reducible refine PW.region ttOk ?_ ?_
           · rfl)
        | (with_reducible refine PW.regionD ttOk mixed ?_ ?_ ?_
           · rfl
           · rfl)
        | (with_reducible refine ifW_dec (fun g => ?_) (fun g => ?_) <;> first | (exfalso; omega) | (simp -dsimp only [g, wkI]))
        | (with_reducible refine condE_dec (fun g => ?_) (fun g => ?_) <;> try (exfalso; omega))
        | (with_reducible refine condE_not (fun g => ?_) (fun g => ?_) <;> try (exfalso; omega))
        | (simp -dsimp only [↓wkA, ↓wkE, wkB, ↓tt, Nat.reduceBEq, Nat.reduceEqDiff, ↓reduceIte, Nat.reduceLT, Array.toList, Nat.reduceAdd, Nat.reduceMul, Int.reduceToNat, Int.reducePow, UInt8.reduceToNat])
        | (refine call_by (c1) (views_data rfl) ⟨trivial, trivial, trivial⟩ rfl ?_)
        | (refine call_by (c2) (views_data rfl) trivial rfl ?_)
        | (refine call_by (hpl) (views_data rfl) ⟨trivial, trivial, trivial⟩ rfl ?_)
        | (refine call_by (hfin) (views_data rfl) ⟨trivial, trivial⟩ rfl ?_)
        | (refine call_by (hd1) (views_data rfl) ⟨trivial, trivial⟩ rfl ?_)
        | (refine call_by (hd2) (views_data rfl) ⟨trivial, trivial⟩ rfl ?_)
        | (refine call_by (hread) (views_data rfl) ⟨trivial, trivial⟩ rfl ?_)
        | (refine call_by (hsc) (views_data rfl) ⟨trivial, trivial, trivial⟩ rfl ?_)
        | (refine call_by (hshl) (views_data rfl) ⟨trivial, trivial, trivial⟩ rfl ?_)
        | (refine call_by (hsub) (views_data rfl) ⟨trivial, trivial, trivial⟩ rfl ?_)
        | (refine call_by (hs2) (views_data rfl) ⟨trivial, trivial, trivial⟩ rfl ?_)
        | (refine call_by (htw) (views_data rfl) ⟨trivial, trivial, trivial⟩ rfl ?_)
        | (refine call_drop (args' := [.ints .u64 [1], .int .i64 (p : Int)]) rfl hone (by simp -dsimp only [okViews, ↓wkA, ↓wkE, wkB, ↓tt, Nat.reduceBEq, Nat.reduceEqDiff, ↓reduceIte, Nat.reduceLT, Array.toList, Nat.reduceAdd, Nat.reduceMul, Int.reduceToNat, Int.reducePow, UInt8.reduceToNat]; decide) rfl ?_)
        | (refine call_by (hcmp) (views_data rfl) ⟨trivial, trivial, trivial⟩ rfl ?_)
        | (refine call_by (hbit) (views_data rfl) ⟨trivial, trivial, trivial⟩ rfl ?_)
        | (simp -dsimp (disch := first | assumption | omega) only [dec_t, dec_f])
        | (refine And.intro ?_ ?_
           · first | omega | decide | (simp (disch := omega) only [wkW, Int.reduceToNat, Int.reducePow] <;> omega) | (simp <;> omega))
        | (simp (disch := omega) only [wkW, Int.reduceToNat, Int.reducePow])
        | fail
    all_goals trace_state
    all_goals sorry
end Go.Proofs.YtjhkpjddcaglnaaDoor
set_option maxHeartbeats 4000000
set_option maxRecDepth 4000
set_option exponentiation.threshold 300000
set_option linter.unusedVariables false
set_option linter.unusedSimpArgs false
namespace Go.Proofs.YtjhkpjddcaglnaaDoor
open Go Go.PV

/-- Where |d| lies among the powers of ten. -/
theorem top_bounds {d : Nat} (hf : finD d) (h0 : absD d ≠ 0) : -324 ≤ allX d + (ndig (allD d) : Int) - 1 ∧ allX d + (ndig (allD d) : Int) - 1 ≤ 308 ∧ (9 * 10 ^ (ndig (allD d) - 1) ≤ allD d → allX d + (ndig (allD d) : Int) - 1 ≤ 307) := by
  obtain ⟨b1, b2, b3, b4, b5, b6⟩ := allD_bounds hf h0
  obtain ⟨_, hdec⟩ := allN_dec h0
  have hm0 : 0 < mantD d := Nat.pos_of_ne_zero fun e => h0 (mantD_zero.1 e)
  have hm2 : mantD d < 2 ^ 53 := by simpa using mantD_lt d
  have hge := expD_ge d
  have hle := expD_le hf
  have g3 := ndig_lt (allD d)
  have g2 := (ndig_ge b1).2
  -- D * 10^x < 2^1024 * 10^-x
  have hup : allD d * 10 ^ (allX d).toNat < 2 ^ 1024 * 10 ^ (-allX d).toNat := by
    have h1 : allD d * 10 ^ (allX d).toNat ≤ allD d * 10 ^ (allX d).toNat * 2 ^ (-expD d).toNat := Nat.le_mul_of_pos_right _ (Nat.pow_pos (by decide))
    have h4 : mantD d * 2 ^ (expD d).toNat < 2 ^ 1024 := by
      have : 2 ^ (expD d).toNat ≤ 2 ^ 971 := Nat.pow_le_pow_right (by decide) (by omega)
      have h5 : mantD d * 2 ^ (expD d).toNat < 2 ^ 53 * 2 ^ 971 := Nat.lt_of_le_of_lt (Nat.mul_le_mul_left _ this) (Nat.mul_lt_mul_of_pos_right hm2 (Nat.pow_pos (by decide)))
      rwa [← Nat.pow_add] at h5
    rw [hdec] at h1
    exact Nat.lt_of_le_of_lt h1 (Nat.mul_lt_mul_of_pos_right h4 (Nat.pow_pos (by decide)))
  -- 10^-x <= D * 10^x * 2^1074
  have hlow : 10 ^ (-allX d).toNat ≤ allD d * 10 ^ (allX d).toNat * 2 ^ 1074 := by
    have h1 : 10 ^ (-allX d).toNat ≤ mantD d * 2 ^ (expD d).toNat * 10 ^ (-allX d).toNat := Nat.le_mul_of_pos_left _ (Nat.mul_pos hm0 (Nat.pow_pos (by decide)))
    rw [← hdec] at h1
    exact Nat.le_trans h1 (Nat.mul_le_mul_left _ (Nat.pow_le_pow_right (by decide) (by omega)))
  have k1 : (2 : Nat) ^ 1024 < 10 ^ 309 := by decide +kernel
  have k2 : (2 : Nat) ^ 1074 < 10 ^ 324 := by decide +kernel
  have k3 : (2 : Nat) ^ 1024 < 9 * 10 ^ 308 := by decide +kernel
  generalize allD d = D at *
  generalize ndig D = L at *
  generalize allX d = x at *
  refine ⟨?_, ?_, ?_⟩
  · refine Int.not_lt.1 fun hlt => ?_
    have h1 : D * 10 ^ x.toNat * 2 ^ 1074 < 10 ^ L * 10 ^ x.toNat * 10 ^ 324 := by
      have a1 : D * 10 ^ x.toNat < 10 ^ L * 10 ^ x.toNat := Nat.mul_lt_mul_of_pos_right g3 (Nat.pow_pos (by decide))
      exact Nat.lt_of_lt_of_le (Nat.mul_lt_mul_of_pos_right a1 (Nat.pow_pos (by decide))) (Nat.mul_le_mul_left _ (Nat.le_of_lt k2))
    rw [← Nat.pow_add, ← Nat.pow_add] at h1
    have h2 := (Nat.pow_lt_pow_iff_right (show 1 < 10 by decide)).1 (Nat.lt_of_le_of_lt hlow h1)
    omega
  · refine Int.not_lt.1 fun hlt => ?_
    have h1 : 10 ^ (L - 1) * 10 ^ x.toNat < 10 ^ 309 * 10 ^ (-x).toNat := Nat.lt_of_le_of_lt (Nat.mul_le_mul_right _ g2) (Nat.lt_of_lt_of_le hup (Nat.mul_le_mul_right _ (Nat.le_of_lt k1)))
    rw [← Nat.pow_add, ← Nat.pow_add] at h1
    have h2 := (Nat.pow_lt_pow_iff_right (show 1 < 10 by decide)).1 h1
    omega
  · intro h9
    refine Int.not_lt.1 fun hlt => ?_
    have h1 : 9 * 10 ^ (L - 1) * 10 ^ x.toNat < 9 * 10 ^ 308 * 10 ^ (-x).toNat := Nat.lt_of_le_of_lt (Nat.mul_le_mul_right _ h9) (Nat.lt_of_lt_of_le hup (Nat.mul_le_mul_right _ (Nat.le_of_lt k3)))
    rw [Nat.mul_assoc, Nat.mul_assoc, ← Nat.pow_add, ← Nat.pow_add] at h1
    have h2 := (Nat.pow_lt_pow_iff_right (show 1 < 10 by decide)).1 (Nat.lt_of_mul_lt_mul_left h1)
    omega

/-- A digit that is carried out: all but nines. -/
theorem carry_nines {D L n : Nat} (hL : ndig D = L) (h0 : D ≠ 0) (hn : 1 ≤ n) (h : 10 ^ n ≤ rowW D L n) : n < L ∧ 9 * 10 ^ (L - 1) ≤ D ∧ rowW D L (n - 1) = 10 ^ (n - 1) := by
  obtain ⟨b1, b2, b3⟩ := rowW_bounds hL h0 n
  have hnL : n < L := Nat.lt_of_not_le fun hle => by have := b3 hle; omega
  have hW : rowW D L n = 10 ^ n := Nat.le_antisymm b1 h
  have hU0 : 0 < 10 ^ (L - n) := Nat.pow_pos (by decide)
  have g3 := ndig_lt D
  rw [hL] at g3
  have hLn : 10 ^ L = 10 ^ n * 10 ^ (L - n) := by rw [← Nat.pow_add]; congr 1; omega
  -- 2 D >= (2 * 10^n - 1) * U
  have hr : rhe D (10 ^ (L - n)) = 10 ^ n := by rw [← hW, rowW, if_neg (by omega)]
  have hnear := rhe_near (N := D) hU0
  rw [hr] at hnear
  have hge : 2 * (10 ^ n * 10 ^ (L - n)) ≤ 2 * D + 10 ^ (L - n) := by
    rcases hnear with ⟨h1, _⟩ | ⟨h1, h2⟩
    · omega
    · omega
  obtain ⟨m, rfl⟩ : ∃ m, n = m + 1 := ⟨n - 1, by omega⟩
  rw [Nat.add_sub_cancel]
  have hp0 : 0 < 10 ^ m := Nat.pow_pos (by decide)
  have e1 : 10 ^ (L - 1) = 10 ^ m * 10 ^ (L - (m + 1)) := by rw [← Nat.pow_add]; congr 1; omega
  have e2 : 10 ^ (L - m) = 10 ^ (L - (m + 1)) * 10 := by rw [← Nat.pow_succ]; congr 1; omega
  have e3 : 10 ^ (m + 1) = 10 ^ m * 10 := Nat.pow_succ ..
  refine ⟨by omega, ?_, ?_⟩
  · rw [e1]
    rw [e3] at hge
    generalize 10 ^ (L - (m + 1)) = U at *
    generalize 10 ^ m = P at *
    have : P * 10 * U = 10 * (P * U) := by grind
    have : U ≤ P * U := Nat.le_mul_of_pos_left _ hp0
    omega
  · rw [rowW, if_neg (by omega), e2]
    rw [hLn] at g3
    rw [e3] at hge g3
    generalize 10 ^ (L - (m + 1)) = U at *
    generalize 10 ^ m = P at *
    have e4 : P * 10 * U = P * (U * 10) := by grind
    rw [e4] at hge g3
    -- D lies between (P - 1/20) * 10 U and P * 10 U
    have hV : 0 < U * 10 := by omega
    obtain ⟨Q, rfl⟩ : ∃ Q, P = Q + 1 := ⟨P - 1, by omega⟩
    have e5 : (Q + 1) * (U * 10) = Q * (U * 10) + U * 10 := by rw [Nat.add_mul, Nat.one_mul]
    have hq : D / (U * 10) = Q := Nat.div_eq_of_lt_le (by omega) (by omega)
    have hm := Nat.div_add_mod D (U * 10)
    rw [hq, Nat.mul_comm] at hm
    unfold rhe
    rw [hq, if_neg (by omega)]

theorem heads_strip {n W k : Nat} (hW : W < 10 ^ n) (hk : n ≤ k) : digL k W = List.replicate (k - n) 48 ++ digL n W := by
  have := digL_pad (k - n) n W hW
  rwa [show k - n + n = k by omega] at this

theorem heads_walk (d : Int) (n : Nat) (hn : 1 ≤ n ∧ n ≤ 4200) (ab : Int) (hab : ibits .andNot .u64 d 9223372036854775808 = ab) (hab0 : decide (ab = 0) = false) (s : List Int) (k : Int) (hk : -324 ≤ k ∧ k ≤ 308)
    (c1 : Meets Tryd.prog 26 [.int .u64 4652002910794678272, .int .i64 3] (.tup [.str [49, 48, 48], .int .i64 3, .int .i64 0]))
    (hfig : Meets Tryd.prog 26 [.int .u64 d, .int .i64 (n : Int)] (.tup [.str s, .int .i64 k, .int .i64 0])) (hfin : Meets Tryd.prog 22 [.int .u64 d] (.bool true)) (hsl : s.length = n) (hdg : Meets Tryd.prog 27 [.str s] (.bool true)) (hs0 : s.getD 0 0 ≠ 48)
    (wh pt : List Int) (hpl : 0 ≤ (n : Int) - 1 - k → (n : Int) - 1 - k ≤ 4200 → Meets Tryd.prog 29 [.int .u64 d, .int .i64 ((n : Int) - 1 - k)] (.tup [.str wh, .str pt, .int .i64 0])) (q : Nat) (hwp : 0 ≤ (n : Int) - 1 - k → (n : Int) - 1 - k ≤ 4200 → wh ++ pt = List.replicate q 48 ++ s) (hq : wh.length + pt.length ≤ 30000) :
    Meets Tryd.prog 7 [.int .u64 d, .int .i64 (n : Int)] (.bool true) := by
  have w1 : IntKind.wrap .i64 ((n : Int) - 1) = (n : Int) - 1 := wrap_i64 (by omega)
  have w2 : IntKind.wrap .i64 ((n : Int) - 1 - k) = (n : Int) - 1 - k := wrap_i64 (by omega)
  have hd0 : decide (s.getD 0 0 = 48) = false := decide_eq_false hs0
  have hln : decide ((n : Int) = (n : Int)) = true := decide_eq_true rfl
  by_cases hp : (n : Int) - 1 - k < 0 ∨ 4200 < (n : Int) - 1 - k
  · rcases hp with hp | hp
    all_goals (refine meets_by ttOk Tryd.func7 Tryd.ntmps7 Tryd.results7 (by kernel_rfl) (c := _) rfl rfl rfl fun E => ?_; simp only [argsFrame])
    all_goals
      repeat' first
        | (simp only [w1, w2, hab, hab0, hsl, hd0, hln, Int.toNat_natCast])
        | (with_reducible first | refine PW.seq ?_ | refine PW.block ?_ | refine PW.fork ?_ | refine PW.skip ?_ | refine PW.exit ?_ | refine PW.ret ?_)
        | (with_reducible refine PW.region ttOk ?_ ?_
           · rfl)
        | (with_reducible refine PW.regionD ttOk mixed ?_ ?_ ?_
           · rfl
           · rfl)
        | (with_reducible refine ifW_dec (fun g => ?_) (fun g => ?_) <;> first | (exfalso; omega) | (simp -dsimp only [g, wkI]))
        | (with_reducible refine condE_dec (fun g => ?_) (fun g => ?_) <;> try (exfalso; omega))
        | (with_reducible refine condE_not (fun g => ?_) (fun g => ?_) <;> try (exfalso; omega))
        | (simp -dsimp only [↓wkA, ↓wkE, wkB, ↓tt, Nat.reduceBEq, Nat.reduceEqDiff, ↓reduceIte, Nat.reduceLT, Array.toList, Nat.reduceAdd, Nat.reduceMul, Int.reduceToNat, Int.reducePow, UInt8.reduceToNat])
        | (refine call_by (c1) (views_data rfl) ⟨trivial, trivial, trivial⟩ rfl ?_)
        | (refine call_by (hfig) (views_data rfl) ⟨trivial, trivial, trivial⟩ rfl ?_)
        | (refine call_by (hfin) (views_data rfl) ⟨trivial, trivial⟩ rfl ?_)
        | (refine call_by (hdg) (views_data rfl) ⟨trivial, trivial⟩ rfl ?_)
        | (simp -dsimp (disch := first | assumption | omega) only [dec_t, dec_f])
        | (refine And.intro ?_ ?_
           · first | omega | decide | (simp (disch := omega) only [wkW, Int.reduceToNat, Int.reducePow] <;> omega) | (simp <;> omega))
        | (simp (disch := omega) only [wkW, Int.reduceToNat, Int.reducePow])
        | fail
  · have hP := hpl (by omega) (by omega)
    have hW := hwp (by omega) (by omega)
    have hlq : q + s.length = wh.length + pt.length := by have := congrArg List.length hW; simp at this; omega
    generalize hall : wh ++ pt = al at *
    refine meets_by ttOk Tryd.func7 Tryd.ntmps7 Tryd.results7 (by kernel_rfl) (c := _) rfl rfl rfl fun E => ?_
    simp only [argsFrame]
    repeat' first
      | (simp only [w1, w2, hab, hab0, hsl, hd0, hln, hall, Int.toNat_natCast])
      | (with_reducible first | refine PW.seq ?_ | refine PW.block ?_ | refine PW.fork ?_ | refine PW.skip ?_ | refine PW.exit ?_ | refine PW.ret ?_)
      | (with_reducible refine PW.region ttOk ?_ ?_
         · rfl)
      | (with_reducible refine PW.regionD ttOk mixed ?_ ?_ ?_
         · rfl
         · rfl)
      | (with_reducible refine ifW_dec (fun g => ?_) (fun g => ?_) <;> first | (exfalso; omega) | (simp -dsimp only [g, wkI]))
      | (with_reducible refine condE_dec (fun g => ?_) (fun g => ?_) <;> try (exfalso; omega))
      | (with_reducible refine condE_not (fun g => ?_) (fun g => ?_) <;> try (exfalso; omega))
      | (simp -dsimp only [↓wkA, ↓wkE, wkB, ↓tt, Nat.reduceBEq, Nat.reduceEqDiff, ↓reduceIte, Nat.reduceLT, Array.toList, Nat.reduceAdd, Nat.reduceMul, Int.reduceToNat, Int.reducePow, UInt8.reduceToNat])
      | (refine call_by (c1) (views_data rfl) ⟨trivial, trivial, trivial⟩ rfl ?_)
      | (refine call_by (hfig) (views_data rfl) ⟨trivial, trivial, trivial⟩ rfl ?_)
      | (refine call_by (hfin) (views_data rfl) ⟨trivial, trivial⟩ rfl ?_)
      | (refine call_by (hdg) (views_data rfl) ⟨trivial, trivial⟩ rfl ?_)
      | (refine call_by (hP) (views_data rfl) ⟨trivial, trivial, trivial⟩ rfl ?_)
      | (simp -dsimp (disch := first | assumption | omega) only [dec_t, dec_f])
      | (refine And.intro ?_ ?_
         · first | omega | decide | (simp (disch := omega) only [wkW, Int.reduceToNat, Int.reducePow] <;> omega) | (simp <;> omega))
      | (simp (disch := omega) only [wkW, Int.reduceToNat, Int.reducePow])
      | fail
    refine PW.loopA (fun m F H => F = [(12, .str (List.replicate m 48 ++ s)), (1, .int .i64 (n : Int)), (5, .str s)] ∧ m ≤ q ∧ H = ⟨0, [], [], []⟩) q [(12, .str (List.replicate q 48 ++ s)), (1, .int .i64 (n : Int)), (5, .str s)] ⟨0, [], [], []⟩ (Sub.norm ⟨congrArg PV.str hW, rfl, rfl, trivial⟩ trivial (Nat.zero_le _) rfl rfl rfl rfl) ⟨rfl, Nat.le_refl _, rfl⟩ ?_
    rintro m F H ⟨rfl, hmq, rfl⟩
    cases m with
    | zero =>
      have e0 : List.replicate 0 (48 : Int) ++ s = s := by simp
      have ess : decide (s = s) = true := decide_eq_true rfl
      rw [e0]
      repeat' first
        | (simp only [hsl, hd0, ess, eq_self, decide_true])
        | (with_reducible first | refine PW.seq ?_ | refine PW.block ?_ | refine PW.fork ?_ | refine PW.skip ?_ | refine PW.exit ?_ | refine PW.ret ?_)
        | (with_reducible refine PW.region ttOk ?_ ?_
           · rfl)
        | (with_reducible refine PW.regionD ttOk mixed ?_ ?_ ?_
           · rfl
           · rfl)
        | (with_reducible refine ifW_dec (fun g => ?_) (fun g => ?_) <;> first | (exfalso; omega) | (simp -dsimp only [g, wkI]))
        | (with_reducible refine condE_dec (fun g => ?_) (fun g => ?_) <;> try (exfalso; omega))
        | (with_reducible refine condE_not (fun g => ?_) (fun g => ?_) <;> try (exfalso; omega))
        | (simp -dsimp only [↓wkA, ↓wkE, wkB, ↓tt, Nat.reduceBEq, Nat.reduceEqDiff, ↓reduceIte, Nat.reduceLT, Array.toList, Nat.reduceAdd, Nat.reduceMul, Int.reduceToNat, Int.reducePow, UInt8.reduceToNat])
        | (simp -dsimp (disch := first | assumption | omega) only [dec_t, dec_f])
        | (refine And.intro ?_ ?_
           · first | omega | decide | (simp (disch := omega) only [wkW, Int.reduceToNat, Int.reducePow] <;> omega) | (simp <;> omega))
        | (simp (disch := omega) only [wkW, Int.reduceToNat, Int.reducePow])
        | fail
    | succ m =>
      have e1 : List.replicate (m + 1) (48 : Int) ++ s = 48 :: (List.replicate m 48 ++ s) := by rw [List.replicate_succ]; rfl
      have hl1 : (48 :: (List.replicate m (48 : Int) ++ s)).length = m + 1 + n := by simp [hsl]; omega
      have hl2 : (List.replicate m (48 : Int) ++ s).length = m + n := by simp [hsl]
      have htk : List.take (List.replicate m (48 : Int) ++ s).length (List.replicate m (48 : Int) ++ s) = List.replicate m (48 : Int) ++ s := List.take_length
      rw [e1]
      generalize hr : List.replicate m (48 : Int) ++ s = r at *
      repeat' first
        | (simp only [List.drop_succ_cons, List.drop_zero, List.getD_cons_zero, htk])
        | (with_reducible first | refine PW.seq ?_ | refine PW.block ?_ | refine PW.fork ?_ | refine PW.skip ?_ | refine PW.exit ?_ | refine PW.ret ?_)
        | (with_reducible refine PW.region ttOk ?_ ?_
           · rfl)
        | (with_reducible refine PW.regionD ttOk mixed ?_ ?_ ?_
           · rfl
           · rfl)
        | (with_reducible refine ifW_dec (fun g => ?_) (fun g => ?_) <;> first | (exfalso; omega) | (simp -dsimp only [g, wkI]))
        | (with_reducible refine condE_dec (fun g => ?_) (fun g => ?_) <;> try (exfalso; omega))
        | (with_reducible refine condE_not (fun g => ?_) (fun g => ?_) <;> try (exfalso; omega))
        | (simp -dsimp only [↓wkA, ↓wkE, wkB, ↓tt, Nat.reduceBEq, Nat.reduceEqDiff, ↓reduceIte, Nat.reduceLT, Array.toList, Nat.reduceAdd, Nat.reduceMul, Int.reduceToNat, Int.reducePow, UInt8.reduceToNat])
        | (simp -dsimp (disch := first | assumption | omega) only [dec_t, dec_f])
        | (refine And.intro ?_ ?_
           · first | omega | decide | (simp (disch := omega) only [wkW, Int.reduceToNat, Int.reducePow] <;> omega) | (simp <;> omega))
        | (simp (disch := omega) only [wkW, Int.reduceToNat, Int.reducePow])
        | fail
      exact Again.mk m [(12, .str r), (1, .int .i64 (n : Int)), (5, .str s)] ⟨0, [], [], []⟩ (by omega) (Sub.norm ⟨rfl, rfl, rfl, trivial⟩ trivial (Nat.zero_le _) rfl rfl rfl rfl) ⟨congrArg (fun r => [(12, PV.str r), (1, PV.int .i64 (n : Int)), (5, PV.str s)]) hr.symm, by omega, rfl⟩

theorem fig_const : figP 4652002910794678272 3 = .tup [.str [49, 48, 48], .int .i64 3, .int .i64 0] := by
  obtain ⟨e1, e2⟩ := allD_of (d := 4652002910794678272) (D := 9995) (x := -1) (by decide) ⟨by decide, by decide⟩
  have e3 : ndig 9995 = 4 := ndig_of (k := 3) (by decide) (by decide)
  unfold figP figW
  rw [if_pos (by decide), if_neg (by decide), if_neg (by decide), e1, e2, e3, show (3 : Int).toNat = 3 from rfl, show rowW 9995 4 3 = 1000 by decide, if_pos (by decide)]
  rfl

theorem padZ_heads {n p W : Nat} (h1 : W < 10 ^ n) (h2 : n ≠ 0 → 10 ^ (n - 1) ≤ W) (hn : 1 ≤ n) : ∃ q, written 10 false (W / 10 ^ p) ++ digL p W = List.replicate q 48 ++ digL n W ∧ q ≤ p + 1 := by
  obtain ⟨a, b⟩ := padZ_text p W
  rw [← a, ← b, List.take_append_drop]
  have hT := text_k h1 h2
  unfold padZ
  rw [hT, digL_len]
  by_cases h : n ≤ p
  · rw [if_pos h]
    exact ⟨p + 1 - n, rfl, by omega⟩
  · rw [if_neg h]
    exact ⟨0, by simp, by omega⟩

theorem fixed_heads (d : Nat) (hd : d < 18446744073709551616) (n : Int) (hnn : -9223372036854775808 ≤ n ∧ n ≤ 9223372036854775807) : Meets Tryd.prog 7 [.int .u64 (d : Int), .int .i64 n] (.bool true) := by
  have c1 : Meets Tryd.prog 26 [.int .u64 4652002910794678272, .int .i64 3] (.tup [.str [49, 48, 48], .int .i64 3, .int .i64 0]) := by
    have h := fixed_figures 4652002910794678272 (by decide) 3
    rw [fig_const] at h
    exact h
  have hfig := fixed_figures d hd n
  have hfin := law11_finite d hd
  have hab := andNot_sign hd
  unfold figP at hfig
  by_cases hf : finD d
  case neg =>
    rw [decide_eq_false hf] at hfin
    rw [if_neg hf] at hfig
    refine meets_by ttOk Tryd.func7 Tryd.ntmps7 Tryd.results7 (by kernel_rfl) (c := _) rfl rfl rfl fun E => ?_
    simp only [argsFrame]
    repeat' first
      | (simp only [eq_self, decide_true])
      | (with_reducible first | refine PW.seq ?_ | refine PW.block ?_ | refine PW.fork ?_ | refine PW.skip ?_ | refine PW.exit ?_ | refine PW.ret ?_)
      | (with_reducible refine PW.region ttOk ?_ ?_
         · rfl)
      | (with_reducible refine PW.regionD ttOk mixed ?_ ?_ ?_
         · rfl
         · rfl)
      | (with_reducible refine ifW_dec (fun g => ?_) (fun g => ?_) <;> first | (exfalso; omega) | (simp -dsimp only [g, wkI]))
      | (with_reducible refine condE_dec (fun g => ?_) (fun g => ?_) <;> try (exfalso; omega))
      | (with_reducible refine condE_not (fun g => ?_) (fun g => ?_) <;> try (exfalso; omega))
      | (simp -dsimp only [↓wkA, ↓wkE, wkB, ↓tt, Nat.reduceBEq, Nat.reduceEqDiff, ↓reduceIte, Nat.reduceLT, Array.toList, Nat.reduceAdd, Nat.reduceMul, Int.reduceToNat, Int.reducePow, UInt8.reduceToNat])
      | (refine call_by (c1) (views_data rfl) ⟨trivial, trivial, trivial⟩ rfl ?_)
      | (refine call_by (hfig) (views_data rfl) ⟨trivial, trivial, trivial⟩ rfl ?_)
      | (refine call_by (hfin) (views_data rfl) ⟨trivial, trivial⟩ rfl ?_)
      | (simp -dsimp (disch := first | assumption | omega) only [dec_t, dec_f])
      | (refine And.intro ?_ ?_
         · first | omega | decide | (simp (disch := omega) only [wkW, Int.reduceToNat, Int.reducePow] <;> omega) | (simp <;> omega))
      | (simp (disch := omega) only [wkW, Int.reduceToNat, Int.reducePow])
      | fail
  rw [decide_eq_true hf] at hfin
  rw [if_pos hf] at hfig
  by_cases hn : n < 1 ∨ 4200 < n
  · rw [if_pos hn] at hfig
    clear hf
    rcases hn with hn | hn
    all_goals (refine meets_by ttOk Tryd.func7 Tryd.ntmps7 Tryd.results7 (by kernel_rfl) (c := _) rfl rfl rfl fun E => ?_; simp only [argsFrame])
    all_goals
      repeat' first
        | (simp only [eq_self, decide_true])
        | (with_reducible first | refine PW.seq ?_ | refine PW.block ?_ | refine PW.fork ?_ | refine PW.skip ?_ | refine PW.exit ?_ | refine PW.ret ?_)
        | (with_reducible refine PW.region ttOk ?_ ?_
           · rfl)
        | (with_reducible refine PW.regionD ttOk mixed ?_ ?_ ?_
           · rfl
           · rfl)
        | (with_reducible refine ifW_dec (fun g => ?_) (fun g => ?_) <;> first | (exfalso; omega) | (simp -dsimp only [g, wkI]))
        | (with_reducible refine condE_dec (fun g => ?_) (fun g => ?_) <;> try (exfalso; omega))
        | (with_reducible refine condE_not (fun g => ?_) (fun g => ?_) <;> try (exfalso; omega))
        | (simp -dsimp only [↓wkA, ↓wkE, wkB, ↓tt, Nat.reduceBEq, Nat.reduceEqDiff, ↓reduceIte, Nat.reduceLT, Array.toList, Nat.reduceAdd, Nat.reduceMul, Int.reduceToNat, Int.reducePow, UInt8.reduceToNat])
        | (refine call_by (c1) (views_data rfl) ⟨trivial, trivial, trivial⟩ rfl ?_)
        | (refine call_by (hfig) (views_data rfl) ⟨trivial, trivial, trivial⟩ rfl ?_)
        | (refine call_by (hfin) (views_data rfl) ⟨trivial, trivial⟩ rfl ?_)
        | (simp -dsimp (disch := first | assumption | omega) only [dec_t, dec_f])
        | (refine And.intro ?_ ?_
           · first | omega | decide | (simp (disch := omega) only [wkW, Int.reduceToNat, Int.reducePow] <;> omega) | (simp <;> omega))
        | (simp (disch := omega) only [wkW, Int.reduceToNat, Int.reducePow])
        | fail
  rw [if_neg hn] at hfig
  obtain ⟨n, rfl⟩ := Int.eq_ofNat_of_zero_le (show 0 ≤ n by omega)
  rw [Int.toNat_natCast] at hfig
  by_cases h0 : absD d = 0
  · rw [if_pos h0] at hfig
    have hz : decide ((absD d : Int) = 0) = true := decide_eq_true (by omega)
    have hzs := law11_zeros n (by omega)
    have hdg := law11_digits (List.replicate n 48) (digs_zeros n) (by simp; omega)
    have hl : (List.replicate n (48 : Int)).length = n := List.length_replicate
    clear hf h0
    generalize List.replicate n (48 : Int) = R at *
    generalize (absD d : Int) = ab at *
    have hln : decide ((n : Int) = (n : Int)) = true := decide_eq_true rfl
    have hRR : decide (R = R) = true := decide_eq_true rfl
    refine meets_by ttOk Tryd.func7 Tryd.ntmps7 Tryd.results7 (by kernel_rfl) (c := _) rfl rfl rfl fun E => ?_
    simp only [argsFrame]
    repeat' first
      | (simp only [hab, hz, hl, hln, hRR, eq_self, decide_true])
      | (with_reducible first | refine PW.seq ?_ | refine PW.block ?_ | refine PW.fork ?_ | refine PW.skip ?_ | refine PW.exit ?_ | refine PW.ret ?_)
      | (with_reducible refine PW.region ttOk ?_ ?_
         · rfl)
      | (with_reducible refine PW.regionD ttOk mixed ?_ ?_ ?_
         · rfl
         · rfl)
      | (with_reducible refine ifW_dec (fun g => ?_) (fun g => ?_) <;> first | (exfalso; omega) | (simp -dsimp only [g, wkI]))
      | (with_reducible refine condE_dec (fun g => ?_) (fun g => ?_) <;> try (exfalso; omega))
      | (with_reducible refine condE_not (fun g => ?_) (fun g => ?_) <;> try (exfalso; omega))
      | (simp -dsimp only [↓wkA, ↓wkE, wkB, ↓tt, Nat.reduceBEq, Nat.reduceEqDiff, ↓reduceIte, Nat.reduceLT, Array.toList, Nat.reduceAdd, Nat.reduceMul, Int.reduceToNat, Int.reducePow, UInt8.reduceToNat])
      | (refine call_by (c1) (views_data rfl) ⟨trivial, trivial, trivial⟩ rfl ?_)
      | (refine call_by (hfig) (views_data rfl) ⟨trivial, trivial, trivial⟩ rfl ?_)
      | (refine call_by (hfin) (views_data rfl) ⟨trivial, trivial⟩ rfl ?_)
      | (refine call_by (hdg) (views_data rfl) ⟨trivial, trivial⟩ rfl ?_)
      | (refine call_by (hzs) (views_data rfl) ⟨trivial, trivial⟩ rfl ?_)
      | (simp -dsimp (disch := first | assumption | omega) only [dec_t, dec_f])
      | (refine And.intro ?_ ?_
         · first | omega | decide | (simp (disch := omega) only [wkW, Int.reduceToNat, Int.reducePow] <;> omega) | (simp <;> omega))
      | (simp (disch := omega) only [wkW, Int.reduceToNat, Int.reducePow])
      | fail
  rw [if_neg h0] at hfig
  have hab0 : decide ((absD d : Int) = 0) = false := decide_eq_false (by omega)
  obtain ⟨b1, b2, b3, b4, b5, b6⟩ := allD_bounds hf h0
  obtain ⟨t1, t2, t3⟩ := top_bounds hf h0
  obtain ⟨r1, r2, r3⟩ := rowW_bounds (D := allD d) rfl b1 n
  -- the digits told, their number, the power of the first
  obtain ⟨W, k, hW1, hW2, hfig2, hk, hpw⟩ : ∃ (W : Nat) (k : Int), W < 10 ^ n ∧ 10 ^ (n - 1) ≤ W ∧ Meets Tryd.prog 26 [.int .u64 (d : Int), .int .i64 (n : Int)] (.tup [.str (digL n W), .int .i64 k, .int .i64 0]) ∧ (-324 ≤ k ∧ k ≤ 308) ∧ ∀ p : Nat, (p : Int) = (n : Int) - 1 - k → placesW d p = W := by
    unfold figW at hfig
    by_cases hc : 10 ^ n ≤ rowW (allD d) (ndig (allD d)) n
    · rw [if_pos hc] at hfig
      obtain ⟨g1, g2, g3⟩ := carry_nines rfl b1 (by omega) hc
      have h307 := t3 g2
      have e : rowW (allD d) (ndig (allD d)) n = 10 ^ n := Nat.le_antisymm r1 hc
      have e2 : rowW (allD d) (ndig (allD d)) n / 10 = 10 ^ (n - 1) := by
        rw [e]
        obtain ⟨m, hm⟩ : ∃ m, n = m + 1 := ⟨n - 1, by omega⟩
        rw [hm, Nat.add_sub_cancel, Nat.pow_succ, Nat.mul_div_cancel _ (by decide)]
      rw [e2] at hfig
      refine ⟨10 ^ (n - 1), _, Nat.pow_lt_pow_right (by decide) (by omega), Nat.le_refl _, hfig, by omega, fun p hp => ?_⟩
      have hkp : keepD d p = ((n - 1 : Nat) : Int) := by unfold keepD; omega
      unfold placesW
      rw [if_neg h0, if_neg (by omega), hkp, Int.toNat_natCast]
      exact g3
    · rw [if_neg hc] at hfig
      refine ⟨_, _, Nat.lt_of_not_le hc, r2 (by omega), hfig, by omega, fun p hp => ?_⟩
      have hkp : keepD d p = (n : Int) := by unfold keepD; omega
      unfold placesW
      rw [if_neg h0, if_neg (by omega), hkp, Int.toNat_natCast]
  have hsl := digL_len n W
  have hdg := law11_digits (digL n W) (digL_digs n W) (by omega)
  have hs0 : (digL n W).getD 0 0 ≠ 48 := by
    have hW0 : W ≠ 0 := by have := Nat.pow_pos (n := n - 1) (show 0 < 10 by decide); omega
    rw [← text_k hW1 (fun _ => hW2)]
    exact text_head (by decide) false W hW0
  obtain ⟨p, hp⟩ : ∃ p : Nat, p = ((n : Int) - 1 - k).toNat := ⟨_, rfl⟩
  obtain ⟨q, hq1, hq2⟩ := padZ_heads (n := n) (p := p) hW1 (fun _ => hW2) (by omega)
  have hql := congrArg List.length hq1
  rw [List.length_append, List.length_append, List.length_replicate, hsl] at hql
  refine heads_walk (d : Int) n (by omega) _ hab hab0 (digL n W) k hk c1 hfig2 hfin hsl hdg hs0 (written 10 false (W / 10 ^ p)) (digL p W) (fun h1 h2 => ?_) q (fun h1 h2 => hq1) (by omega)
  have hpl := fixed_places d hd p
  unfold placesP at hpl
  rw [if_pos hf, if_neg (by omega), Int.toNat_natCast, hpw p (by omega), show ((p : Nat) : Int) = (n : Int) - 1 - k by omega] at hpl
  exact hpl
end Go.Proofs.YtjhkpjddcaglnaaDoor
set_option maxHeartbeats 4000000
set_option maxRecDepth 4000
set_option exponentiation.threshold 300000
set_option linter.unusedVariables false
set_option linter.unusedSimpArgs false
namespace Go.Proofs.YtjhkpjddcaglnaaDoor
open Go Go.PV

theorem rhe_scale {N U c : Nat} (hc : 0 < c) : rhe (N * c) (U * c) = rhe N U := by
  unfold rhe
  rw [Nat.mul_mod_mul_right, Nat.mul_div_mul_right _ _ hc]
  have e1 : 2 * (N % U * c) < U * c ↔ 2 * (N % U) < U := by rw [← Nat.mul_assoc]; exact Nat.mul_lt_mul_right hc
  have e2 : 2 * (N % U * c) = U * c ↔ 2 * (N % U) = U := by rw [← Nat.mul_assoc]; exact Nat.mul_left_inj (Nat.ne_of_gt hc)
  by_cases h : 2 * (N % U) < U ∨ (2 * (N % U) = U ∧ N / U % 2 = 0)
  · rw [if_pos h, if_pos (h.imp e1.2 fun ⟨a, b⟩ => ⟨e2.2 a, b⟩)]
  · rw [if_neg h, if_neg (fun h2 => h (h2.imp e1.1 fun ⟨a, b⟩ => ⟨e2.1 a, b⟩))]
theorem rhe_exact {a U : Nat} (hU : 0 < U) : rhe (a * U) U = a := by
  unfold rhe
  rw [Nat.mul_mod_left, Nat.mul_div_cancel _ hU, if_pos (.inl (by omega))]
theorem rowW_zeros {D L n k : Nat} : rowW (D * 10 ^ n) (L + n) k = rowW D L k := by
  unfold rowW
  by_cases h1 : L + n ≤ k
  · rw [if_pos h1, if_pos (by omega), Nat.mul_assoc, ← Nat.pow_add]
    congr 2
    omega
  · rw [if_neg h1]
    by_cases h2 : L ≤ k
    · rw [if_pos h2, show n = (k - L) + (L + n - k) by omega, Nat.pow_add, ← Nat.mul_assoc]
      rw [show L + (k - L + (L + n - k)) - k = L + n - k by omega]
      exact rhe_exact (Nat.pow_pos (by decide))
    · rw [if_neg h2, show L + n - k = (L - k) + n by omega, Nat.pow_add]
      exact rhe_scale (Nat.pow_pos (by decide))

theorem rounded_whole (s : List Int) (hs : Digs s) (hsl : s.length ≤ 100000) : Meets Tryd.prog 30 [.str s, .int .i64 (s.length : Int)] (.str s) := by
  have h1 : s.take s.length = s := List.take_length
  have h2 : s.drop s.length = [] := List.drop_length
  have hby : s.map PV.byteOf = s := byteOf_list (digs_bytes hs)
  refine meets_by ttOk Tryd.func30 Tryd.ntmps30 Tryd.results30 (by kernel_rfl) (c := _) rfl rfl rfl fun E => ?_
  simp only [argsFrame]
  repeat' first
    | (simp only [h1, h2, hby, List.take_nil, eq_self, decide_true, Int.toNat_natCast])
    | (with_reducible first | refine PW.seq ?_ | refine PW.block ?_ | refine PW.fork ?_ | refine PW.skip ?_ | refine PW.exit ?_ | refine PW.ret ?_)
    | (with_reducible refine PW.region ttOk ?_ ?_
       · rfl)
    | (with_reducible refine PW.regionD ttOk mixed ?_ ?_ ?_
       · rfl
       · rfl)
    | (with_reducible refine ifW_dec (fun g => ?_) (fun g => ?_) <;> first | (exfalso; omega) | (simp -dsimp only [g, wkI]))
    | (with_reducible refine condE_dec (fun g => ?_) (fun g => ?_) <;> try (exfalso; omega))
    | (with_reducible refine condE_not (fun g => ?_) (fun g => ?_) <;> try (exfalso; omega))
    | (simp -dsimp only [↓wkA, ↓wkE, wkB, ↓tt, Nat.reduceBEq, Nat.reduceEqDiff, ↓reduceIte, Nat.reduceLT, Array.toList, Nat.reduceAdd, Nat.reduceMul, Int.reduceToNat, Int.reducePow, UInt8.reduceToNat])
    | (simp -dsimp (disch := first | assumption | omega) only [dec_t, dec_f])
    | (refine And.intro ?_ ?_
       · first | omega | decide | (simp (disch := omega) only [wkW, Int.reduceToNat, Int.reducePow] <;> omega) | (simp <;> omega))
    | (simp (disch := omega) only [wkW, Int.reduceToNat, Int.reducePow])
    | fail

theorem law11_rounded (s : List Int) (hs : Digs s) (hsl : s.length ≤ 100000) (k : Nat) (hk : k < s.length) (z : Nat) (hz : z = 1 ↔ AllZ (s.drop (k + 1))) :
    Meets Tryd.prog 30 [.str s, .int .i64 (k : Int)] (.str ((if (roundR s k 0 z).2 then [49] else []) ++ (roundR s k 0 z).1)) := by
  have htl : (s.take k).length = k := by rw [List.length_take]; omega
  have hdl : (s.drop k).length = s.length - k := List.length_drop
  have hg0 : (s.drop k).getD 0 0 = s.getD k 0 := by rw [getD_drop', Nat.add_zero]
  have hx := digs_get hs hk
  have hne : decide (s.drop k = []) = false := decide_eq_false fun h => by rw [h] at hdl; simp at hdl; omega
  have htk : List.take (s.length - k) (s.drop k) = s.drop k := List.take_of_length_le (by omega)
  have hby : (s.take k).map PV.byteOf = s.take k := byteOf_list (digs_bytes (digs_take hs k))
  have hd := digs_take hs k
  obtain ⟨u, hu⟩ : ∃ u, upD (s.take k) k = u := ⟨_, rfl⟩
  have hz2 : z = 1 ↔ ∀ j, 1 ≤ j → j < (s.drop k).length → (s.drop k).getD j 0 = 48 := by
    rw [hz]
    unfold AllZ
    have hgj : ∀ j, (s.drop (k + 1)).getD j 0 = (s.drop k).getD (j + 1) 0 := fun j => by rw [getD_drop', getD_drop']; congr 1; omega
    constructor
    · intro h j h1 h2
      have := h (j - 1) (by rw [List.length_drop] at h2 ⊢; omega)
      rwa [hgj, show j - 1 + 1 = j by omega] at this
    · intro h j hj
      rw [hgj]
      exact h (j + 1) (by omega) (by rw [List.length_drop] at hj ⊢; omega)
  unfold roundR
  rw [hu]
  have hy : 0 < k → (s.take k).getD (k - 1) 0 = s.getD (k - 1) 0 ∧ 48 ≤ s.getD (k - 1) 0 ∧ s.getD (k - 1) 0 ≤ 57 := fun h => ⟨getD_take' (by omega), digs_get hs (by omega)⟩
  have w1 : 0 < k → IntKind.wrap .i64 ((k : Int) - 1) = ((k - 1 : Nat) : Int) := fun h => by rw [wrap_i64 (by omega)]; omega
  generalize hs1 : s.take k = t1 at *
  generalize hs2 : s.drop k = t2 at *
  generalize hx0 : s.getD k 0 = x at *
  generalize hy0 : s.getD (k - 1) 0 = y at *
  have hl2 : t2.length ≤ 100000 := by omega
  have hl1 : 1 ≤ t2.length := by omega
  have hu2 : (if u.2 = true then [49] else []) ++ u.1 = if u.2 = true then 49 :: u.1 else u.1 := by split <;> rfl
  have hcut1 : ∀ B : Prop, [Decidable B] → (if (if B then (t1, false) else u).2 = true then [49] else []) ++ (if B then (t1, false) else u).1 = if B then t1 else (if u.2 = true then 49 :: u.1 else u.1) := fun B _ => by
    by_cases hB : B
    · rw [if_pos hB, if_pos hB]; rfl
    · rw [if_neg hB, if_neg hB]; exact hu2
  rw [hcut1]
  clear hcut1 hu2
  by_cases h53 : x < 53
  · rw [if_pos (Or.inl h53)]
    refine meets_by ttOk Tryd.func30 Tryd.ntmps30 Tryd.results30 (by kernel_rfl) (c := _) rfl rfl rfl fun E => ?_
    simp only [argsFrame]
    repeat' first
      | (simp only [hs1, hs2, hdl, hg0, hby, hne, htk, Int.toNat_natCast])
      | (with_reducible first | refine PW.seq ?_ | refine PW.block ?_ | refine PW.fork ?_ | refine PW.skip ?_ | refine PW.exit ?_ | refine PW.ret ?_)
      | (with_reducible refine PW.region ttOk ?_ ?_
         · rfl)
      | (with_reducible refine PW.regionD ttOk mixed ?_ ?_ ?_
         · rfl
         · rfl)
      | (with_reducible refine ifW_dec (fun g => ?_) (fun g => ?_) <;> first | (exfalso; omega) | (simp -dsimp only [g, wkI]))
      | (with_reducible refine condE_dec (fun g => ?_) (fun g => ?_) <;> try (exfalso; omega))
      | (with_reducible refine condE_not (fun g => ?_) (fun g => ?_) <;> try (exfalso; omega))
      | (simp -dsimp only [↓wkA, ↓wkE, wkB, ↓tt, Nat.reduceBEq, Nat.reduceEqDiff, ↓reduceIte, Nat.reduceLT, Array.toList, Nat.reduceAdd, Nat.reduceMul, Int.reduceToNat, Int.reducePow, UInt8.reduceToNat])
      | (simp -dsimp (disch := first | assumption | omega) only [dec_t, dec_f])
      | (refine And.intro ?_ ?_
         · first | omega | decide | (simp (disch := omega) only [wkW, Int.reduceToNat, Int.reducePow] <;> omega) | (simp <;> omega))
      | (simp (disch := omega) only [wkW, Int.reduceToNat, Int.reducePow])
      | fail
  have hres : ∀ h : Bool, (h = true ↔ x = 53 ∧ z = 1) → (if x < 53 ∨ (x = 53 ∧ (0 : Nat) ≠ 1 ∧ z = 1 ∧ ¬ (0 < k ∧ (y - 48) % 2 = 1)) then t1 else (if u.2 = true then 49 :: u.1 else u.1)) = if h = true ∧ (k = 0 ∨ y % 2 = 0) then t1 else (if u.2 = true then 49 :: u.1 else u.1) := fun h hh => by
    by_cases hc : h = true ∧ (k = 0 ∨ y % 2 = 0)
    · rw [if_pos hc, if_pos (.inr ⟨(hh.1 hc.1).1, by decide, (hh.1 hc.1).2, by omega⟩)]
    · rw [if_neg hc, if_neg (fun h2 => hc (h2.elim (fun h3 => absurd h3 h53) fun ⟨a, _, b, c⟩ => ⟨hh.2 ⟨a, b⟩, by omega⟩))]
  generalize (if x < 53 ∨ (x = 53 ∧ (0 : Nat) ≠ 1 ∧ z = 1 ∧ ¬ (0 < k ∧ (y - 48) % 2 = 1)) then t1 else (if u.2 = true then 49 :: u.1 else u.1)) = res at *
  refine meets_by ttOk Tryd.func30 Tryd.ntmps30 Tryd.results30 (by kernel_rfl) (c := _) rfl rfl rfl fun E => ?_
  simp only [argsFrame]
  repeat' first
    | (simp only [hs1, hs2, hdl, hg0, hby, hne, htk, Int.toNat_natCast])
    | (with_reducible first | refine PW.seq ?_ | refine PW.block ?_ | refine PW.fork ?_ | refine PW.skip ?_ | refine PW.exit ?_ | refine PW.ret ?_)
    | (with_reducible refine PW.region ttOk ?_ ?_
       · rfl)
    | (with_reducible refine PW.regionD ttOk mixed ?_ ?_ ?_
       · rfl
       · rfl)
    | (with_reducible refine ifW_dec (fun g => ?_) (fun g => ?_) <;> first | (exfalso; omega) | (simp -dsimp only [g, wkI]))
    | (with_reducible refine condE_dec (fun g => ?_) (fun g => ?_) <;> try (exfalso; omega))
    | (with_reducible refine condE_not (fun g => ?_) (fun g => ?_) <;> try (exfalso; omega))
    | (simp -dsimp only [↓wkA, ↓wkE, wkB, ↓tt, Nat.reduceBEq, Nat.reduceEqDiff, ↓reduceIte, Nat.reduceLT, Array.toList, Nat.reduceAdd, Nat.reduceMul, Int.reduceToNat, Int.reducePow, UInt8.reduceToNat])
    | (simp -dsimp (disch := first | assumption | omega) only [dec_t, dec_f])
    | (refine And.intro ?_ ?_
       · first | omega | decide | (simp (disch := omega) only [wkW, Int.reduceToNat, Int.reducePow] <;> omega) | (simp <;> omega))
    | (simp (disch := omega) only [wkW, Int.reduceToNat, Int.reducePow])
    | fail
  refine PW.meetB (fun F H => ∃ h : Bool, (h = true ↔ x = 53 ∧ z = 1) ∧ F = [(7, .bool h), (5, .sl 0 0 k true), (1, .int .i64 (k : Int))] ∧ H = ⟨1, [(0, .ints .u8 t1)], [], []⟩) ?_ ?_
  · refine PW.loopA (fun m F H => ∃ (i : Nat) (h : Bool), i + m = t2.length ∧ 1 ≤ i ∧ (h = true ↔ x = 53 ∧ ∀ j, 1 ≤ j → j < i → t2.getD j 0 = 48) ∧ F = [(8, .int .i64 (i : Int)), (7, .bool h), (6, .str t2), (5, .sl 0 0 k true), (1, .int .i64 (k : Int))] ∧ H = ⟨1, [(0, .ints .u8 t1)], [], []⟩) (t2.length - 1) [(8, .int .i64 ((1 : Nat) : Int)), (7, .bool (decide (x = 53))), (6, .str t2), (5, .sl 0 0 k true), (1, .int .i64 (k : Int))] ⟨1, [(0, .ints .u8 t1)], [], []⟩ (Sub.norm ⟨rfl, rfl, rfl, ?_, rfl, trivial⟩ ⟨rfl, trivial⟩ (Nat.le_refl _) rfl rfl rfl rfl) ⟨1, decide (x = 53), by omega, Nat.le_refl _, ⟨fun h => ⟨of_decide_eq_true h, fun j h1 h2 => by omega⟩, fun h => decide_eq_true h.1⟩, rfl, rfl⟩ ?_
    · first | rfl | (simp -dsimp only [↓wkA, ↓wkE, wkB, ↓tt, Nat.reduceBEq, Nat.reduceEqDiff, ↓reduceIte, Nat.reduceLT, Array.toList, Nat.reduceAdd, Nat.reduceMul, Int.reduceToNat, Int.reducePow, UInt8.reduceToNat, htl]; rfl) | simp -dsimp only [↓wkA, ↓wkE, wkB, ↓tt, Nat.reduceBEq, Nat.reduceEqDiff, ↓reduceIte, Nat.reduceLT, Array.toList, Nat.reduceAdd, Nat.reduceMul, Int.reduceToNat, Int.reducePow, UInt8.reduceToNat, htl]
    rintro m F H ⟨i, h, hi, hi1, hh, rfl, rfl⟩
    cases m with
    | zero =>
      obtain rfl : i = t2.length := by omega
      repeat' first
        | (with_reducible first | refine PW.seq ?_ | refine PW.block ?_ | refine PW.fork ?_ | refine PW.skip ?_ | refine PW.exit ?_ | refine PW.ret ?_)
        | (with_reducible refine PW.region ttOk ?_ ?_
           · rfl)
        | (with_reducible refine PW.regionD ttOk mixed ?_ ?_ ?_
           · rfl
           · rfl)
        | (with_reducible refine ifW_dec (fun g => ?_) (fun g => ?_) <;> first | (exfalso; omega) | (simp -dsimp only [g, wkI]))
        | (with_reducible refine condE_dec (fun g => ?_) (fun g => ?_) <;> try (exfalso; omega))
        | (with_reducible refine condE_not (fun g => ?_) (fun g => ?_) <;> try (exfalso; omega))
        | (simp -dsimp only [↓wkA, ↓wkE, wkB, ↓tt, Nat.reduceBEq, Nat.reduceEqDiff, ↓reduceIte, Nat.reduceLT, Array.toList, Nat.reduceAdd, Nat.reduceMul, Int.reduceToNat, Int.reducePow, UInt8.reduceToNat])
        | (simp -dsimp (disch := first | assumption | omega) only [dec_t, dec_f])
        | (refine And.intro ?_ ?_
           · first | omega | decide | (simp (disch := omega) only [wkW, Int.reduceToNat, Int.reducePow] <;> omega) | (simp <;> omega))
        | (simp (disch := omega) only [wkW, Int.reduceToNat, Int.reducePow])
        | fail
      exact Meet.mk [(7, .bool h), (5, .sl 0 0 k true), (1, .int .i64 (k : Int))] ⟨1, [(0, .ints .u8 t1)], [], []⟩ (Sub.norm ⟨rfl, rfl, rfl, trivial⟩ ⟨rfl, trivial⟩ (Nat.le_refl _) rfl rfl rfl rfl) ⟨h, by rw [hh, hz2], rfl, rfl⟩
    | succ m =>
      by_cases h48 : t2.getD i 0 = 48
      · have hd48 : decide (t2.getD i 0 = 48) = true := decide_eq_true h48
        have hh2 : h = true ↔ x = 53 ∧ ∀ j, 1 ≤ j → j < i + 1 → t2.getD j 0 = 48 := by
          rw [hh]
          refine and_congr_right fun _ => ⟨fun hj j h1 h2 => ?_, fun hj j h1 h2 => hj j h1 (by omega)⟩
          by_cases e : j = i
          · rw [e]; exact h48
          · exact hj j h1 (by omega)
        repeat' first
          | (simp only [h48, hd48, Int.toNat_natCast])
          | (with_reducible first | refine PW.seq ?_ | refine PW.block ?_ | refine PW.fork ?_ | refine PW.skip ?_ | refine PW.exit ?_ | refine PW.ret ?_)
          | (with_reducible refine PW.region ttOk ?_ ?_
             · rfl)
          | (with_reducible refine PW.regionD ttOk mixed ?_ ?_ ?_
             · rfl
             · rfl)
          | (with_reducible refine ifW_dec (fun g => ?_) (fun g => ?_) <;> first | (exfalso; omega) | (simp -dsimp only [g, wkI]))
          | (with_reducible refine condE_dec (fun g => ?_) (fun g => ?_) <;> try (exfalso; omega))
          | (with_reducible refine condE_not (fun g => ?_) (fun g => ?_) <;> try (exfalso; omega))
          | (simp -dsimp only [↓wkA, ↓wkE, wkB, ↓tt, Nat.reduceBEq, Nat.reduceEqDiff, ↓reduceIte, Nat.reduceLT, Array.toList, Nat.reduceAdd, Nat.reduceMul, Int.reduceToNat, Int.reducePow, UInt8.reduceToNat])
          | (simp -dsimp (disch := first | assumption | omega) only [dec_t, dec_f])
          | (refine And.intro ?_ ?_
             · first | omega | decide | (simp (disch := omega) only [wkW, Int.reduceToNat, Int.reducePow] <;> omega) | (simp <;> omega))
          | (simp (disch := omega) only [wkW, Int.reduceToNat, Int.reducePow])
          | fail
        exact Again.mk m [(8, .int .i64 ((i + 1 : Nat) : Int)), (7, .bool h), (6, .str t2), (5, .sl 0 0 k true), (1, .int .i64 (k : Int))] ⟨1, [(0, .ints .u8 t1)], [], []⟩ (by omega) (Sub.norm ⟨rfl, rfl, rfl, rfl, rfl, trivial⟩ ⟨rfl, trivial⟩ (Nat.le_refl _) rfl rfl rfl rfl) ⟨i + 1, h, by omega, by omega, hh2, rfl, rfl⟩
      · have hd48 : decide (t2.getD i 0 = 48) = false := decide_eq_false h48
        have hh2 : false = true ↔ x = 53 ∧ ∀ j, 1 ≤ j → j < i + 1 → t2.getD j 0 = 48 := ⟨fun h => (by cases h), fun ⟨_, hj⟩ => absurd (hj i hi1 (by omega)) h48⟩
        repeat' first
          | (simp only [hd48, Int.toNat_natCast])
          | (with_reducible first | refine PW.seq ?_ | refine PW.block ?_ | refine PW.fork ?_ | refine PW.skip ?_ | refine PW.exit ?_ | refine PW.ret ?_)
          | (with_reducible refine PW.region ttOk ?_ ?_
             · rfl)
          | (with_reducible refine PW.regionD ttOk mixed ?_ ?_ ?_
             · rfl
             · rfl)
          | (with_reducible refine ifW_dec (fun g => ?_) (fun g => ?_) <;> first | (exfalso; omega) | (simp -dsimp only [g, wkI]))
          | (with_reducible refine condE_dec (fun g => ?_) (fun g => ?_) <;> try (exfalso; omega))
          | (with_reducible refine condE_not (fun g => ?_) (fun g => ?_) <;> try (exfalso; omega))
          | (simp -dsimp only [↓wkA, ↓wkE, wkB, ↓tt, Nat.reduceBEq, Nat.reduceEqDiff, ↓reduceIte, Nat.reduceLT, Array.toList, Nat.reduceAdd, Nat.reduceMul, Int.reduceToNat, Int.reducePow, UInt8.reduceToNat])
          | (simp -dsimp (disch := first | assumption | omega) only [dec_t, dec_f])
          | (refine And.intro ?_ ?_
             · first | omega | decide | (simp (disch := omega) only [wkW, Int.reduceToNat, Int.reducePow] <;> omega) | (simp <;> omega))
          | (simp (disch := omega) only [wkW, Int.reduceToNat, Int.reducePow])
          | fail
        exact Again.mk m [(8, .int .i64 ((i + 1 : Nat) : Int)), (7, .bool false), (6, .str t2), (5, .sl 0 0 k true), (1, .int .i64 (k : Int))] ⟨1, [(0, .ints .u8 t1)], [], []⟩ (by omega) (Sub.norm ⟨rfl, rfl, rfl, rfl, rfl, trivial⟩ ⟨rfl, trivial⟩ (Nat.le_refl _) rfl rfl rfl rfl) ⟨i + 1, false, by omega, by omega, hh2, rfl, rfl⟩
  · rintro F H ⟨h, hh, rfl, rfl⟩
    have hres := hres h hh
    have htk1 : t1.take k = t1 := List.take_of_length_le (by omega)
    have hym : 0 < k → y.tmod 2 = y % 2 := fun h => Int.tmod_eq_emod_of_nonneg (by have := hy h; omega)
    by_cases hret : h = true ∧ (k = 0 ∨ y % 2 = 0)
    · rw [if_pos hret] at hres
      subst hres
      obtain ⟨rfl, hk2⟩ := hret
      by_cases hk0 : k = 0
      · subst hk0
        have ht0 : res = [] := List.length_eq_zero_iff.1 htl
        repeat' first
          | (simp only [hby, htk1])
          | (with_reducible first | refine PW.seq ?_ | refine PW.block ?_ | refine PW.fork ?_ | refine PW.skip ?_ | refine PW.exit ?_ | refine PW.ret ?_)
          | (with_reducible refine PW.region ttOk ?_ ?_
             · rfl)
          | (with_reducible refine PW.regionD ttOk mixed ?_ ?_ ?_
             · rfl
             · rfl)
          | (with_reducible refine ifW_dec (fun g => ?_) (fun g => ?_) <;> first | (exfalso; omega) | (simp -dsimp only [g, wkI]))
          | (with_reducible refine condE_dec (fun g => ?_) (fun g => ?_) <;> try (exfalso; omega))
          | (with_reducible refine condE_not (fun g => ?_) (fun g => ?_) <;> try (exfalso; omega))
          | (simp -dsimp only [↓wkA, ↓wkE, wkB, ↓tt, Nat.reduceBEq, Nat.reduceEqDiff, ↓reduceIte, Nat.reduceLT, Array.toList, Nat.reduceAdd, Nat.reduceMul, Int.reduceToNat, Int.reducePow, UInt8.reduceToNat])
          | (simp -dsimp (disch := first | assumption | omega) only [dec_t, dec_f])
          | (refine And.intro ?_ ?_
             · first | omega | decide | (simp (disch := omega) only [wkW, Int.reduceToNat, Int.reducePow] <;> omega) | (simp <;> omega))
          | (simp (disch := omega) only [wkW, Int.reduceToNat, Int.reducePow])
          | fail
        all_goals (rw [ht0])
      · obtain ⟨hy1, hy2, hy3⟩ := hy (by omega)
        have wk := w1 (by omega)
        have hy0' : y % 2 = 0 := by omega
        have hd0 : decide (y % 2 = 0) = true := decide_eq_true hy0'
        have hym2 := hym (by omega)
        have wy : IntKind.wrap .u8 (y % 2) = y % 2 := wrap_u8 (by omega)
        repeat' first
          | (simp only [wk, hy1, hym2, wy, hd0, hy0', hby, htk1, Int.toNat_natCast])
          | (with_reducible first | refine PW.seq ?_ | refine PW.block ?_ | refine PW.fork ?_ | refine PW.skip ?_ | refine PW.exit ?_ | refine PW.ret ?_)
          | (with_reducible refine PW.region ttOk ?_ ?_
             · rfl)
          | (with_reducible refine PW.regionD ttOk mixed ?_ ?_ ?_
             · rfl
             · rfl)
          | (with_reducible refine ifW_dec (fun g => ?_) (fun g => ?_) <;> first | (exfalso; omega) | (simp -dsimp only [g, wkI]))
          | (with_reducible refine condE_dec (fun g => ?_) (fun g => ?_) <;> try (exfalso; omega))
          | (with_reducible refine condE_not (fun g => ?_) (fun g => ?_) <;> try (exfalso; omega))
          | (simp -dsimp only [↓wkA, ↓wkE, wkB, ↓tt, Nat.reduceBEq, Nat.reduceEqDiff, ↓reduceIte, Nat.reduceLT, Array.toList, Nat.reduceAdd, Nat.reduceMul, Int.reduceToNat, Int.reducePow, UInt8.reduceToNat])
          | (simp -dsimp (disch := first | assumption | omega) only [dec_t, dec_f])
          | (refine And.intro ?_ ?_
             · first | omega | decide | (simp (disch := omega) only [wkW, Int.reduceToNat, Int.reducePow] <;> omega) | (simp <;> omega))
          | (simp (disch := omega) only [wkW, Int.reduceToNat, Int.reducePow])
          | fail
    · rw [if_neg hret] at hres
      have wk2 : IntKind.wrap .i64 ((k : Int) - 1) = (k : Int) - 1 := wrap_i64 (by omega)
      -- what is to be rounded up
      have hcase : h = false ∨ (h = true ∧ t1.getD (k - 1) 0 = y ∧ IntKind.wrap .i64 ((k : Int) - 1) = ((k - 1 : Nat) : Int) ∧ decide (y % 2 = 0) = false ∧ decide ((k : Int) = 0) = false ∧ y.tmod 2 = y % 2 ∧ IntKind.wrap .u8 (y % 2) = y % 2 ∧ 0 < k) := by
        cases h with
        | false => exact .inl rfl
        | true =>
          have hk0 : 0 < k := by
            rcases Nat.eq_zero_or_pos k with h | h
            · exact absurd ⟨rfl, .inl h⟩ hret
            · exact h
          obtain ⟨hy1, hy2, hy3⟩ := hy hk0
          have hy0' : ¬ y % 2 = 0 := fun h => hret ⟨rfl, .inr h⟩
          exact .inr ⟨rfl, hy1, w1 hk0, decide_eq_false hy0', decide_eq_false (by omega), hym hk0, wrap_u8 (by omega), hk0⟩
      rcases hcase with rfl | ⟨rfl, hy1, wk, hd0, hdk, hym2, wy, hk0⟩
      repeat' first
        | (simp only [wk, hy1, hym2, wy, hd0, hdk, Int.toNat_natCast])
        | (simp only [wk2])
        | (with_reducible first | refine PW.seq ?_ | refine PW.block ?_ | refine PW.fork ?_ | refine PW.skip ?_ | refine PW.exit ?_ | refine PW.ret ?_)
        | (with_reducible refine PW.region ttOk ?_ ?_
           · rfl)
        | (with_reducible refine PW.regionD ttOk mixed ?_ ?_ ?_
           · rfl
           · rfl)
        | (with_reducible refine ifW_dec (fun g => ?_) (fun g => ?_) <;> first | (exfalso; omega) | (simp -dsimp only [g, wkI]))
        | (with_reducible refine condE_dec (fun g => ?_) (fun g => ?_) <;> try (exfalso; omega))
        | (with_reducible refine condE_not (fun g => ?_) (fun g => ?_) <;> try (exfalso; omega))
        | (simp -dsimp only [↓wkA, ↓wkE, wkB, ↓tt, Nat.reduceBEq, Nat.reduceEqDiff, ↓reduceIte, Nat.reduceLT, Array.toList, Nat.reduceAdd, Nat.reduceMul, Int.reduceToNat, Int.reducePow, UInt8.reduceToNat])
        | (simp -dsimp (disch := first | assumption | omega) only [dec_t, dec_f])
        | (refine And.intro ?_ ?_
           · first | omega | decide | (simp (disch := omega) only [wkW, Int.reduceToNat, Int.reducePow] <;> omega) | (simp <;> omega))
        | (simp (disch := omega) only [wkW, Int.reduceToNat, Int.reducePow])
        | fail
      all_goals refine PW.meetB (fun F H => ∃ row : List Int, row.length = k ∧ Digs row ∧ u = (row, true) ∧ F = [(5, .sl 0 0 k true)] ∧ H = ⟨1, [(0, .ints .u8 row)], [], []⟩) ?_ ?_
      all_goals first
        | (skip
           rintro F H ⟨row, hrl, hd, hup, rfl, rfl⟩
           have hby2 : row.map PV.byteOf = row := byteOf_list (digs_bytes hd)
           have htk : row.take k = row := List.take_of_length_le (by omega)
           rw [hup] at hres
           have hres2 : res = 49 :: row := hres
           rw [hres2]
           repeat' first
             | (simp only [hby2, htk])
             | (with_reducible first | refine PW.seq ?_ | refine PW.block ?_ | refine PW.fork ?_ | refine PW.skip ?_ | refine PW.exit ?_ | refine PW.ret ?_)
             | (with_reducible refine PW.region ttOk ?_ ?_
                · rfl)
             | (with_reducible refine PW.regionD ttOk mixed ?_ ?_ ?_
                · rfl
                · rfl)
             | (with_reducible refine ifW_dec (fun g => ?_) (fun g => ?_) <;> first | (exfalso; omega) | (simp -dsimp only [g, wkI]))
             | (with_reducible refine condE_dec (fun g => ?_) (fun g => ?_) <;> try (exfalso; omega))
             | (with_reducible refine condE_not (fun g => ?_) (fun g => ?_) <;> try (exfalso; omega))
             | (simp -dsimp only [↓wkA, ↓wkE, wkB, ↓tt, Nat.reduceBEq, Nat.reduceEqDiff, ↓reduceIte, Nat.reduceLT, Array.toList, Nat.reduceAdd, Nat.reduceMul, Int.reduceToNat, Int.reducePow, UInt8.reduceToNat])
             | (simp -dsimp (disch := first | assumption | omega) only [dec_t, dec_f])
             | (refine And.intro ?_ ?_
                · first | omega | decide | (simp (disch := omega) only [wkW, Int.reduceToNat, Int.reducePow] <;> omega) | (simp <;> omega))
             | (simp (disch := omega) only [wkW, Int.reduceToNat, Int.reducePow])
             | fail
           done)
        | (skip
           refine PW.loopA (fun m F H => ∃ row : List Int, row.length = k ∧ m ≤ k ∧ Digs row ∧ upD row m = u ∧ F = [(9, .int .i64 ((m : Int) - 1)), (5, .sl 0 0 k true)] ∧ H = ⟨1, [(0, .ints .u8 row)], [], []⟩) k [(9, .int .i64 ((k : Int) - 1)), (5, .sl 0 0 k true)] ⟨1, [(0, .ints .u8 t1)], [], []⟩ (Sub.norm ⟨?_, rfl, trivial⟩ ⟨rfl, trivial⟩ (Nat.le_refl _) rfl rfl rfl rfl) ⟨t1, htl, Nat.le_refl _, hd, hu, rfl, rfl⟩ ?_
           · first | rfl | exact congrArg (PV.int .i64) (by omega)
           rintro m F H ⟨row, hrl, hm, hd, hup, rfl, rfl⟩
           cases m with
           | zero =>
             rw [upD] at hup
             have e0 : ((0 : Nat) : Int) - 1 = -1 := rfl
             rw [e0]
             repeat' first
               | (with_reducible first | refine PW.seq ?_ | refine PW.block ?_ | refine PW.fork ?_ | refine PW.skip ?_ | refine PW.exit ?_ | refine PW.ret ?_)
               | (with_reducible refine PW.region ttOk ?_ ?_
                  · rfl)
               | (with_reducible refine PW.regionD ttOk mixed ?_ ?_ ?_
                  · rfl
                  · rfl)
               | (with_reducible refine ifW_dec (fun g => ?_) (fun g => ?_) <;> first | (exfalso; omega) | (simp -dsimp only [g, wkI]))
               | (with_reducible refine condE_dec (fun g => ?_) (fun g => ?_) <;> try (exfalso; omega))
               | (with_reducible refine condE_not (fun g => ?_) (fun g => ?_) <;> try (exfalso; omega))
               | (simp -dsimp only [↓wkA, ↓wkE, wkB, ↓tt, Nat.reduceBEq, Nat.reduceEqDiff, ↓reduceIte, Nat.reduceLT, Array.toList, Nat.reduceAdd, Nat.reduceMul, Int.reduceToNat, Int.reducePow, UInt8.reduceToNat])
               | (simp -dsimp (disch := first | assumption | omega) only [dec_t, dec_f])
               | (refine And.intro ?_ ?_
                  · first | omega | decide | (simp (disch := omega) only [wkW, Int.reduceToNat, Int.reducePow] <;> omega) | (simp <;> omega))
               | (simp (disch := omega) only [wkW, Int.reduceToNat, Int.reducePow])
               | fail
             exact Meet.mk [(5, .sl 0 0 k true)] ⟨1, [(0, .ints .u8 row)], [], []⟩ (Sub.norm ⟨rfl, trivial⟩ ⟨rfl, trivial⟩ (Nat.le_refl _) rfl rfl rfl rfl) ⟨row, hrl, hd, hup.symm, rfl, rfl⟩
           | succ m =>
             have e1 : ((m + 1 : Nat) : Int) - 1 = (m : Int) := by omega
             have w2 : IntKind.wrap .i64 ((m : Int) - 1) = (m : Int) - 1 := wrap_i64 (by omega)
             simp only [e1]
             by_cases h57 : row.getD m 0 = 57
             · have hup2 : upD (row.set m 48) m = u := by rw [upD, if_pos h57] at hup; exact hup
               have hd57 : decide (row.getD m 0 = 57) = true := decide_eq_true h57
               repeat' first
                 | (simp only [w2, h57, Int.toNat_natCast])
                 | (with_reducible first | refine PW.seq ?_ | refine PW.block ?_ | refine PW.fork ?_ | refine PW.skip ?_ | refine PW.exit ?_ | refine PW.ret ?_)
                 | (with_reducible refine PW.region ttOk ?_ ?_
                    · rfl)
                 | (with_reducible refine PW.regionD ttOk mixed ?_ ?_ ?_
                    · rfl
                    · rfl)
                 | (with_reducible refine ifW_dec (fun g => ?_) (fun g => ?_) <;> first | (exfalso; omega) | (simp -dsimp only [g, wkI]))
                 | (with_reducible refine condE_dec (fun g => ?_) (fun g => ?_) <;> try (exfalso; omega))
                 | (with_reducible refine condE_not (fun g => ?_) (fun g => ?_) <;> try (exfalso; omega))
                 | (simp -dsimp only [↓wkA, ↓wkE, wkB, ↓tt, Nat.reduceBEq, Nat.reduceEqDiff, ↓reduceIte, Nat.reduceLT, Array.toList, Nat.reduceAdd, Nat.reduceMul, Int.reduceToNat, Int.reducePow, UInt8.reduceToNat])
                 | (simp -dsimp (disch := first | assumption | omega) only [dec_t, dec_f])
                 | (refine And.intro ?_ ?_
                    · first | omega | decide | (simp (disch := omega) only [wkW, Int.reduceToNat, Int.reducePow] <;> omega) | (simp <;> omega))
                 | (simp (disch := omega) only [wkW, Int.reduceToNat, Int.reducePow])
                 | fail
               exact Again.mk m [(9, .int .i64 ((m : Int) - 1)), (5, .sl 0 0 k true)] ⟨1, [(0, .ints .u8 (row.set m 48))], [], []⟩ (by omega) (Sub.norm ⟨rfl, rfl, trivial⟩ ⟨rfl, trivial⟩ (by simp) rfl rfl rfl rfl) ⟨_, by simp [hrl], by omega, digs_set hd m (by decide), hup2, rfl, rfl⟩
             · rw [upD, if_neg h57] at hup
               have hdd : Digs row := hd
               have hx := digs_get hd (show m < row.length by omega)
               have w3 : IntKind.wrap .u8 (row.getD m 0 + 1) = row.getD m 0 + 1 := wrap_u8 (by omega)
               have hby2 : (row.set m (row.getD m 0 + 1)).map PV.byteOf = row.set m (row.getD m 0 + 1) := byteOf_list (digs_bytes (digs_set hdd m (by omega)))
               have htk : (row.set m (row.getD m 0 + 1)).take k = row.set m (row.getD m 0 + 1) := List.take_of_length_le (by simp; omega)
               rw [← hup] at hres
               have hres2 : res = row.set m (row.getD m 0 + 1) := hres
               rw [hres2]
               repeat' first
                 | (simp only [w3, hby2, htk, Int.toNat_natCast])
                 | (with_reducible first | refine PW.seq ?_ | refine PW.block ?_ | refine PW.fork ?_ | refine PW.skip ?_ | refine PW.exit ?_ | refine PW.ret ?_)
                 | (with_reducible refine PW.region ttOk ?_ ?_
                    · rfl)
                 | (with_reducible refine PW.regionD ttOk mixed ?_ ?_ ?_
                    · rfl
                    · rfl)
                 | (with_reducible refine ifW_dec (fun g => ?_) (fun g => ?_) <;> first | (exfalso; omega) | (simp -dsimp only [g, wkI]))
                 | (with_reducible refine condE_dec (fun g => ?_) (fun g => ?_) <;> try (exfalso; omega))
                 | (with_reducible refine condE_not (fun g => ?_) (fun g => ?_) <;> try (exfalso; omega))
                 | (simp -dsimp only [↓wkA, ↓wkE, wkB, ↓tt, Nat.reduceBEq, Nat.reduceEqDiff, ↓reduceIte, Nat.reduceLT, Array.toList, Nat.reduceAdd, Nat.reduceMul, Int.reduceToNat, Int.reducePow, UInt8.reduceToNat])
                 | (simp -dsimp (disch := first | assumption | omega) only [dec_t, dec_f])
                 | (refine And.intro ?_ ?_
                    · first | omega | decide | (simp (disch := omega) only [wkW, Int.reduceToNat, Int.reducePow] <;> omega) | (simp <;> omega))
                 | (simp (disch := omega) only [wkW, Int.reduceToNat, Int.reducePow])
                 | fail
           done)
end Go.Proofs.YtjhkpjddcaglnaaDoor
set_option maxHeartbeats 4000000
set_option maxRecDepth 4000
set_option exponentiation.threshold 300000
set_option linter.unusedVariables false
set_option linter.unusedSimpArgs false
namespace Go.Proofs.YtjhkpjddcaglnaaDoor
open Go Go.PV

theorem places_const : placesP 4593671619917905920 2 = .tup [.str [48], .str [49, 50], .int .i64 0] := by
  obtain ⟨e1, e2⟩ := allD_of (d := 4593671619917905920) (D := 125) (x := -3) (by decide) ⟨by decide, by decide⟩
  have e3 : ndig 125 = 3 := ndig_of (k := 2) (by decide) (by decide)
  have e4 : placesW 4593671619917905920 2 = 12 := by
    have hk : keepD 4593671619917905920 2 = 2 := by unfold keepD; rw [e1, e2, e3]; rfl
    unfold placesW
    rw [if_neg (by decide), hk, if_neg (by decide), e1, e3]
    decide
  unfold placesP
  rw [if_pos (by decide), if_neg (by decide), show (2 : Int).toNat = 2 from rfl, e4]
  rfl

theorem fixed_nearest (d : Nat) (hd : d < 18446744073709551616) (n : Int) (hnn : -9223372036854775808 ≤ n ∧ n ≤ 9223372036854775807) : Meets Tryd.prog 9 [.int .u64 (d : Int), .int .i64 n] (.bool true) := by
  have c1 : Meets Tryd.prog 29 [.int .u64 4593671619917905920, .int .i64 2] (.tup [.str [48], .str [49, 50], .int .i64 0]) := by
    have h := fixed_places 4593671619917905920 (by decide) 2
    rw [places_const] at h
    exact h
  have c2 := law11_works
  have hpl := fixed_places d hd n
  have hfin := law11_finite d hd
  unfold placesP at hpl
  by_cases hf : finD d
  case neg =>
    rw [decide_eq_false hf] at hfin
    rw [if_neg hf] at hpl
    refine meets_by ttOk Tryd.func9 Tryd.ntmps9 Tryd.results9 (by kernel_rfl) (c := _) rfl rfl rfl fun E => ?_
    simp only [argsFrame]
    repeat' first
      | (simp only [eq_self, decide_true])
      | (with_reducible first | refine PW.seq ?_ | refine PW.block ?_ | refine PW.fork ?_ | refine PW.skip ?_ | refine PW.exit ?_ | refine PW.ret ?_)
      | (with_reducible refine PW.region ttOk ?_ ?_
         · rfl)
      | (with_reducible refine PW.regionD ttOk mixed ?_ ?_ ?_
         · rfl
         · rfl)
      | (with_reducible refine ifW_dec (fun g => ?_) (fun g => ?_) <;> first | (exfalso; omega) | (simp -dsimp only [g, wkI]))
      | (with_reducible refine condE_dec (fun g => ?_) (fun g => ?_) <;> try (exfalso; omega))
      | (with_reducible refine condE_not (fun g => ?_) (fun g => ?_) <;> try (exfalso; omega))
      | (simp -dsimp only [↓wkA, ↓wkE, wkB, ↓tt, Nat.reduceBEq, Nat.reduceEqDiff, ↓reduceIte, Nat.reduceLT, Array.toList, Nat.reduceAdd, Nat.reduceMul, Int.reduceToNat, Int.reducePow, UInt8.reduceToNat])
      | (refine call_by (c1) (views_data rfl) ⟨trivial, trivial, trivial⟩ rfl ?_)
      | (refine call_by (c2) (views_data rfl) trivial rfl ?_)
      | (refine call_by (hpl) (views_data rfl) ⟨trivial, trivial, trivial⟩ rfl ?_)
      | (refine call_by (hfin) (views_data rfl) ⟨trivial, trivial⟩ rfl ?_)
      | (simp -dsimp (disch := first | assumption | omega) only [dec_t, dec_f])
      | (refine And.intro ?_ ?_
         · first | omega | decide | (simp (disch := omega) only [wkW, Int.reduceToNat, Int.reducePow] <;> omega) | (simp <;> omega))
      | (simp (disch := omega) only [wkW, Int.reduceToNat, Int.reducePow])
      | fail
  rw [decide_eq_true hf] at hfin
  rw [if_pos hf] at hpl
  by_cases hn : n < 0 ∨ 4200 < n
  · rw [if_pos hn] at hpl
    clear hf
    rcases hn with hn | hn
    all_goals (refine meets_by ttOk Tryd.func9 Tryd.ntmps9 Tryd.results9 (by kernel_rfl) (c := _) rfl rfl rfl fun E => ?_; simp only [argsFrame])
    all_goals
      repeat' first
        | (simp only [eq_self, decide_true])
        | (with_reducible first | refine PW.seq ?_ | refine PW.block ?_ | refine PW.fork ?_ | refine PW.skip ?_ | refine PW.exit ?_ | refine PW.ret ?_)
        | (with_reducible refine PW.region ttOk ?_ ?_
           · rfl)
        | (with_reducible refine PW.regionD ttOk mixed ?_ ?_ ?_
           · rfl
           · rfl)
        | (with_reducible refine ifW_dec (fun g => ?_) (fun g => ?_) <;> first | (exfalso; omega) | (simp -dsimp only [g, wkI]))
        | (with_reducible refine condE_dec (fun g => ?_) (fun g => ?_) <;> try (exfalso; omega))
        | (with_reducible refine condE_not (fun g => ?_) (fun g => ?_) <;> try (exfalso; omega))
        | (simp -dsimp only [↓wkA, ↓wkE, wkB, ↓tt, Nat.reduceBEq, Nat.reduceEqDiff, ↓reduceIte, Nat.reduceLT, Array.toList, Nat.reduceAdd, Nat.reduceMul, Int.reduceToNat, Int.reducePow, UInt8.reduceToNat])
        | (refine call_by (c1) (views_data rfl) ⟨trivial, trivial, trivial⟩ rfl ?_)
        | (refine call_by (c2) (views_data rfl) trivial rfl ?_)
        | (refine call_by (hpl) (views_data rfl) ⟨trivial, trivial, trivial⟩ rfl ?_)
        | (refine call_by (hfin) (views_data rfl) ⟨trivial, trivial⟩ rfl ?_)
        | (simp -dsimp (disch := first | assumption | omega) only [dec_t, dec_f])
        | (refine And.intro ?_ ?_
           · first | omega | decide | (simp (disch := omega) only [wkW, Int.reduceToNat, Int.reducePow] <;> omega) | (simp <;> omega))
        | (simp (disch := omega) only [wkW, Int.reduceToNat, Int.reducePow])
        | fail
  rw [if_neg hn] at hpl
  obtain ⟨n, rfl⟩ := Int.eq_ofNat_of_zero_le (show 0 ≤ n by omega)
  rw [Int.toNat_natCast] at hpl
  -- the number told
  have hW20 : placesW d n < 10 ^ 4600 := by
    by_cases h0 : absD d = 0
    · rw [show placesW d n = 0 from if_pos h0]; exact Nat.pow_pos (by decide)
    · obtain ⟨b1, b2, b3, b4, b5, b6⟩ := allD_bounds hf h0
      have hle := (rowW_bounds (D := allD d) rfl b1 (keepD d n).toNat).1
      have hkd : keepD d n = (ndig (allD d) : Int) + allX d + n := rfl
      have ht := (top_bounds hf h0).2.1
      have hlt : 10 ^ (keepD d n).toNat < 10 ^ 4600 := Nat.pow_lt_pow_right (by decide) (by omega)
      unfold placesW
      rw [if_neg h0]
      split
      · exact Nat.pow_pos (by decide)
      · exact Nat.lt_of_le_of_lt hle hlt
  have hnd : ndig (placesW d n) ≤ 4600 := ndig_le hW20
  have h10b : (10 : Nat) ^ 4600 ≤ 2 ^ 18400 := by rw [show 18400 = 4 * 4600 from rfl, Nat.pow_mul]; exact Nat.pow_le_pow_left (by decide) _
  have hWb : placesW d n < 2 ^ 18400 := Nat.lt_of_lt_of_le hW20 h10b
  obtain ⟨p, hp⟩ : ∃ p : Nat, p = if absD d = 0 then 0 else (-expD d).toNat := ⟨_, rfl⟩
  have hge := expD_ge d
  have hp2 : p ≤ 1074 := by rw [hp]; split <;> omega
  have hpi : (if absD d = 0 then (0 : Int) else if 0 ≤ expD d then 0 else -expD d) = (p : Int) := by rw [hp]; repeat' split; all_goals omega
  have hPb : 2 ^ p ≤ 2 ^ 1074 := Nat.pow_le_pow_right (by decide) hp2
  have hWP : placesW d n * 2 ^ p < 2 ^ 30000 := by
    have h1 : placesW d n * 2 ^ p ≤ 2 ^ 18400 * 2 ^ 1074 := Nat.mul_le_mul (Nat.le_of_lt hWb) hPb
    rw [← Nat.pow_add] at h1
    exact Nat.lt_of_le_of_lt h1 (Nat.pow_lt_pow_right (by decide) (by decide))
  have hPN : 2 ^ p < 2 ^ 1075 := Nat.lt_of_le_of_lt hPb (Nat.pow_lt_pow_right (by decide) (by decide))
  have hWN := nmax_of hWb (by decide)
  clear hW20 h10b hWb
  obtain ⟨pd1, pd2⟩ := padZ_text n (placesW d n)
  have hcat : written 10 false (placesW d n / 10 ^ n) ++ digL n (placesW d n) = padZ n (text 10 false (placesW d n)) := by
    rw [← pd1, ← pd2, List.take_append_drop]
  have hcl := padZ_len n (text 10 false (placesW d n))
  have hnl : (text 10 false (placesW d n)).length = ndig (placesW d n) := rfl
  have hcl2 : (padZ n (text 10 false (placesW d n))).length ≤ 5000 := by rw [hcl, hnl]; split <;> omega
  have hdg := padZ_digs (n := n) (text_digs (v := placesW d n))
  have hwd : Digs (written 10 false (placesW d n / 10 ^ n)) := fun x hx => hdg x (by rw [← hcat]; exact List.mem_append_left _ hx)
  have hwl : (written 10 false (placesW d n / 10 ^ n)).length ≤ 5000 := by rw [← hcat, List.length_append] at hcl2; omega
  have hw0 : 0 < (written 10 false (placesW d n / 10 ^ n)).length := List.length_pos_iff.2 (written_ne (by decide) false _)
  have hwz : 1 < (written 10 false (placesW d n / 10 ^ n)).length → (written 10 false (placesW d n / 10 ^ n)).getD 0 0 ≠ 48 := fun h => by
    unfold written at h ⊢
    by_cases hz : placesW d n / 10 ^ n = 0
    · rw [if_pos hz] at h; simp at h
    · rw [if_neg hz]; exact text_head (by decide) false _ hz
  have hnum : num 10 (written 10 false (placesW d n / 10 ^ n) ++ digL n (placesW d n)) = placesW d n := by
    rw [num_app, written_num (by decide), digL_len, num_digL]
    have := Nat.div_add_mod (placesW d n) (10 ^ n)
    rw [Nat.mul_comm] at this
    exact this
  have hread := read_nat (s := written 10 false (placesW d n / 10 ^ n) ++ digL n (placesW d n)) (digs_append hwd (digL_digs _ _)) (fun h => written_ne (b := 10) (by decide) false _ (List.append_eq_nil_iff.1 h).1) (by rw [hcat]; omega)
  rw [hnum] at hread
  have hd1 := law11_digits _ hwd (by omega)
  have hd2 := law11_digits _ (digL_digs n (placesW d n)) (by rw [digL_len]; omega)
  have hsc := law11_scaled d hd hf n (by omega)
  have htop := topD_lt hf (show n ≤ 5000 by omega)
  rw [hpi] at hsc
  have hnear := places_near hf n p hp rfl rfl rfl
  have hshl := shl_nat (u := placesW d n) (n := p) hWN (by omega) (nmax_of hWP (by decide))
  have hone := shl_nat (u := 1) (n := p) (nmax_of (k := 1) (by decide) (by decide)) (by omega) (by rw [Nat.one_mul]; exact nmax_of hPN (by decide))
  rw [natL_one 1 (by decide), Nat.one_mul] at hone
  have hbit := bit_nat (placesW d n) 0 hWN (by decide)
  rw [Nat.pow_zero, Nat.div_one] at hbit
  have hdl := digL_len n (placesW d n)
  clear hnum hcat hcl hnl hdg pd1 pd2 hcl2 hnd
  generalize placesW d n / 10 ^ n = Q at *
  generalize hwr : written 10 false Q = wh at *
  generalize digL n (placesW d n) = pt at *
  generalize placesW d n = W at *
  generalize topD d n = T at *
  generalize hP2 : 2 ^ p = P at *
  have hgap : ∃ g, g = (if W * P < T then T - W * P else W * P - T) := ⟨_, rfl⟩
  obtain ⟨g, hg⟩ := hgap
  have hb1 : g < 2 ^ 30000 := by rw [hg]; split <;> omega
  have hb2 : g * 2 ^ 1 < 2 ^ 30001 := by
    have := Nat.mul_lt_mul_of_pos_right hb1 (show 0 < 2 ^ 1 by decide)
    rwa [← Nat.pow_add] at this
  have htw := shl_nat (u := g) (n := 1) (nmax_of hb1 (by decide)) (by decide) (nmax_of hb2 (by decide))
  have hcmp := cmp_nat (u := g * 2 ^ 1) (v := P) (nmax_of hb2 (by decide)) (nmax_of hPN (by decide))
  rw [Nat.pow_one] at hcmp htw
  have hTN := nmax_of htop (by decide)
  have hNN := nmax_of hWP (by decide)
  have hhalf : 2 * g < P ∨ (2 * g = P ∧ W % 2 = 0) := by
    rw [hg]
    rcases hnear with ⟨h1, h2⟩ | ⟨h1, h2⟩
    · by_cases hlt : W * P < T
      · rw [if_pos hlt]; exact h2
      · rw [if_neg hlt]
        have : W * P - T = T - W * P := by omega
        rw [this]; exact h2
    · rw [if_neg (by omega)]; exact h2
  refine nearest_walk (d : Int) n (by omega) wh pt W T p (W * P) g (g * 2) P _ _ (decide (W * P < T)) c1 c2 hpl hfin hdl ⟨hw0, by omega⟩ hd1 hd2 hwz hread hsc hshl ?_ ?_ htw hone hcmp hbit ?_
  · by_cases hlt : W * P < T
    · rw [decide_eq_true hlt, if_pos rfl, if_pos rfl]
      exact sub_below hNN hTN hlt
    · rw [decide_eq_false hlt, hg, if_neg hlt]
      exact sub_nat hNN hTN (by omega)
  · intro h
    have hlt := of_decide_eq_true h
    rw [hg, if_pos hlt]
    exact sub_nat hTN hNN (by omega)
  · rcases hhalf with h | ⟨h, h2⟩
    · left; rw [if_pos (by omega)]; decide
    · right
      rw [if_neg (by omega), if_neg (by omega)]
      exact ⟨rfl, by omega⟩
end Go.Proofs.YtjhkpjddcaglnaaDoor
set_option maxHeartbeats 4000000
set_option maxRecDepth 4000
set_option exponentiation.threshold 300000
set_option linter.unusedVariables false
set_option linter.unusedSimpArgs false
namespace Go.Proofs.YtjhkpjddcaglnaaDoor
open Go Go.PV

theorem fixed_exact_row (a : Int) (h : 0 ≤ a ∧ a < 18446744073709551616) : Meets Tryd.prog 5 [.int .u64 a] (.bool true) := by
  obtain ⟨x, rfl⟩ := Int.eq_ofNat_of_zero_le h.1
  exact fixed_exact x (by omega)
theorem fixed_heads_row (a n : Int) (h : 0 ≤ a ∧ a < 18446744073709551616) (hn : -9223372036854775808 ≤ n ∧ n ≤ 9223372036854775807) : Meets Tryd.prog 7 [.int .u64 a, .int .i64 n] (.bool true) := by
  obtain ⟨x, rfl⟩ := Int.eq_ofNat_of_zero_le h.1
  exact fixed_heads x (by omega) n hn
theorem fixed_nearest_row (a n : Int) (h : 0 ≤ a ∧ a < 18446744073709551616) (hn : -9223372036854775808 ≤ n ∧ n ≤ 9223372036854775807) : Meets Tryd.prog 9 [.int .u64 a, .int .i64 n] (.bool true) := by
  obtain ⟨x, rfl⟩ := Int.eq_ofNat_of_zero_le h.1
  exact fixed_nearest x (by omega) n hn
end Go.Proofs.YtjhkpjddcaglnaaDoor
set_option maxHeartbeats 4000000
set_option maxRecDepth 4000
set_option exponentiation.threshold 300000
set_option linter.unusedVariables false
set_option linter.unusedSimpArgs false
namespace Go.Proofs.YtjhkpjddcaglnaaDoor
open Go Go.PV

theorem cuts_walk (d : Int) (n : Nat) (hn : 1 ≤ n ∧ n ≤ 4200) (ab : Int) (hab : ibits .andNot .u64 d 9223372036854775808 = ab) (hab0 : decide (ab = 0) = false) (ng : Bool) (s : List Int) (x : Int) (hx : -1074 ≤ x ∧ x ≤ 308) (hs : decide (s = []) = false) (hsl : s.length ≤ 3300)
    (c1 : Meets Tryd.prog 26 [.int .u64 4652002910794678272, .int .i64 3] (.tup [.str [49, 48, 48], .int .i64 3, .int .i64 0]))
    (c2 : Meets Tryd.prog 20 [.int .u64 4652002910794678272] (.tup [.agg [.bool false, .str [57, 57, 57, 53], .int .i64 (-1)], .int .i64 0]))
    (hall : Meets Tryd.prog 20 [.int .u64 d] (.tup [.agg [.bool ng, .str s, .int .i64 x], .int .i64 0])) (hfin : Meets Tryd.prog 22 [.int .u64 d] (.bool true))
    (Z R T1 A T2 T wh pa : List Int) (hz : Meets Tryd.prog 28 [.int .i64 (n : Int)] (.str Z)) (hZl : Z.length = n) (hR : s ++ Z = R) (hRl : R.length = s.length + n) (hr1 : Meets Tryd.prog 30 [.str R, .int .i64 (n : Int)] (.str T1)) (hT1 : n ≤ T1.length ∧ T1.length ≤ n + 1) (hA : T1.take n = A)
    (k : Int) (hk : (s.length : Int) - 1 + x + (T1.length : Int) - (n : Int) = k) (hfig : Meets Tryd.prog 26 [.int .u64 d, .int .i64 (n : Int)] (.tup [.str A, .int .i64 k, .int .i64 0])) (hpl : Meets Tryd.prog 29 [.int .u64 d, .int .i64 (n : Int)] (.tup [.str wh, .str pa, .int .i64 0])) (hpa : (pa.length : Int) = (n : Int)) (hwl : wh.length ≤ 10000)
    (kk : Int) (hkk : (s.length : Int) - 1 + x + 1 + (n : Int) = kk) (hT2 : T2.length ≤ 20000)
    (hc : (kk < 0 ∧ T2 = []) ∨ (0 ≤ kk ∧ kk ≤ (R.length : Int) ∧ Meets Tryd.prog 30 [.str R, .int .i64 kk] (.str T2)) ∨ (0 ≤ kk ∧ (R.length : Int) < kk ∧ ∃ Z2, Meets Tryd.prog 28 [.int .i64 (kk - (R.length : Int))] (.str Z2) ∧ R ++ Z2 = T2 ∧ Z2.length ≤ 20000))
    (hpad : (¬ T2.length ≤ n ∧ wh ++ pa = T2) ∨ (T2.length ≤ n ∧ ∃ Z3, Meets Tryd.prog 28 [.int .i64 ((n : Int) + 1 - (T2.length : Int))] (.str Z3) ∧ wh ++ pa = Z3 ++ T2 ∧ Z3.length ≤ 10000)) :
    Meets Tryd.prog 8 [.int .u64 d, .int .i64 (n : Int)] (.bool true) := by
  have w1 : IntKind.wrap .i64 ((s.length : Int) - 1) = (s.length : Int) - 1 := wrap_i64 (by omega)
  have w2 : IntKind.wrap .i64 ((s.length : Int) - 1 + x) = (s.length : Int) - 1 + x := wrap_i64 (by omega)
  have w3 : IntKind.wrap .i64 ((s.length : Int) - 1 + x + (T1.length : Int)) = (s.length : Int) - 1 + x + (T1.length : Int) := wrap_i64 (by omega)
  have w4 : IntKind.wrap .i64 ((s.length : Int) - 1 + x + (T1.length : Int) - (n : Int)) = k := by rw [wrap_i64 (by omega)]; exact hk
  have w5 : IntKind.wrap .i64 ((s.length : Int) - 1 + x + 1) = (s.length : Int) - 1 + x + 1 := wrap_i64 (by omega)
  have w6 : IntKind.wrap .i64 ((s.length : Int) - 1 + x + 1 + (n : Int)) = kk := by rw [wrap_i64 (by omega)]; exact hkk
  have w8 : IntKind.wrap .i64 ((n : Int) + 1) = (n : Int) + 1 := wrap_i64 (by omega)
  have w9 : IntKind.wrap .i64 ((n : Int) + 1 - (T2.length : Int)) = (n : Int) + 1 - (T2.length : Int) := wrap_i64 (by omega)
  have dx1 : decide (x < -1074) = false := decide_eq_false (by omega)
  have dx2 : decide (308 < x) = false := decide_eq_false (by omega)
  have dkk : decide (k = k) = true := decide_eq_true rfl
  have dAA : decide (A = A) = true := decide_eq_true rfl
  have dpn : decide ((n : Int) = (n : Int)) = true := decide_eq_true rfl
  have hkb : -2000 ≤ kk ∧ kk ≤ 9000 := by omega
  clear hk hkk
  generalize hb : wh ++ pa = b at *
  have dbb : decide (b = b) = true := decide_eq_true rfl
  rcases hc with ⟨k1, rfl⟩ | ⟨k1, k2, hr2⟩ | ⟨k1, k2, Z2, hz2, hR2, hZ2⟩ <;> rcases hpad with ⟨p1, rfl⟩ | ⟨p1, Z3, hz3, rfl, p2⟩
  · exact absurd (Nat.zero_le _) p1
  · simp only [List.length_nil, Int.ofNat_zero, Int.natCast_zero, Int.sub_zero] at hz3 w9
    refine meets_by ttOk Tryd.func8 Tryd.ntmps8 Tryd.results8 (by kernel_rfl) (c := _) rfl rfl rfl fun E => ?_
    simp only [argsFrame]
    repeat' first
      | (simp only [hR, hb, hA, w1, w2, w3, w4, w5, w6, w8, w9, hpa, hab, hab0, hs, dx1, dx2, dkk, dAA, dpn, dbb, eq_self, decide_true, Int.toNat_natCast])
      | (with_reducible first | refine PW.seq ?_ | refine PW.block ?_ | refine PW.fork ?_ | refine PW.skip ?_ | refine PW.exit ?_ | refine PW.ret ?_)
      | (with_reducible refine PW.region ttOk ?_ ?_
         · rfl)
      | (with_reducible refine PW.regionD ttOk mixed ?_ ?_ ?_
         · rfl
         · rfl)
      | (with_reducible refine ifW_dec (fun g => ?_) (fun g => ?_) <;> first | (exfalso; omega) | (simp -dsimp only [g, wkI]))
      | (with_reducible refine condE_dec (fun g => ?_) (fun g => ?_) <;> try (exfalso; omega))
      | (with_reducible refine condE_not (fun g => ?_) (fun g => ?_) <;> try (exfalso; omega))
      | (simp -dsimp only [↓wkA, ↓wkE, wkB, ↓tt, Nat.reduceBEq, Nat.reduceEqDiff, ↓reduceIte, Nat.reduceLT, Array.toList, Nat.reduceAdd, Nat.reduceMul, Int.reduceToNat, Int.reducePow, UInt8.reduceToNat])
      | (refine call_by (c1) (views_data rfl) ⟨trivial, trivial, trivial⟩ rfl ?_)
      | (refine call_by (c2) (views_data rfl) ⟨trivial, trivial⟩ rfl ?_)
      | (refine call_by (hall) (views_data rfl) ⟨trivial, trivial⟩ rfl ?_)
      | (refine call_by (hfin) (views_data rfl) ⟨trivial, trivial⟩ rfl ?_)
      | (refine callD_by (hz) (views_data rfl) ⟨trivial, trivial⟩ rfl ?_)
      | (refine call_by (hr1) (views_data rfl) ⟨trivial, trivial, trivial⟩ rfl ?_)
      | (refine call_by (hfig) (views_data rfl) ⟨trivial, trivial, trivial⟩ rfl ?_)
      | (refine call_by (hpl) (views_data rfl) ⟨trivial, trivial, trivial⟩ rfl ?_)
      | (refine call_by (hz3) (views_data rfl) ⟨trivial, trivial⟩ rfl ?_)
      | (simp -dsimp (disch := first | assumption | omega) only [dec_t, dec_f])
      | (refine And.intro ?_ ?_
         · first | omega | decide | (simp (disch := omega) only [wkW, Int.reduceToNat, Int.reducePow] <;> omega) | (simp <;> omega))
      | (simp (disch := omega) only [wkW, Int.reduceToNat, Int.reducePow])
      | fail
    all_goals simp
  all_goals first
    | have w7 : IntKind.wrap .i64 (kk - (R.length : Int)) = kk - (R.length : Int) := wrap_i64 (by omega)
  all_goals (refine meets_by ttOk Tryd.func8 Tryd.ntmps8 Tryd.results8 (by kernel_rfl) (c := _) rfl rfl rfl fun E => ?_; simp only [argsFrame])
  all_goals
    repeat' first
      | (simp only [hR, hR2, hb, hA, w1, w2, w3, w4, w5, w6, w7, w8, w9, hpa, hab, hab0, hs, dx1, dx2, dkk, dAA, dpn, dbb, eq_self, decide_true, Int.toNat_natCast])
      | (simp only [hR, hb, hA, w1, w2, w3, w4, w5, w6, w7, w8, w9, hpa, hab, hab0, hs, dx1, dx2, dkk, dAA, dpn, dbb, eq_self, decide_true, Int.toNat_natCast])
      | (with_reducible first | refine PW.seq ?_ | refine PW.block ?_ | refine PW.fork ?_ | refine PW.skip ?_ | refine PW.exit ?_ | refine PW.ret ?_)
      | (with_reducible refine PW.region ttOk ?_ ?_
         · rfl)
      | (with_reducible refine PW.regionD ttOk mixed ?_ ?_ ?_
         · rfl
         · rfl)
      | (with_reducible refine ifW_dec (fun g => ?_) (fun g => ?_) <;> first | (exfalso; omega) | (simp -dsimp only [g, wkI]))
      | (with_reducible refine condE_dec (fun g => ?_) (fun g => ?_) <;> try (exfalso; omega))
      | (with_reducible refine condE_not (fun g => ?_) (fun g => ?_) <;> try (exfalso; omega))
      | (simp -dsimp only [↓wkA, ↓wkE, wkB, ↓tt, Nat.reduceBEq, Nat.reduceEqDiff, ↓reduceIte, Nat.reduceLT, Array.toList, Nat.reduceAdd, Nat.reduceMul, Int.reduceToNat, Int.reducePow, UInt8.reduceToNat])
      | (refine call_by (c1) (views_data rfl) ⟨trivial, trivial, trivial⟩ rfl ?_)
      | (refine call_by (c2) (views_data rfl) ⟨trivial, trivial⟩ rfl ?_)
      | (refine call_by (hall) (views_data rfl) ⟨trivial, trivial⟩ rfl ?_)
      | (refine call_by (hfin) (views_data rfl) ⟨trivial, trivial⟩ rfl ?_)
      | (refine callD_by (hz) (views_data rfl) ⟨trivial, trivial⟩ rfl ?_)
      | (refine call_by (hr1) (views_data rfl) ⟨trivial, trivial, trivial⟩ rfl ?_)
      | (refine call_by (hfig) (views_data rfl) ⟨trivial, trivial, trivial⟩ rfl ?_)
      | (refine call_by (hpl) (views_data rfl) ⟨trivial, trivial, trivial⟩ rfl ?_)
      | (refine call_by (hr2) (views_data rfl) ⟨trivial, trivial, trivial⟩ rfl ?_)
      | (refine call_by (hz2) (views_data rfl) ⟨trivial, trivial⟩ rfl ?_)
      | (refine call_by (hz3) (views_data rfl) ⟨trivial, trivial⟩ rfl ?_)
      | (simp -dsimp (disch := first | assumption | omega) only [dec_t, dec_f])
      | (refine And.intro ?_ ?_
         · first | omega | decide | (simp (disch := omega) only [wkW, Int.reduceToNat, Int.reducePow] <;> omega) | (simp <;> omega))
      | (simp (disch := omega) only [wkW, Int.reduceToNat, Int.reducePow])
      | fail
end Go.Proofs.YtjhkpjddcaglnaaDoor
set_option maxHeartbeats 4000000
set_option maxRecDepth 4000
set_option exponentiation.threshold 300000
set_option linter.unusedVariables false
set_option linter.unusedSimpArgs false
namespace Go.Proofs.YtjhkpjddcaglnaaDoor
open Go Go.PV

theorem text_zeros {D : Nat} (h0 : D ≠ 0) (n : Nat) : text 10 false D ++ List.replicate n 48 = text 10 false (D * 10 ^ n) ∧ ndig (D * 10 ^ n) = ndig D + n := by
  obtain ⟨g1, g2⟩ := ndig_ge h0
  have g3 := ndig_lt D
  have e : ndig (D * 10 ^ n) = ndig D + n := by
    have := ndig_of (v := D * 10 ^ n) (k := ndig D - 1 + n) (by rw [Nat.pow_add]; exact Nat.mul_le_mul_right _ g2) (by rw [show ndig D - 1 + n + 1 = ndig D + n by omega, Nat.pow_add]; exact (Nat.mul_lt_mul_right (Nat.pow_pos (by decide))).2 g3)
    rw [this]
    omega
  refine ⟨?_, e⟩
  rw [text_digL (D * 10 ^ n), e, digL_mul, ← text_digL]

theorem rounded_text {D L : Nat} (hL : ndig D = L) (h0 : D ≠ 0) (hL2 : L ≤ 100000) (k : Nat) (hk : k ≤ L) : Meets Tryd.prog 30 [.str (text 10 false D), .int .i64 (k : Int)] (.str (text 10 false (rowW D L k))) := by
  have hl : (text 10 false D).length = L := hL
  by_cases h : k = L
  · have := rounded_whole (text 10 false D) text_digs (by omega)
    rw [hl] at this
    have e : rowW D L k = D := by unfold rowW; rw [if_pos (by omega), h, Nat.sub_self, Nat.pow_zero, Nat.mul_one]
    rw [e, h]
    exact this
  · obtain ⟨z, hz⟩ : ∃ z : Nat, z = 1 ↔ AllZ ((text 10 false D).drop (k + 1)) := by
      by_cases h : AllZ ((text 10 false D).drop (k + 1))
      · exact ⟨1, fun _ => h, fun _ => rfl⟩
      · exact ⟨0, fun h2 => by omega, fun h2 => absurd h2 h⟩
    have := law11_rounded (text 10 false D) text_digs (by omega) k (by omega) z hz
    rw [(row_text hL h0 (by omega) hz).2.1] at this
    exact this

theorem cuts_c2 : Meets Tryd.prog 20 [.int .u64 4652002910794678272] (.tup [.agg [.bool false, .str [57, 57, 57, 53], .int .i64 (-1)], .int .i64 0]) := by
  have h := fixed_all 4652002910794678272 (by decide)
  obtain ⟨e1, e2⟩ := allD_of (d := 4652002910794678272) (D := 9995) (x := -1) (by decide) ⟨by decide, by decide⟩
  unfold allP decP at h
  rw [if_pos (by decide), if_neg (by decide), e1, e2, text_num [57, 57, 57, 53] (by decide) (by decide) (by decide) (show num 10 [57, 57, 57, 53] = 9995 from rfl)] at h
  exact h

theorem fixed_cuts (d : Nat) (hd : d < 18446744073709551616) (n : Int) (hnn : -9223372036854775808 ≤ n ∧ n ≤ 9223372036854775807) : Meets Tryd.prog 8 [.int .u64 (d : Int), .int .i64 n] (.bool true) := by
  have c1 : Meets Tryd.prog 26 [.int .u64 4652002910794678272, .int .i64 3] (.tup [.str [49, 48, 48], .int .i64 3, .int .i64 0]) := by
    have h := fixed_figures 4652002910794678272 (by decide) 3
    rw [fig_const] at h
    exact h
  have c2 := cuts_c2
  have hall := fixed_all d hd
  have hfin := law11_finite d hd
  have hab := andNot_sign hd
  by_cases hf : finD d
  case neg =>
    rw [decide_eq_false hf] at hfin
    clear hall hab hf
    refine meets_by ttOk Tryd.func8 Tryd.ntmps8 Tryd.results8 (by kernel_rfl) (c := _) rfl rfl rfl fun E => ?_
    simp only [argsFrame]
    repeat' first
      | (simp only [eq_self, decide_true])
      | (with_reducible first | refine PW.seq ?_ | refine PW.block ?_ | refine PW.fork ?_ | refine PW.skip ?_ | refine PW.exit ?_ | refine PW.ret ?_)
      | (with_reducible refine PW.region ttOk ?_ ?_
         · rfl)
      | (with_reducible refine PW.regionD ttOk mixed ?_ ?_ ?_
         · rfl
         · rfl)
      | (with_reducible refine ifW_dec (fun g => ?_) (fun g => ?_) <;> first | (exfalso; omega) | (simp -dsimp only [g, wkI]))
      | (with_reducible refine condE_dec (fun g => ?_) (fun g => ?_) <;> try (exfalso; omega))
      | (with_reducible refine condE_not (fun g => ?_) (fun g => ?_) <;> try (exfalso; omega))
      | (simp -dsimp only [↓wkA, ↓wkE, wkB, ↓tt, Nat.reduceBEq, Nat.reduceEqDiff, ↓reduceIte, Nat.reduceLT, Array.toList, Nat.reduceAdd, Nat.reduceMul, Int.reduceToNat, Int.reducePow, UInt8.reduceToNat])
      | (refine call_by (c1) (views_data rfl) ⟨trivial, trivial, trivial⟩ rfl ?_)
      | (refine call_by (c2) (views_data rfl) ⟨trivial, trivial⟩ rfl ?_)
      | (refine call_by (hfin) (views_data rfl) ⟨trivial, trivial⟩ rfl ?_)
      | (simp -dsimp (disch := first | assumption | omega) only [dec_t, dec_f])
      | (refine And.intro ?_ ?_
         · first | omega | decide | (simp (disch := omega) only [wkW, Int.reduceToNat, Int.reducePow] <;> omega) | (simp <;> omega))
      | (simp (disch := omega) only [wkW, Int.reduceToNat, Int.reducePow])
      | fail
  rw [decide_eq_true hf] at hfin
  by_cases hn0 : absD d = 0
  · have hz : decide ((absD d : Int) = 0) = true := decide_eq_true (by omega)
    clear hall hf hn0
    generalize (absD d : Int) = ab at *
    refine meets_by ttOk Tryd.func8 Tryd.ntmps8 Tryd.results8 (by kernel_rfl) (c := _) rfl rfl rfl fun E => ?_
    simp only [argsFrame]
    repeat' first
      | (simp only [hab, hz, eq_self, decide_true])
      | (with_reducible first | refine PW.seq ?_ | refine PW.block ?_ | refine PW.fork ?_ | refine PW.skip ?_ | refine PW.exit ?_ | refine PW.ret ?_)
      | (with_reducible refine PW.region ttOk ?_ ?_
         · rfl)
      | (with_reducible refine PW.regionD ttOk mixed ?_ ?_ ?_
         · rfl
         · rfl)
      | (with_reducible refine ifW_dec (fun g => ?_) (fun g => ?_) <;> first | (exfalso; omega) | (simp -dsimp only [g, wkI]))
      | (with_reducible refine condE_dec (fun g => ?_) (fun g => ?_) <;> try (exfalso; omega))
      | (with_reducible refine condE_not (fun g => ?_) (fun g => ?_) <;> try (exfalso; omega))
      | (simp -dsimp only [↓wkA, ↓wkE, wkB, ↓tt, Nat.reduceBEq, Nat.reduceEqDiff, ↓reduceIte, Nat.reduceLT, Array.toList, Nat.reduceAdd, Nat.reduceMul, Int.reduceToNat, Int.reducePow, UInt8.reduceToNat])
      | (refine call_by (c1) (views_data rfl) ⟨trivial, trivial, trivial⟩ rfl ?_)
      | (refine call_by (c2) (views_data rfl) ⟨trivial, trivial⟩ rfl ?_)
      | (refine call_by (hfin) (views_data rfl) ⟨trivial, trivial⟩ rfl ?_)
      | (simp -dsimp (disch := first | assumption | omega) only [dec_t, dec_f])
      | (refine And.intro ?_ ?_
         · first | omega | decide | (simp (disch := omega) only [wkW, Int.reduceToNat, Int.reducePow] <;> omega) | (simp <;> omega))
      | (simp (disch := omega) only [wkW, Int.reduceToNat, Int.reducePow])
      | fail
  have hab0 : decide ((absD d : Int) = 0) = false := decide_eq_false (by omega)
  by_cases hn : n < 1 ∨ 4200 < n
  · clear hall hf hn0
    generalize (absD d : Int) = ab at *
    rcases hn with hn | hn
    all_goals (refine meets_by ttOk Tryd.func8 Tryd.ntmps8 Tryd.results8 (by kernel_rfl) (c := _) rfl rfl rfl fun E => ?_; simp only [argsFrame])
    all_goals
      repeat' first
        | (simp only [hab, hab0, eq_self, decide_true])
        | (with_reducible first | refine PW.seq ?_ | refine PW.block ?_ | refine PW.fork ?_ | refine PW.skip ?_ | refine PW.exit ?_ | refine PW.ret ?_)
        | (with_reducible refine PW.region ttOk ?_ ?_
           · rfl)
        | (with_reducible refine PW.regionD ttOk mixed ?_ ?_ ?_
           · rfl
           · rfl)
        | (with_reducible refine ifW_dec (fun g => ?_) (fun g => ?_) <;> first | (exfalso; omega) | (simp -dsimp only [g, wkI]))
        | (with_reducible refine condE_dec (fun g => ?_) (fun g => ?_) <;> try (exfalso; omega))
        | (with_reducible refine condE_not (fun g => ?_) (fun g => ?_) <;> try (exfalso; omega))
        | (simp -dsimp only [↓wkA, ↓wkE, wkB, ↓tt, Nat.reduceBEq, Nat.reduceEqDiff, ↓reduceIte, Nat.reduceLT, Array.toList, Nat.reduceAdd, Nat.reduceMul, Int.reduceToNat, Int.reducePow, UInt8.reduceToNat])
        | (refine call_by (c1) (views_data rfl) ⟨trivial, trivial, trivial⟩ rfl ?_)
        | (refine call_by (c2) (views_data rfl) ⟨trivial, trivial⟩ rfl ?_)
        | (refine call_by (hfin) (views_data rfl) ⟨trivial, trivial⟩ rfl ?_)
        | (simp -dsimp (disch := first | assumption | omega) only [dec_t, dec_f])
        | (refine And.intro ?_ ?_
           · first | omega | decide | (simp (disch := omega) only [wkW, Int.reduceToNat, Int.reducePow] <;> omega) | (simp <;> omega))
        | (simp (disch := omega) only [wkW, Int.reduceToNat, Int.reducePow])
        | fail
  obtain ⟨n, rfl⟩ := Int.eq_ofNat_of_zero_le (show 0 ≤ n by omega)
  have hfig := fixed_figures d hd (n : Int)
  have hpl := fixed_places d hd (n : Int)
  unfold figP at hfig
  unfold placesP at hpl
  unfold allP at hall
  rw [if_pos hf, if_neg hn, if_neg hn0] at hfig
  rw [if_pos hf, if_neg (by omega)] at hpl
  rw [if_pos hf, if_neg hn0] at hall
  unfold decP at hall
  rw [Int.toNat_natCast] at hfig hpl
  obtain ⟨b1, b2, b3, b4, b5, b6⟩ := allD_bounds hf hn0
  have hx := allX_le hf hn0
  obtain ⟨r1, r2, r3⟩ := rowW_bounds (D := allD d) rfl b1 n
  obtain ⟨t1, t2⟩ := text_zeros b1 n
  obtain ⟨f1, f2⟩ := figs_text (D := allD d) rfl b1 (n := n) (by omega)
  have hl : (text 10 false (allD d)).length = ndig (allD d) := rfl
  have hDn : allD d * 10 ^ n ≠ 0 := Nat.mul_ne_zero b1 (by have := Nat.pow_pos (n := n) (show 0 < 10 by decide); omega)
  obtain ⟨A, k, hA, hk, hfig2, hT1⟩ : ∃ (A : List Int) (k : Int), (text 10 false (rowW (allD d) (ndig (allD d)) n)).take n = A ∧ ((ndig (allD d) : Int) - 1 + allX d + ((text 10 false (rowW (allD d) (ndig (allD d)) n)).length : Int) - (n : Int) = k) ∧ Meets Tryd.prog 26 [.int .u64 (d : Int), .int .i64 (n : Int)] (.tup [.str A, .int .i64 k, .int .i64 0]) ∧ (n ≤ (text 10 false (rowW (allD d) (ndig (allD d)) n)).length ∧ (text 10 false (rowW (allD d) (ndig (allD d)) n)).length ≤ n + 1) := by
    unfold figW at hfig
    by_cases hc : 10 ^ n ≤ rowW (allD d) (ndig (allD d)) n
    · rw [if_pos hc] at hfig
      rw [decide_eq_true hc, if_pos rfl, if_pos hc] at f1
      have e : rowW (allD d) (ndig (allD d)) n = 10 ^ n := Nat.le_antisymm r1 hc
      have hnd : (text 10 false (rowW (allD d) (ndig (allD d)) n)).length = n + 1 := by rw [e]; exact ndig_of (Nat.le_refl _) (Nat.pow_lt_pow_right (by decide) (Nat.lt_succ_self n))
      refine ⟨_, _, f1, ?_, hfig, by omega, by omega⟩
      rw [hnd]; omega
    · rw [if_neg hc] at hfig
      rw [decide_eq_false hc, if_neg (by decide), if_neg hc] at f1
      have hnd : (text 10 false (rowW (allD d) (ndig (allD d)) n)).length = n := by rw [f1, digL_len]
      refine ⟨_, _, ?_, ?_, hfig, by omega, by omega⟩
      · rw [f1]; exact List.take_of_length_le (by rw [digL_len]; exact Nat.le_refl _)
      · rw [hnd]; omega
  have hr1 := rounded_text (D := allD d * 10 ^ n) (L := ndig (allD d) + n) t2 hDn (by omega) n (by omega)
  rw [rowW_zeros] at hr1
  have hRl : (text 10 false (allD d * 10 ^ n)).length = (text 10 false (allD d)).length + n := t2
  -- what the places are
  obtain ⟨p1, p2⟩ := padZ_text n (placesW d n)
  have hwp : written 10 false (placesW d n / 10 ^ n) ++ digL n (placesW d n) = padZ n (text 10 false (placesW d n)) := by rw [← p1, ← p2, List.take_append_drop]
  have hkeep : keepD d n = (ndig (allD d) : Int) + allX d + n := rfl
  have hT2 : (text 10 false (placesW d n)).length ≤ 8000 := by
    unfold placesW
    rw [if_neg hn0]
    by_cases hk : keepD d n < 0
    · rw [if_pos hk, text_nil]; exact Nat.zero_le _
    · rw [if_neg hk]
      obtain ⟨q1, q2, q3⟩ := rowW_bounds (D := allD d) rfl b1 (keepD d n).toNat
      have := ndig_le (v := rowW (allD d) (ndig (allD d)) (keepD d n).toNat) (k := (keepD d n).toNat + 1) (Nat.lt_of_le_of_lt q1 (Nat.pow_lt_pow_right (by decide) (Nat.lt_succ_self _)))
      have h2 : (text 10 false (rowW (allD d) (ndig (allD d)) (keepD d n).toNat)).length ≤ (keepD d n).toNat + 1 := this
      omega
  have hpw := congrArg List.length hwp
  rw [List.length_append, digL_len, padZ_len] at hpw
  have hwl : (written 10 false (placesW d n / 10 ^ n)).length ≤ 10000 := by split at hpw <;> omega
  have hc : (keepD d n < 0 ∧ text 10 false (placesW d n) = []) ∨ (0 ≤ keepD d n ∧ keepD d n ≤ ((text 10 false (allD d * 10 ^ n)).length : Int) ∧ Meets Tryd.prog 30 [.str (text 10 false (allD d * 10 ^ n)), .int .i64 (keepD d n)] (.str (text 10 false (placesW d n)))) ∨ (0 ≤ keepD d n ∧ ((text 10 false (allD d * 10 ^ n)).length : Int) < keepD d n ∧ ∃ Z2, Meets Tryd.prog 28 [.int .i64 (keepD d n - ((text 10 false (allD d * 10 ^ n)).length : Int))] (.str Z2) ∧ text 10 false (allD d * 10 ^ n) ++ Z2 = text 10 false (placesW d n) ∧ Z2.length ≤ 20000) := by
    unfold placesW
    rw [if_neg hn0]
    by_cases hk : keepD d n < 0
    · rw [if_pos hk]
      exact .inl ⟨hk, text_nil ..⟩
    · rw [if_neg hk]
      obtain ⟨m, hm⟩ := Int.eq_ofNat_of_zero_le (show 0 ≤ keepD d n by omega)
      rw [hm, Int.toNat_natCast]
      by_cases hm2 : m ≤ ndig (allD d) + n
      · have hr2 := rounded_text (D := allD d * 10 ^ n) (L := ndig (allD d) + n) t2 hDn (by omega) m hm2
        rw [rowW_zeros] at hr2
        exact .inr (.inl ⟨by omega, by omega, hr2⟩)
      · have hz2 := law11_zeros (m - (ndig (allD d) + n)) (by omega)
        rw [show ((m - (ndig (allD d) + n) : Nat) : Int) = (m : Int) - ((text 10 false (allD d * 10 ^ n)).length : Int) by omega] at hz2
        refine .inr (.inr ⟨by omega, by omega, _, hz2, ?_, by rw [List.length_replicate]; omega⟩)
        rw [(text_zeros hDn _).1, Nat.mul_assoc, ← Nat.pow_add]
        unfold rowW
        rw [if_pos (by omega), show n + (m - (ndig (allD d) + n)) = m - ndig (allD d) by omega]
  have hpad : (¬ (text 10 false (placesW d n)).length ≤ n ∧ written 10 false (placesW d n / 10 ^ n) ++ digL n (placesW d n) = text 10 false (placesW d n)) ∨ ((text 10 false (placesW d n)).length ≤ n ∧ ∃ Z3, Meets Tryd.prog 28 [.int .i64 ((n : Int) + 1 - ((text 10 false (placesW d n)).length : Int))] (.str Z3) ∧ written 10 false (placesW d n / 10 ^ n) ++ digL n (placesW d n) = Z3 ++ text 10 false (placesW d n) ∧ Z3.length ≤ 10000) := by
    rw [hwp]
    unfold padZ
    by_cases h : (text 10 false (placesW d n)).length ≤ n
    · have hz3 := law11_zeros (n + 1 - (text 10 false (placesW d n)).length) (by omega)
      rw [show ((n + 1 - (text 10 false (placesW d n)).length : Nat) : Int) = (n : Int) + 1 - ((text 10 false (placesW d n)).length : Int) by omega] at hz3
      rw [if_pos h]
      exact .inr ⟨h, _, hz3, rfl, by rw [List.length_replicate]; omega⟩
    · rw [if_neg h]
      exact .inl ⟨h, rfl⟩
  have hs : decide (text 10 false (allD d) = []) = false := decide_eq_false (text_ne (by decide) false b1)
  exact cuts_walk (d : Int) n (by omega) _ hab hab0 (negD d) (text 10 false (allD d)) (allX d) ⟨b5, hx⟩ hs (by omega) c1 c2 hall hfin (List.replicate n 48) (text 10 false (allD d * 10 ^ n)) (text 10 false (rowW (allD d) (ndig (allD d)) n)) A (text 10 false (placesW d n)) [] (written 10 false (placesW d n / 10 ^ n)) (digL n (placesW d n)) (law11_zeros n (by omega)) List.length_replicate t1 hRl hr1 hT1 hA k hk hfig2 hpl (by rw [digL_len]) hwl (keepD d n) (by rw [hkeep, hl]; omega) (by omega) hc hpad

theorem fixed_cuts_row (a n : Int) (h : 0 ≤ a ∧ a < 18446744073709551616) (hn : -9223372036854775808 ≤ n ∧ n ≤ 9223372036854775807) : Meets Tryd.prog 8 [.int .u64 a, .int .i64 n] (.bool true) := by
  obtain ⟨x, rfl⟩ := Int.eq_ofNat_of_zero_le h.1
  exact fixed_cuts x (by omega) n hn
end Go.Proofs.YtjhkpjddcaglnaaDoor

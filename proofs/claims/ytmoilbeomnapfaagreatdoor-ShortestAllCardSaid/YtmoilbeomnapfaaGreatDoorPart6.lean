/- Contracts and laws that the row leans on, part 6: texts that were built one by one, laid together. -/
import Derived.Test.YtmoilbeomnapfaaGreatDoorPart4
import Derived.Test.YtmoilbeomnapfaaGreatDoorPart5
set_option maxHeartbeats 4000000
set_option maxRecDepth 4000
set_option exponentiation.threshold 300000
set_option linter.unusedVariables false
set_option linter.unusedSimpArgs false
namespace Go.Proofs.YtmoilbeomnapfaaGreatDoor
open Go Go.PV
theorem ieee_abs (d : Nat) (hd : d < 18446744073709551616) : Meets Tryz.prog 42 [.int .u64 (d : Int)] (.int .u64 (absD d : Int)) := by
  have h1 := andNot_sign hd
  refine meets_by ttOk Tryz.func42 Tryz.ntmps42 Tryz.results42 (by kernel_rfl) (c := _) rfl rfl rfl fun E => ?_
  simp only [argsFrame]
  have W := h1
  exact walk
theorem ieee_class (d : Nat) (hd : d < 18446744073709551616) : Meets Tryz.prog 21 [.int .u64 (d : Int)] (.int .i64 (classD d)) := by
  have h1 := ieee_abs d hd
  have hp := abs_parts d
  have hf := frac_lt d
  have hb := field_lt d
  refine meets_by ttOk Tryz.func21 Tryz.ntmps21 Tryz.results21 (by kernel_rfl) (c := _) rfl rfl rfl fun E => ?_
  simp only [argsFrame]
  repeat' first
    | (with_reducible first | refine PW.seq ?_ | refine PW.block ?_ | refine PW.fork ?_ | refine PW.skip ?_ | refine PW.exit ?_ | refine PW.ret ?_ | refine PW.scope ?_ | refine PW.label ?_ | refine PW.goto ?_)
    | (with_reducible refine PW.region ttOk ?_ ?_
       · rfl)
    | (with_reducible refine PW.regionD ttOk mixed ?_ ?_ ?_
       · rfl
       · rfl)
    | (with_reducible refine ifW_dec (fun g => ?_) (fun g => ?_) <;> first | (exfalso; omega) | (simp -dsimp only [g, wkI]))
    | (with_reducible refine condE_dec (fun g => ?_) (fun g => ?_) <;> try (exfalso; omega))
    | (with_reducible refine condE_not (fun g => ?_) (fun g => ?_) <;> try (exfalso; omega))
    | (simp -dsimp only [↓wkA, ↓wkE, ↓wkJ, wkB, ↓tt, Nat.reduceBEq, Nat.reduceEqDiff, ↓reduceIte, Nat.reduceLT, Array.toList, Nat.reduceAdd, Nat.reduceMul, Int.reduceToNat, Int.reducePow, UInt8.reduceToNat])
    | (refine call_by (h1) (views_data rfl) ⟨trivial, trivial⟩ rfl ?_)
    | (simp -dsimp (disch := first | assumption | omega) only [dec_t, dec_f])
    | (refine andI ?_)
    | (simp (disch := omega) only [wkW, Int.reduceToNat, Int.reducePow])
    | fail
  all_goals (refine congrArg (PV.int _) ?_; unfold classD; repeat' split)
  all_goals omega
theorem ieee_decode (d : Nat) (hd : d < 18446744073709551616) : Meets Tryz.prog 52 [.int .u64 (d : Int)] (partsP d) := by
  have hc := ieee_class d hd
  have h1 := and_sign hd
  have h2 := and_frac hd
  have h3 := or_hidden (frac_lt d)
  have h4 : ((d : Int)).fdiv (2 ^ min 52 64) = ((d / 4503599627370496 : Nat) : Int) := by
    rw [show (2 : Int) ^ min 52 64 = 4503599627370496 from by decide, fdiv_pos (by decide)]; omega
  have h5 := and_field (x := d / 4503599627370496) (by omega)
  rw [shr_52] at h5
  have hb := field_lt d
  have w1 : IntKind.wrap .i64 ((fieldD d : Nat) : Int) = (fieldD d : Int) := wrap_i64 (by omega)
  have w2 : IntKind.wrap .i64 ((fieldD d : Int) - 1075) = (fieldD d : Int) - 1075 := wrap_i64 (by omega)
  have hn : (!decide ((if 9223372036854775808 ≤ d then (9223372036854775808 : Int) else 0) = 0)) = negD d := by
    unfold negD
    by_cases h : 9223372036854775808 ≤ d
    · rw [if_pos h]; simp [h]
    · rw [if_neg h]; simp [h]
  have hcl := classD_le d
  have hcd : classD d = 1 → fieldD d = 0 := fun h => by unfold classD at h; repeat' split at h <;> omega
  have hce : classD d = 2 → fieldD d ≠ 0 := fun h => by unfold classD at h; repeat' split at h <;> omega
  have hcz : classD d = 0 → fracD d = 0 := fun h => (abs_zero.1 (class_zero.1 h)).2
  have hci : classD d = 3 → fracD d = 0 := fun h => by unfold classD at h; repeat' split at h <;> omega
  have hM : partsM d = if classD d = 1 then (fracD d : Int) else if classD d = 2 then ((4503599627370496 + fracD d : Nat) : Int) else if classD d = 4 then (fracD d : Int) else 0 := by
    unfold partsM mantD
    repeat' split
    all_goals omega
  have hE : partsE d = if classD d = 1 then -1074 else if classD d = 2 then (fieldD d : Int) - 1075 else 0 := by
    unfold partsE expD
    repeat' split
    all_goals omega
  clear hcd hce hcz hci
  unfold partsP
  rw [hM, hE]
  generalize classD d = c at *
  generalize fieldD d = fd at *
  generalize fracD d = fr at *
  clear hM hE
  rcases (show c = 0 ∨ c = 1 ∨ c = 2 ∨ c = 3 ∨ c = 4 by omega) with rfl | rfl | rfl | rfl | rfl
  all_goals (refine meets_by ttOk Tryz.func52 Tryz.ntmps52 Tryz.results52 (by kernel_rfl) (c := _) rfl rfl rfl fun E => ?_; simp only [argsFrame])
  all_goals
    repeat' first
      | (simp only [h1, h2, h3, h4, h5, w1, w2, hn])
      | (with_reducible first | refine PW.seq ?_ | refine PW.block ?_ | refine PW.fork ?_ | refine PW.skip ?_ | refine PW.exit ?_ | refine PW.ret ?_ | refine PW.scope ?_ | refine PW.label ?_ | refine PW.goto ?_)
      | (with_reducible refine PW.region ttOk ?_ ?_
         · rfl)
      | (with_reducible refine PW.regionD ttOk mixed ?_ ?_ ?_
         · rfl
         · rfl)
      | (with_reducible refine ifW_dec (fun g => ?_) (fun g => ?_) <;> first | (exfalso; omega) | (simp -dsimp only [g, wkI]))
      | (with_reducible refine condE_dec (fun g => ?_) (fun g => ?_) <;> try (exfalso; omega))
      | (with_reducible refine condE_not (fun g => ?_) (fun g => ?_) <;> try (exfalso; omega))
      | (simp -dsimp only [↓wkA, ↓wkE, ↓wkJ, wkB, ↓tt, Nat.reduceBEq, Nat.reduceEqDiff, ↓reduceIte, Nat.reduceLT, Array.toList, Nat.reduceAdd, Nat.reduceMul, Int.reduceToNat, Int.reducePow, UInt8.reduceToNat])
      | (refine call_by (hc) (views_data rfl) ⟨trivial, trivial⟩ rfl ?_)
      | (simp -dsimp (disch := first | assumption | omega) only [dec_t, dec_f])
      | (refine andI ?_)
      | (simp (disch := omega) only [wkW, Int.reduceToNat, Int.reducePow])
      | fail
  all_goals simp
theorem ref04_abs (d : Nat) (hd : d < 18446744073709551616) : Meets Tryz.prog 32 [.int .u64 (d : Int)] (.int .u64 (absD d : Int)) := by
  refine meets_by ttOk Tryz.func32 Tryz.ntmps32 Tryz.results32 (by kernel_rfl) (c := _) rfl rfl rfl fun E => ?_
  simp only [argsFrame]
  refine walk1 ?_
  all_goals (refine congrArg (PV.int _) ?_; unfold absD; omega)
theorem ref04_finite (d : Nat) (hd : d < 18446744073709551616) : Meets Tryz.prog 31 [.int .u64 (d : Int)] (.bool (decide (finD d))) := by
  have h1 := ref04_abs d hd
  have hp := abs_parts d
  have hf := frac_lt d
  refine meets_by ttOk Tryz.func31 Tryz.ntmps31 Tryz.results31 (by kernel_rfl) (c := _) rfl rfl rfl fun E => ?_
  simp only [argsFrame]
  refine walk1 ?_
  all_goals (refine congrArg PV.bool ?_; unfold finD; refine decide_eq_decide.2 ?_; omega)
theorem natL_one (x : Nat) (hx : 0 < x ∧ x < 18446744073709551616) : natL x = [(x : Int)] := by
  have h := digs_step (b := 18446744073709551616) (by decide) (v := x) (by omega)
  rw [Nat.mod_eq_of_lt hx.2, Nat.div_eq_of_lt hx.2, digs_zero] at h
  simp [natL, h]
theorem nil_as_ints {f : FuncId} {args : List PV} (k : IntKind) (hm : Meets Tryz.prog f args .nil) : Meets Tryz.prog f args (.ints k []) := hm.mono fun w A v h => rd_nil_ints h
theorem from_uint (x : Nat) (hx : x < 18446744073709551616) : Meets Tryz.prog 95 [.int .u64 (x : Int)] (.ints .u64 (natL x)) := by
  by_cases h0 : x = 0
  · subst h0
    rw [natL_zero]
    refine nil_as_ints .u64 ?_
    refine meets_by ttOk Tryz.func95 Tryz.ntmps95 Tryz.results95 (by kernel_rfl) (c := _) rfl rfl rfl fun E => ?_
    simp only [argsFrame]
    exact walk
  · rw [natL_one x ⟨by omega, hx⟩]
    refine meets_by ttOk Tryz.func95 Tryz.ntmps95 Tryz.results95 (by kernel_rfl) (c := _) rfl rfl rfl fun E => ?_
    simp only [argsFrame]
    repeat' first
      | (with_reducible first | refine PW.seq ?_ | refine PW.block ?_ | refine PW.fork ?_ | refine PW.skip ?_ | refine PW.exit ?_ | refine PW.ret ?_ | refine PW.scope ?_ | refine PW.label ?_ | refine PW.goto ?_)
      | (with_reducible refine PW.region ttOk ?_ ?_
         · rfl)
      | (with_reducible refine PW.regionD ttOk mixed ?_ ?_ ?_
         · rfl
         · rfl)
      | (with_reducible refine ifW_dec (fun g => ?_) (fun g => ?_) <;> first | (exfalso; omega) | (simp -dsimp only [g, wkI]))
      | (with_reducible refine condE_dec (fun g => ?_) (fun g => ?_) <;> try (exfalso; omega))
      | (with_reducible refine condE_not (fun g => ?_) (fun g => ?_) <;> try (exfalso; omega))
      | (simp -dsimp only [↓wkA, ↓wkE, ↓wkJ, wkB, ↓tt, Nat.reduceBEq, Nat.reduceEqDiff, ↓reduceIte, Nat.reduceLT, Array.toList, Nat.reduceAdd, Nat.reduceMul, Int.reduceToNat, Int.reducePow, UInt8.reduceToNat])
      | (exact Nat.le_refl _)
      | (simp -dsimp (disch := first | assumption | omega) only [dec_t, dec_f])
      | (refine andI ?_)
      | (simp (disch := omega) only [wkW, Int.reduceToNat, Int.reducePow])
      | fail
theorem nat_bitlen (v : Nat) (hv : v < NMax) : Meets Tryz.prog 53 [.ints .u64 (natL v)] (.int .i64 ((bitlen v : Nat) : Int)) := by
  have hl := natL_small hv
  have hs := nat_size (natL v) (by omega)
  rw [size_natL] at hs
  by_cases h0 : v = 0
  · subst h0
    rw [natL_zero] at hs ⊢
    have e : ((bitlen 0 : Nat) : Int) = 0 := by decide
    rw [e]
    refine meets_by ttOk Tryz.func53 Tryz.ntmps53 Tryz.results53 (by kernel_rfl) (c := _) rfl rfl rfl fun E => ?_
    simp only [argsFrame]
    exact walk
  obtain ⟨h1, h2⟩ := natL_ge h0
  have h3 := natL_lt v
  obtain ⟨k, hk⟩ : ∃ k, (natL v).length = k + 1 := ⟨(natL v).length - 1, by omega⟩
  have hg := natL_getD v k
  rw [hk] at hs h2 h3 hl
  rw [Nat.add_sub_cancel] at h2
  have hlt : v / 18446744073709551616 ^ k < 18446744073709551616 := by
    rw [Nat.div_lt_iff_lt_mul (Nat.pow_pos (by decide)), Nat.mul_comm, ← Nat.pow_succ]
    exact h3
  rw [Nat.mod_eq_of_lt hlt] at hg
  have hL := len64 ((v / 18446744073709551616 ^ k : Nat) : Int) ⟨Int.natCast_nonneg _, nat64 _ hlt⟩
  rw [Int.toNat_natCast] at hL
  have e2 : (18446744073709551616 : Nat) = 2 ^ 64 := rfl
  have hb : bitlen v = bitlen (v / 18446744073709551616 ^ k) + 64 * k := by
    rw [e2, ← Nat.pow_mul] at h2 ⊢
    exact bitlen_div (64 * k) h2
  have hb2 : bitlen (v / 18446744073709551616 ^ k) ≤ 64 := bitlen_le (k := 64) hlt
  rw [hb]
  generalize v / 18446744073709551616 ^ k = x at *
  generalize bitlen x = B at *
  have ek : ((k + 1 : Nat) : Int) - 1 = (k : Int) := by omega
  have w1 : IntKind.wrap .i64 (k : Int) = (k : Int) := wrap_i64 (by omega)
  have w2 : IntKind.wrap .i64 (64 * (k : Int)) = 64 * (k : Int) := wrap_i64 (by omega)
  have w3 : IntKind.wrap .i64 (64 * (k : Int) + (B : Int)) = ((B + 64 * k : Nat) : Int) := by rw [wrap_i64 (by omega)]; omega
  clear h1 h2 h3 hlt hb hb2
  generalize natL v = a at *
  refine meets_by ttOk Tryz.func53 Tryz.ntmps53 Tryz.results53 (by kernel_rfl) (c := _) rfl rfl rfl fun E => ?_
  simp only [argsFrame]
  have W := cj ek (cj w1 (cj w2 (cj w3 (cj hg Int.toNat_natCast))))
  exact walk
theorem small_one (x : Nat) (hx : 0 < x ∧ x < 18446744073709551616) : Meets Tryz.prog 93 [.ints .u64 [(x : Int)], .int .i64 4096] (.tup [.ints .u64 [(x : Int)], .bool true]) := by
  have h := nat_trim [(x : Int)] (by simp)
  rw [← natL_one x hx, trim_natL, natL_one x hx] at h
  refine meets_by ttOk Tryz.func93 Tryz.ntmps93 Tryz.results93 (by kernel_rfl) (c := _) rfl rfl rfl fun E => ?_
  simp only [argsFrame]
  exact walk
set_option exponentiation.threshold 300000 in
theorem bitlen_one (x : Nat) (hx : 0 < x ∧ x < 18446744073709551616) : Meets Tryz.prog 53 [.ints .u64 [(x : Int)]] (.int .i64 ((bitlen x : Nat) : Int)) := by
  have h := nat_bitlen x (Nat.lt_of_lt_of_le hx.2 (pow64_mono (show 1 ≤ 4096 by decide)))
  rwa [natL_one x hx] at h
abbrev pwG (β n : Nat) (l : List Int) (i : Nat) : PV.Frame := [(10, .int .i64 ((i : Int) - 1)), (9, .ints .u64 l), (6, .ints .u64 [(β : Int)]), (1, .int .i64 (n : Int))]
set_option exponentiation.threshold 300000 in
set_option maxHeartbeats 4000000 in
theorem pow_gen (β c : Nat) (hc1 : 2 ^ c ≤ β) (hc2 : β < 2 ^ (c + 1)) (hc : 1 ≤ c ∧ c ≤ 62) (n : Nat) (hn : n < 9223372036854775807) (R : PV) (hR1 : β ^ n < NMax → R = .tup [.ints .u64 (natL (β ^ n)), .int .i64 0]) (hR2 : ¬ β ^ n < NMax → R = .tup [.nil, .int .i64 2]) :
    Meets Tryz.prog 115 [.ints .u64 [(β : Int)], .int .i64 (n : Int)] R := by
  have hβ64 : β < 18446744073709551616 := Nat.lt_of_lt_of_le hc2 (show 2 ^ (c + 1) ≤ 2 ^ 64 from Nat.pow_le_pow_right (by decide) (by omega))
  have hβ0 : 2 ≤ β := Nat.le_trans (show 2 ^ 1 ≤ 2 ^ c from Nat.pow_le_pow_right (by decide) hc.1) hc1
  have hβN : β < NMax := Nat.lt_of_lt_of_le hβ64 (pow64_mono (show 1 ≤ 4096 by decide))
  have hsm := small_one β ⟨by omega, hβ64⟩
  have hbl1 := bitlen_one β ⟨by omega, hβ64⟩
  rw [bitlen_eq hc1 hc2] at hbl1
  have hnβ := natL_one β ⟨by omega, hβ64⟩
  have hcm : ((c + 1 : Nat) : Int) - 1 = (c : Int) := by omega
  have hwc : IntKind.wrap .i64 (c : Int) = (c : Int) := wrap_i64 (by omega)
  refine meets_by ttOk Tryz.func115 Tryz.ntmps115 Tryz.results115 (by kernel_rfl) (c := _) rfl rfl rfl fun E => ?_
  simp only [argsFrame]
  have hbl := bits_len (n : Int) (by simp only [B64]; omega)
  rw [Int.toNat_natCast] at hbl
  obtain ⟨q', hq'⟩ : ∃ q' : Int, (c : Int) * (n : Int) = q' := ⟨_, rfl⟩
  have hq2 : ((c * n : Nat) : Int) = q' := by rw [← hq']; simp
  have hq3 : (n : Int) < 262144 → 0 ≤ q' ∧ q' ≤ 16252928 := fun h => by
    rw [← hq2]
    have h1 : c * n ≤ 62 * 262144 := Nat.mul_le_mul hc.2 (by omega)
    omega
  have hbigc : 262144 ≤ c * n ∨ 262144 ≤ n → ¬ β ^ n < NMax := fun h => by
    have h1 : 2 ^ (c * n) ≤ β ^ n := by rw [Nat.pow_mul]; exact Nat.pow_le_pow_left hc1 n
    have h2 : 2 ^ 262144 ≤ 2 ^ (c * n) := Nat.pow_le_pow_right (by decide) (h.elim id fun h => Nat.le_trans h (Nat.le_mul_of_pos_left n hc.1))
    rw [nmax_two]
    exact Nat.not_lt.2 (Nat.le_trans h2 h1)
  have hwq : (n : Int) < 262144 → IntKind.wrap .i64 q' = q' := fun h => wrap_i64 (by have := hq3 h; omega)
  have hw : IntKind.wrap .u64 (n : Int) = (n : Int) := wrap_u64 (by omega)
  have h1 : β ^ 0 < NMax := Nat.lt_of_lt_of_le (by rw [Nat.pow_zero]; decide) (pow64_mono (show 1 ≤ 4096 by decide))
  by_cases h0 : n = 0
  · subst h0
    rw [hR1 h1, Nat.pow_zero, natL_oneL]
    repeat' first
      | (with_reducible first | refine PW.seq ?_ | refine PW.block ?_ | refine PW.fork ?_ | refine PW.skip ?_ | refine PW.exit ?_ | refine PW.ret ?_ | refine PW.scope ?_ | refine PW.label ?_ | refine PW.goto ?_)
      | (with_reducible refine PW.region ttOk ?_ ?_
         · rfl)
      | (with_reducible refine PW.regionD ttOk mixed ?_ ?_ ?_
         · rfl
         · rfl)
      | (with_reducible refine ifW_dec (fun g => ?_) (fun g => ?_) <;> first | (exfalso; omega) | (simp -dsimp only [g, wkI]))
      | (with_reducible refine condE_dec (fun g => ?_) (fun g => ?_) <;> try (exfalso; omega))
      | (with_reducible refine condE_not (fun g => ?_) (fun g => ?_) <;> try (exfalso; omega))
      | (simp -dsimp only [↓wkA, ↓wkE, ↓wkJ, wkB, ↓tt, Nat.reduceBEq, Nat.reduceEqDiff, ↓reduceIte, Nat.reduceLT, Array.toList, Nat.reduceAdd, Nat.reduceMul, Int.reduceToNat, Int.reducePow, UInt8.reduceToNat])
      | (refine call_by hsm (views_data rfl) ⟨trivial, trivial, trivial⟩ rfl ?_)
      | (refine call_by hbl1 (views_data rfl) ⟨trivial, trivial⟩ rfl ?_)
      | (exact Nat.le_refl _)
      | (simp -dsimp (disch := first | assumption | omega) only [dec_t, dec_f])
      | (refine andI ?_)
      | (simp (disch := omega) only [wkW, Int.reduceToNat, Int.reducePow])
      | fail
  have hnge : (n : Int) < 262144 ∨ 262144 ≤ (n : Int) := by omega
  by_cases hbig : 262144 ≤ c * n ∨ 262144 ≤ n
  · rw [hR2 (hbigc hbig)]
    repeat' first
      | (simp (disch := omega) only [hw, hcm, hwc, hq', hwq, wkW, Int.reduceToNat, Int.reducePow])
      | (with_reducible first | refine PW.seq ?_ | refine PW.block ?_ | refine PW.fork ?_ | refine PW.skip ?_ | refine PW.exit ?_ | refine PW.ret ?_ | refine PW.scope ?_ | refine PW.label ?_ | refine PW.goto ?_)
      | (with_reducible refine PW.region ttOk ?_ ?_
         · rfl)
      | (with_reducible refine PW.regionD ttOk mixed ?_ ?_ ?_
         · rfl
         · rfl)
      | (with_reducible refine ifW_dec (fun g => ?_) (fun g => ?_) <;> first | (exfalso; omega) | (simp -dsimp only [g, wkI]))
      | (with_reducible refine condE_dec (fun g => ?_) (fun g => ?_) <;> try (exfalso; omega))
      | (with_reducible refine condE_not (fun g => ?_) (fun g => ?_) <;> try (exfalso; omega))
      | (simp -dsimp only [↓wkA, ↓wkE, ↓wkJ, wkB, ↓tt, Nat.reduceBEq, Nat.reduceEqDiff, ↓reduceIte, Nat.reduceLT, Array.toList, Nat.reduceAdd, Nat.reduceMul, Int.reduceToNat, Int.reducePow, UInt8.reduceToNat])
      | (refine call_by hsm (views_data rfl) ⟨trivial, trivial, trivial⟩ rfl ?_)
      | (refine call_by hbl1 (views_data rfl) ⟨trivial, trivial⟩ rfl ?_)
      | (simp -dsimp (disch := first | assumption | omega) only [dec_t, dec_f])
      | (refine andI ?_)
      | (simp (disch := omega) only [wkW, Int.reduceToNat, Int.reducePow])
      | fail
  obtain ⟨L, hL, hL1, hL2⟩ := bitlen_spec h0
  rw [hL] at hbl
  have hL63 : L < 64 := by
    have h3 : 2 ^ L < 2 ^ 64 := Nat.lt_of_le_of_lt hL1 (by simp only [Nat.reducePow]; omega)
    exact (Nat.pow_lt_pow_iff_right (by decide)).1 h3
  repeat' first
    | (simp (disch := omega) only [hw, hcm, hwc, hq', hwq, wkW, Int.reduceToNat, Int.reducePow])
    | (with_reducible first | refine PW.seq ?_ | refine PW.block ?_ | refine PW.fork ?_ | refine PW.skip ?_ | refine PW.exit ?_ | refine PW.ret ?_ | refine PW.scope ?_ | refine PW.label ?_ | refine PW.goto ?_)
    | (with_reducible refine PW.region ttOk ?_ ?_
       · rfl)
    | (with_reducible refine PW.regionD ttOk mixed ?_ ?_ ?_
       · rfl
       · rfl)
    | (with_reducible refine ifW_dec (fun g => ?_) (fun g => ?_) <;> first | (exfalso; omega) | (simp -dsimp only [g, wkI]))
    | (with_reducible refine condE_dec (fun g => ?_) (fun g => ?_) <;> try (exfalso; omega))
    | (with_reducible refine condE_not (fun g => ?_) (fun g => ?_) <;> try (exfalso; omega))
    | (simp -dsimp only [↓wkA, ↓wkE, ↓wkJ, wkB, ↓tt, Nat.reduceBEq, Nat.reduceEqDiff, ↓reduceIte, Nat.reduceLT, Array.toList, Nat.reduceAdd, Nat.reduceMul, Int.reduceToNat, Int.reducePow, UInt8.reduceToNat])
    | (refine call_by hsm (views_data rfl) ⟨trivial, trivial, trivial⟩ rfl ?_)
    | (refine call_by hbl1 (views_data rfl) ⟨trivial, trivial⟩ rfl ?_)
    | (refine call_by hbl (views_data rfl) ⟨trivial, trivial⟩ rfl ?_)
    | (simp -dsimp (disch := first | assumption | omega) only [dec_t, dec_f])
    | (refine andI ?_)
    | (simp (disch := omega) only [wkW, Int.reduceToNat, Int.reducePow])
    | fail
  have hten : natL (β ^ 0) = [1] := by rw [Nat.pow_zero]; exact natL_oneL
  refine PW.meetB (fun F H => β ^ n < NMax ∧ F = [(9, .ints .u64 (natL (β ^ n)))] ∧ H = ⟨1, [], [], []⟩) ?_ ?_
  · refine PW.loopA (fun i F H => i ≤ L + 1 ∧ β ^ (n / 2 ^ i) < NMax ∧ F = pwG β n (natL (β ^ (n / 2 ^ i))) i ∧ H = ⟨1, [], [], []⟩) (L + 1) (pwG β n (natL (β ^ (n / 2 ^ (L + 1)))) (L + 1)) ⟨1, [], [], []⟩ (Sub.trans (toData 9 0 0 1 true rfl (Nat.le_refl _)) (Sub.norm ⟨?_, ?_, rfl, rfl, trivial⟩ trivial (Nat.le_refl _) rfl rfl rfl rfl)) ⟨Nat.le_refl _, ?_, rfl, rfl⟩ ?_
    · simp (disch := omega) only [↓wkA, ↓wkE, ↓wkJ, wkB, ↓tt, Nat.reduceBEq, Nat.reduceEqDiff, ↓reduceIte, Nat.reduceLT, Array.toList, Nat.reduceAdd, Nat.reduceMul, Int.reduceToNat, Int.reducePow, UInt8.reduceToNat, wkW, Int.reduceToNat, Int.reducePow]
    · rw [Nat.div_eq_of_lt hL2, hten]; rfl
    · rw [Nat.div_eq_of_lt hL2]; exact h1
    rintro i F H ⟨hi, hlt, rfl, rfl⟩
    cases i with
    | zero =>
      rw [Nat.pow_zero, Nat.div_one] at hlt ⊢
      refine walk1 ?_
      exact Meet.mk [(9, .ints .u64 (natL (β ^ n)))] ⟨1, [], [], []⟩ (Sub.norm ⟨rfl, trivial⟩ trivial (Nat.le_refl _) rfl rfl rfl rfl) ⟨hlt, rfl, rfl⟩
    | succ i =>
      have e1 : (((i + 1 : Nat)) : Int) - 1 = (i : Int) := by omega
      simp only [pwG, e1]
      have hne : ∀ k, β ^ k ≠ 0 := fun k => Nat.ne_of_gt (Nat.pow_pos (by omega))
      have hstep : n / 2 ^ i = 2 * (n / 2 ^ (i + 1)) + n / 2 ^ i % 2 := by rw [Nat.pow_succ, ← Nat.div_div_eq_div_mul]; omega
      have hmono : ∀ k, k ≤ n / 2 ^ i → ¬ β ^ k < NMax → R = .tup [.nil, .int .i64 2] := fun k hk hb => hR2 fun h => hb (Nat.lt_of_le_of_lt (Nat.pow_le_pow_right (by omega) (Nat.le_trans hk (Nat.div_le_self _ _))) h)
      have hsq : β ^ (n / 2 ^ (i + 1)) * β ^ (n / 2 ^ (i + 1)) = β ^ (2 * (n / 2 ^ (i + 1))) := by rw [← Nat.pow_add]; congr 1; omega
      have hshr : ((n : Int)).fdiv (2 ^ min ((i : Int)).toNat 64) = ((n / 2 ^ i : Nat) : Int) := by
        rw [Int.toNat_natCast, Nat.min_eq_left (by omega), fdiv_pos (Int.le_of_lt (Int.pow_pos (by decide)))]
        simp
      have hwi : IntKind.wrap .u64 (i : Int) = (i : Int) := wrap_u64 (by omega)
      have hqn : n / 2 ^ i ≤ n := Nat.div_le_self _ _
      generalize n / 2 ^ (i + 1) = p at *
      generalize hqe : n / 2 ^ i = q at *
      have hand : ibits .and .i64 ((q : Nat) : Int) 1 = ((q % 2 : Nat) : Int) := by rw [and1_i64 (by omega)]; omega
      by_cases hs : β ^ (2 * p) < NMax
      · have hm1 := mul_nat (hne p) (hne p) hlt hlt (by rw [hsq]; exact hs)
        rw [hsq] at hm1
        by_cases hbit : q % 2 = 1
        · have hq : β ^ (2 * p) * β = β ^ q := by rw [← Nat.pow_succ]; congr 1; omega
          by_cases hs2 : β ^ q < NMax
          · have hm2 := mul_nat (hne (2 * p)) (show β ≠ 0 by omega) hs hβN (by rw [hq]; exact hs2)
            rw [hq, hnβ] at hm2
            have W := cj hwi (cj hshr hand)
            refine walk1 ?_
            exact Again.mk i (pwG β n (natL (β ^ q)) i) ⟨1, [], [], []⟩ (by omega) (Sub.norm ⟨rfl, rfl, rfl, rfl, trivial⟩ trivial (Nat.le_refl _) rfl rfl rfl rfl) ⟨by omega, by rw [hqe]; exact hs2, by rw [hqe], rfl⟩
          · have hm2 := mul_over (hne (2 * p)) (show β ≠ 0 by omega) hs hβN (by rw [hq]; exact hs2)
            rw [hnβ] at hm2
            rw [hmono q (Nat.le_refl _) hs2]
            have W := cj hwi (cj hshr hand)
            exact walk
        · have hq : 2 * p = q := by omega
          rw [hq] at hm1 hs
          have W := cj hwi (cj hshr hand)
          refine walk1 ?_
          exact Again.mk i (pwG β n (natL (β ^ q)) i) ⟨1, [], [], []⟩ (by omega) (Sub.norm ⟨rfl, rfl, rfl, rfl, trivial⟩ trivial (Nat.le_refl _) rfl rfl rfl rfl) ⟨by omega, by rw [hqe]; exact hs, by rw [hqe], rfl⟩
      · have hm1 := mul_over (hne p) (hne p) hlt hlt (by rw [hsq]; exact hs)
        rw [hmono (2 * p) (by omega) hs]
        have W := cj hwi (cj hshr hand)
        exact walk
  rintro F H ⟨hfin, rfl, rfl⟩
  rw [hR1 hfin]
  exact walk
set_option exponentiation.threshold 300000 in
theorem pow5_ok (n : Nat) (hn : n < 9223372036854775807) (h : 5 ^ n < NMax) : Meets Tryz.prog 76 [.int .i64 (n : Int)] (.tup [.ints .u64 (natL (5 ^ n)), .int .i64 0]) := by
  have h1 := pow_gen 5 2 (by decide) (by decide) (by decide) n hn _ (fun _ => rfl) (fun h2 => absurd h h2)
  refine meets_by ttOk Tryz.func76 Tryz.ntmps76 Tryz.results76 (by kernel_rfl) (c := _) rfl rfl rfl fun E => ?_
  simp only [argsFrame]
  repeat' first
    | (with_reducible first | refine PW.seq ?_ | refine PW.block ?_ | refine PW.fork ?_ | refine PW.skip ?_ | refine PW.exit ?_ | refine PW.ret ?_ | refine PW.scope ?_ | refine PW.label ?_ | refine PW.goto ?_)
    | (with_reducible refine PW.region ttOk ?_ ?_
       · rfl)
    | (with_reducible refine PW.regionD ttOk mixed ?_ ?_ ?_
       · rfl
       · rfl)
    | (with_reducible refine ifW_dec (fun g => ?_) (fun g => ?_) <;> first | (exfalso; omega) | (simp -dsimp only [g, wkI]))
    | (with_reducible refine condE_dec (fun g => ?_) (fun g => ?_) <;> try (exfalso; omega))
    | (with_reducible refine condE_not (fun g => ?_) (fun g => ?_) <;> try (exfalso; omega))
    | (simp -dsimp only [↓wkA, ↓wkE, ↓wkJ, wkB, ↓tt, Nat.reduceBEq, Nat.reduceEqDiff, ↓reduceIte, Nat.reduceLT, Array.toList, Nat.reduceAdd, Nat.reduceMul, Int.reduceToNat, Int.reducePow, UInt8.reduceToNat])
    | (refine call_drop (args' := [.ints .u64 [((5 : Nat) : Int)], .int .i64 (n : Int)]) rfl h1 (by simp -dsimp only [okViews, ↓wkA, ↓wkE, ↓wkJ, wkB, ↓tt, Nat.reduceBEq, Nat.reduceEqDiff, ↓reduceIte, Nat.reduceLT, Array.toList, Nat.reduceAdd, Nat.reduceMul, Int.reduceToNat, Int.reducePow, UInt8.reduceToNat]; decide) rfl ?_)
    | (simp -dsimp (disch := first | assumption | omega) only [dec_t, dec_f])
    | (refine andI ?_)
    | (simp (disch := omega) only [wkW, Int.reduceToNat, Int.reducePow])
    | fail
theorem pow64_two (k : Nat) : 18446744073709551616 ^ k = 2 ^ (64 * k) := by rw [Nat.pow_mul]
theorem odd_unique {a b m n : Nat} (h : 2 ^ a * (2 * m + 1) = 2 ^ b * (2 * n + 1)) : a = b := by
  have key : ∀ a c m n : Nat, 2 ^ a * (2 * m + 1) = 2 ^ (a + c) * (2 * n + 1) → c = 0 := by
    intro a c m n h
    rw [Nat.pow_add, Nat.mul_assoc] at h
    have h2 := Nat.eq_of_mul_eq_mul_left (Nat.pow_pos (by decide)) h
    cases c with
    | zero => rfl
    | succ c =>
      rw [Nat.pow_succ, Nat.mul_comm (2 ^ c), Nat.mul_assoc] at h2
      omega
  rcases Nat.le_total a b with hab | hab
  · obtain ⟨c, rfl⟩ := Nat.le.dest hab
    have := key a c m n h; omega
  · obtain ⟨c, rfl⟩ := Nat.le.dest hab
    have := key b c n m h.symm; omega
theorem odd_part {v : Nat} (h : v ≠ 0) : ∃ t m, v = 2 ^ t * (2 * m + 1) := by
  obtain ⟨m, h1, _⟩ := Lib.ctzFrom_spec v v (by omega) Nat.lt_two_pow_self
  exact ⟨_, m, h1⟩
theorem limb_zero {v i : Nat} (h : v % 18446744073709551616 ^ i = 0) (hx : v / 18446744073709551616 ^ i % 18446744073709551616 = 0) : v % 18446744073709551616 ^ (i + 1) = 0 := by
  rw [Nat.pow_succ, Nat.mod_mul, h, hx]; rfl
theorem nat_trail_l {l : List Int} {v t m : Nat} (hl : l.length ≤ 5000) (hg : ∀ k, l.getD k 0 = ((v / 18446744073709551616 ^ k % 18446744073709551616 : Nat) : Int)) (hlt : v < 18446744073709551616 ^ l.length) (hd : v = 2 ^ t * (2 * m + 1)) : Meets Tryz.prog 159 [.ints .u64 l] (.int .i64 (t : Int)) := by
  have hv0 : v ≠ 0 := by rw [hd]; exact Nat.ne_of_gt (Nat.mul_pos (Nat.pow_pos (by decide)) (by omega))
  have hfin : v % 18446744073709551616 ^ l.length ≠ 0 := by rw [Nat.mod_eq_of_lt hlt]; exact hv0
  have hhit : ∀ i, v % 18446744073709551616 ^ i = 0 → v / 18446744073709551616 ^ i % 18446744073709551616 ≠ 0 → t = 64 * i + Lib.ctz 64 (v / 18446744073709551616 ^ i % 18446744073709551616) ∧ Lib.ctz 64 (v / 18446744073709551616 ^ i % 18446744073709551616) < 64 := fun i h1 h2 => by
    obtain ⟨h3, k, h4⟩ := ctz_spec h2 (Nat.mod_lt _ (by decide))
    refine ⟨?_, h3⟩
    generalize Lib.ctz 64 (v / 18446744073709551616 ^ i % 18446744073709551616) = c at *
    have h5 := Nat.div_add_mod v (18446744073709551616 ^ i)
    rw [h1, Nat.add_zero] at h5
    have h6 := Nat.div_add_mod (v / 18446744073709551616 ^ i) 18446744073709551616
    rw [h4] at h6
    generalize v / 18446744073709551616 ^ i / 18446744073709551616 = r at *
    have h7 : (18446744073709551616 : Nat) = 2 ^ c * (2 * 2 ^ (63 - c)) := by
      rw [← Nat.pow_succ', ← Nat.pow_add, show c + (63 - c).succ = 64 by omega]
    have h8 : 18446744073709551616 * r = 2 ^ c * (2 * (2 ^ (63 - c) * r)) := by
      conv => lhs; rw [h7]
      rw [Nat.mul_assoc, Nat.mul_assoc]
    rw [h8, ← Nat.mul_add] at h6
    have h9 : v = 2 ^ (64 * i + c) * (2 * (2 ^ (63 - c) * r + k) + 1) := by
      rw [← h5, ← h6, pow64_two, ← Nat.mul_assoc, ← Nat.pow_add]
      congr 1
      omega
    exact odd_unique (hd.symm.trans h9)
  clear hlt
  refine meets_by ttOk Tryz.func159 Tryz.ntmps159 Tryz.results159 (by kernel_rfl) (c := _) rfl rfl rfl fun E => ?_
  simp only [argsFrame]
  refine walk1 ?_
  refine PW.loopA (fun n F H => ∃ i, i + n = l.length ∧ v % 18446744073709551616 ^ i = 0 ∧ F = [(7, .int .i64 (i : Int)), (6, .int .i64 l.length), (5, .ints .u64 l)] ∧ H = ⟨0, [], [], []⟩) l.length [(7, .int .i64 ((0 : Nat) : Int)), (6, .int .i64 l.length), (5, .ints .u64 l)] ⟨0, [], [], []⟩ (Sub.norm ⟨rfl, rfl, rfl, trivial⟩ trivial (Nat.le_refl _) rfl rfl rfl rfl) ⟨0, by omega, Nat.mod_one _, rfl, rfl⟩ ?_
  rintro n F H ⟨i, hi, hz, rfl, rfl⟩
  cases n with
  | zero =>
    obtain rfl : i = l.length := by omega
    exact absurd hz hfin
  | succ n =>
    have hgi := hg i
    have hhi := hhit i hz
    have hlz := limb_zero hz
    have hxl := Nat.mod_lt (v / 18446744073709551616 ^ i) (show 18446744073709551616 > 0 by decide)
    clear hg hhit hfin hz hd
    generalize v / 18446744073709551616 ^ i % 18446744073709551616 = x at *
    have hil : i < l.length := by omega
    by_cases hx : x = 0
    · subst hx
      have hz2 := hlz rfl
      clear hlz hhi
      have hx0 : ((0 : Nat) : Int) = 0 := rfl
      rw [hx0] at hgi
      have W := cj hgi Int.toNat_natCast
      refine walk1 ?_
      exact Again.mk n [(7, .int .i64 ((i + 1 : Nat) : Int)), (6, .int .i64 l.length), (5, .ints .u64 l)] ⟨0, [], [], []⟩ (by omega) (Sub.norm ⟨rfl, rfl, rfl, trivial⟩ trivial (Nat.le_refl _) rfl rfl rfl rfl) ⟨i + 1, by omega, hz2, rfl, rfl⟩
    · obtain ⟨h1, h2⟩ := hhi hx
      have htr := trailing64 x hxl
      have hne : (x : Int) ≠ 0 := by omega
      have w1 : IntKind.wrap .i64 (64 * (i : Int)) = 64 * (i : Int) := wrap_i64 (by omega)
      have w2 : IntKind.wrap .i64 (64 * (i : Int) + ((Lib.ctz 64 x : Nat) : Int)) = (t : Int) := by rw [wrap_i64 (by omega)]; omega
      have hdec : decide ((x : Int) = 0) = false := decide_eq_false hne
      clear hlz h1 hhi
      generalize Lib.ctz 64 x = c at *
      have W := cj hgi (cj w1 (cj w2 (cj hdec Int.toNat_natCast)))
      exact walk
theorem lost_iff {u t m : Nat} (hd : u = 2 ^ t * (2 * m + 1)) (n : Nat) : t < n ↔ u % 2 ^ n ≠ 0 := by
  constructor
  · intro h h0
    obtain ⟨c, rfl⟩ : ∃ c, n = t + (c + 1) := ⟨n - t - 1, by omega⟩
    rw [hd, Nat.pow_add, Nat.mul_mod_mul_left] at h0
    have h1 : (2 * m + 1) % 2 ^ (c + 1) = 0 := by
      rcases Nat.mul_eq_zero.1 h0 with h | h
      · exact absurd h (Nat.ne_of_gt (Nat.pow_pos (by decide)))
      · exact h
    rw [Nat.pow_succ'] at h1
    have := Nat.mod_mul (x := 2 * m + 1) (a := 2) (b := 2 ^ c)
    omega
  · intro h
    refine Nat.lt_of_not_le fun hle => h ?_
    obtain ⟨c, rfl⟩ := Nat.le.dest hle
    rw [hd, Nat.pow_add, Nat.mul_assoc]
    exact Nat.mul_mod_right _ _
theorem shr_limb (u q p j : Nat) (hp : p < 64) : u / 2 ^ (64 * q + p) / 18446744073709551616 ^ j % 18446744073709551616 =
    (u / 18446744073709551616 ^ (q + j) % 18446744073709551616) / 2 ^ p + (u / 18446744073709551616 ^ (q + j + 1) % 18446744073709551616) * 2 ^ (64 - p) % 18446744073709551616 := by
  rw [Nat.div_div_eq_div_mul, Nat.pow_add 2 (64 * q), ← pow64_two, Nat.mul_right_comm, ← Nat.pow_add, ← Nat.div_div_eq_div_mul, Nat.pow_succ, ← Nat.div_div_eq_div_mul]
  generalize u / 18446744073709551616 ^ (q + j) = w
  have e : (18446744073709551616 : Nat) = 2 ^ p * 2 ^ (64 - p) := by rw [← Nat.pow_add, show p + (64 - p) = 64 by omega]
  have hP : 0 < 2 ^ p := Nat.pow_pos (by decide)
  have hQ : 0 < 2 ^ (64 - p) := Nat.pow_pos (by decide)
  -- w = lo + B hi
  have h1 := Nat.div_add_mod w 18446744073709551616
  generalize w / 18446744073709551616 = h at *
  generalize hlo : w % 18446744073709551616 = lo at *
  have hlo2 : lo < 18446744073709551616 := by rw [← hlo]; exact Nat.mod_lt _ (by decide)
  have e1 : w / 2 ^ p = lo / 2 ^ p + h * 2 ^ (64 - p) := by
    rw [← h1]
    have : 18446744073709551616 * h + lo = lo + 2 ^ p * (h * 2 ^ (64 - p)) := by
      have e' : 18446744073709551616 * h = 2 ^ p * 2 ^ (64 - p) * h := by rw [← e]
      rw [e']; grind
    rw [this, Nat.add_mul_div_left _ _ hP]
  rw [e1]
  have h3 : lo / 2 ^ p < 2 ^ (64 - p) := by
    rw [Nat.div_lt_iff_lt_mul hP, Nat.mul_comm, ← e]; exact hlo2
  -- h * 2^(64-p) mod B is a multiple of 2^(64-p)
  have h4 : h * 2 ^ (64 - p) % 18446744073709551616 = h % 2 ^ p * 2 ^ (64 - p) := by
    rw [e, Nat.mul_mod_mul_right]
  have h5 : h % 18446744073709551616 * 2 ^ (64 - p) % 18446744073709551616 = h % 2 ^ p * 2 ^ (64 - p) := by
    rw [Nat.mod_mul_mod, h4]
  rw [h5, Nat.add_mod, h4]
  have h6 : lo / 2 ^ p + h % 2 ^ p * 2 ^ (64 - p) < 18446744073709551616 := by
    have h7 : h % 2 ^ p + 1 ≤ 2 ^ p := Nat.mod_lt _ hP
    have h8 := Nat.mul_le_mul_right (2 ^ (64 - p)) h7
    rw [← e, Nat.add_mul] at h8
    omega
  rw [Nat.mod_eq_of_lt (show lo / 2 ^ p < 18446744073709551616 from Nat.lt_of_le_of_lt (Nat.div_le_self _ _) hlo2), Nat.mod_eq_of_lt h6]
theorem or_nat {x y k : Nat} (hx : x < 2 ^ k) (hy : y % 2 ^ k = 0) (hy2 : y < 18446744073709551616) (hx2 : x < 18446744073709551616) : ibits .or .u64 (x : Int) (y : Int) = ((x + y : Nat) : Int) := by
  have h2 : ((2 : Int) ^ k) = ((2 ^ k : Nat) : Int) := by simp
  rw [or_apart k ⟨Int.natCast_nonneg _, by rw [h2]; exact Int.ofNat_lt.2 hx⟩ ⟨Int.natCast_nonneg _, by omega⟩ (by rw [h2, ← Int.natCast_emod, hy]; rfl) (by omega)]
  omega
abbrev srF (a : List Int) (q p N i : Nat) (b : Bool) : PV.Frame := [(50, .int .i64 (i : Int)), (49, .int .i64 (N : Int)), (10, .sl 0 0 N true), (9, .int .u64 (p : Int)), (8, .int .i64 (q : Int)), (7, .bool b), (0, .ints .u64 a)]
theorem shr_list (a0 a : List Int) (lim : Nat → Nat) (L n q p N : Nat) (hL : a.length = L) (hL2 : L ≤ 4096) (s1 : Meets Tryz.prog 90 [.ints .u64 a0] (.int .i64 (L : Int))) (b1 : Meets Tryz.prog 97 [.ints .u64 a0] (.bool false)) (htk : a0.take L = a) (h0 : 0 < L) (hg : ∀ k, a.getD k 0 = (lim k : Int)) (hlim : ∀ k, lim k < 18446744073709551616) (htop : ∀ k, L ≤ k → lim k = 0) (hn : n ≤ 9223372036854775807) (hq : n / 64 = q) (hp : n % 64 = p) (hqL : q < L) (hN : N = L - q)
    (out : List Int) (hol : out.length = N) (ho : ∀ j, j < N → out.getD j 0 = ((lim (q + j) / 2 ^ p + lim (q + j + 1) * 2 ^ (64 - p) % 18446744073709551616 : Nat) : Int)) (t : Int) (b : Bool) (hb : decide (t < (n : Int)) = b) (htr : Meets Tryz.prog 159 [.ints .u64 a0] (.int .i64 t)) (res : List Int) (hcut : Meets Tryz.prog 99 [.ints .u64 out] (.tup [.ints .u64 res, .int .i64 0])) :
    Meets Tryz.prog 132 [.ints .u64 a0, .int .i64 (n : Int)] (.tup [.ints .u64 res, .bool b, .int .i64 0]) := by
  have hp64 : p < 64 := by omega
  have e1 : ((n : Int)).tdiv 64 = (q : Int) := by rw [Int.tdiv_eq_ediv_of_nonneg (by omega)]; omega
  have e2 : ((n : Int)).tmod 64 = (p : Int) := by rw [Int.tmod_eq_emod_of_nonneg (by omega)]; omega
  have w1 : IntKind.wrap .i64 (q : Int) = (q : Int) := wrap_i64 (by omega)
  have w2 : IntKind.wrap .u64 (p : Int) = (p : Int) := wrap_u64 (by omega)
  have w3 : IntKind.wrap .i64 ((L : Int) - (q : Int)) = (N : Int) := by rw [wrap_i64 (by omega)]; omega
  have w4 : IntKind.wrap .i64 (64 * (L : Int)) = 64 * (L : Int) := wrap_i64 (by omega)
  have w5 : IntKind.wrap .u64 (64 - (p : Int)) = ((64 - p : Nat) : Int) := by rw [wrap_u64 (by omega)]; omega
  have hnl : (n : Int) < 64 * (L : Int) := by omega
  have hpos : decide ((0 : Int) < (L : Int)) = true := decide_eq_true (by omega)
  have hLa : L ≤ a0.length := by have h := congrArg List.length htk; rw [List.length_take, hL] at h; omega
  refine meets_by ttOk Tryz.func132 Tryz.ntmps132 Tryz.results132 (by kernel_rfl) (c := _) rfl rfl rfl fun E => ?_
  simp only [argsFrame]
  have W := cj htk (cj e1 (cj e2 (cj w1 (cj w2 (cj w3 (cj w4 (cj hb (cj hpos hL))))))))
  refine walk1 ?_
  refine PW.loopA (fun m F H => ∃ i o, i + m = N ∧ o.length = N ∧ (∀ j, j < i → o.getD j 0 = out.getD j 0) ∧ F = srF a q p N i b ∧ H = ⟨1, [(0, .ints .u64 o)], [], []⟩) N (srF a q p N 0 b) ⟨1, [(0, .ints .u64 (List.replicate N 0))], [], []⟩ (Sub.norm ⟨rfl, rfl, rfl, rfl, rfl, rfl, rfl, trivial⟩ ⟨rfl, trivial⟩ (by simp) rfl rfl rfl rfl) ⟨0, _, by omega, by simp, fun j hj => absurd hj (by omega), rfl, rfl⟩ ?_
  rintro m F H ⟨i, o, hi, hoL, hoj, rfl, rfl⟩
  cases m with
  | zero =>
    obtain rfl : i = N := by omega
    obtain rfl : o = out := list_ext (by omega) fun j hj => hoj j (by omega)
    repeat' first
      | (with_reducible first | refine PW.seq ?_ | refine PW.block ?_ | refine PW.fork ?_ | refine PW.skip ?_ | refine PW.exit ?_ | refine PW.ret ?_ | refine PW.scope ?_ | refine PW.label ?_ | refine PW.goto ?_)
      | (with_reducible refine PW.region ttOk ?_ ?_
         · rfl)
      | (with_reducible refine PW.regionD ttOk mixed ?_ ?_ ?_
         · rfl
         · rfl)
      | (with_reducible refine ifW_dec (fun g => ?_) (fun g => ?_) <;> first | (exfalso; omega) | (simp -dsimp only [g, wkI]))
      | (with_reducible refine condE_dec (fun g => ?_) (fun g => ?_) <;> try (exfalso; omega))
      | (with_reducible refine condE_not (fun g => ?_) (fun g => ?_) <;> try (exfalso; omega))
      | (simp -dsimp only [↓wkA, ↓wkE, ↓wkJ, wkB, ↓tt, Nat.reduceBEq, Nat.reduceEqDiff, ↓reduceIte, Nat.reduceLT, Array.toList, Nat.reduceAdd, Nat.reduceMul, Int.reduceToNat, Int.reducePow, UInt8.reduceToNat])
      | (refine call_drop (args' := [.ints .u64 o]) (by simp -dsimp only [↓wkA, ↓wkE, ↓wkJ, wkB, ↓tt, Nat.reduceBEq, Nat.reduceEqDiff, ↓reduceIte, Nat.reduceLT, Array.toList, Nat.reduceAdd, Nat.reduceMul, Int.reduceToNat, Int.reducePow, UInt8.reduceToNat] <;> rw [List.take_of_length_le (by omega)]) hcut (by simp -dsimp only [okViews, ↓wkA, ↓wkE, ↓wkJ, wkB, ↓tt, Nat.reduceBEq, Nat.reduceEqDiff, ↓reduceIte, Nat.reduceLT, Array.toList, Nat.reduceAdd, Nat.reduceMul, Int.reduceToNat, Int.reducePow, UInt8.reduceToNat] <;> omega) rfl ?_)
      | (simp -dsimp (disch := first | assumption | omega) only [dec_t, dec_f])
      | (refine andI ?_)
      | (simp (disch := omega) only [wkW, Int.reduceToNat, Int.reducePow])
      | fail
  | succ m =>
    have hlo := hlim (q + i)
    have hhi := hlim (q + i + 1)
    have g1 := hg (q + i)
    have g2 := hg (q + i + 1)
    have hoi := ho i (by omega)
    have hP : 0 < 2 ^ p := Nat.pow_pos (by decide)
    have hQ : 0 < 2 ^ (64 - p) := Nat.pow_pos (by decide)
    have hPQ : (18446744073709551616 : Nat) = 2 ^ p * 2 ^ (64 - p) := by rw [← Nat.pow_add, show p + (64 - p) = 64 by omega]
    have w6 : IntKind.wrap .i64 ((q : Int) + (i : Int)) = ((q + i : Nat) : Int) := by rw [wrap_i64 (by omega)]; omega
    have w7 : IntKind.wrap .i64 (((q + i : Nat) : Int) + 1) = ((q + i + 1 : Nat) : Int) := by rw [wrap_i64 (by omega)]; omega
    have htopi := htop (q + i + 1)
    generalize lim (q + i) = lo at *
    generalize lim (q + i + 1) = hi' at *
    have e3 : ((lo : Int)).fdiv (2 ^ min p 64) = ((lo / 2 ^ p : Nat) : Int) := by
      rw [Nat.min_eq_left (by omega), Int.fdiv_eq_ediv_of_nonneg _ (by exact_mod_cast Nat.zero_le _)]
      simp
    have e4 : IntKind.wrap .u64 ((hi' : Int) * 2 ^ min (64 - p) 64) = ((hi' * 2 ^ (64 - p) % 18446744073709551616 : Nat) : Int) := by
      rw [wrap_u64', Nat.min_eq_left (by omega)]
      simp
    have hx1 : lo / 2 ^ p < 2 ^ (64 - p) := by
      rw [Nat.div_lt_iff_lt_mul hP, Nat.mul_comm, ← hPQ]; exact hlo
    have hx2 : hi' * 2 ^ (64 - p) % 18446744073709551616 % 2 ^ (64 - p) = 0 := by
      rw [hPQ, Nat.mul_mod_mul_right]
      exact Nat.mul_mod_left _ _
    have hy := Nat.mod_lt (hi' * 2 ^ (64 - p)) (show 18446744073709551616 > 0 by decide)
    have hlo1 : lo / 2 ^ p < 18446744073709551616 := Nat.lt_of_le_of_lt (Nat.div_le_self _ _) hlo
    have hor := or_nat hx1 hx2 hy hlo1
    have hzero : p = 0 → hi' * 2 ^ (64 - p) % 18446744073709551616 = 0 := fun h => by
      subst h
      exact Nat.mul_mod_left _ _
    have hzero2 : L ≤ q + i + 1 → hi' * 2 ^ (64 - p) % 18446744073709551616 = 0 := fun h => by
      rw [htopi h, Nat.zero_mul]
    clear hx1 hx2 hPQ hP hQ htopi
    generalize hi' * 2 ^ (64 - p) % 18446744073709551616 = y at *
    generalize lo / 2 ^ p = x at *
    have hnext : ∀ z : Int, z = ((x + y : Nat) : Int) → ∀ j, j < i + 1 → (o.set i z).getD j 0 = out.getD j 0 := fun z hz j hj => by
      rw [getD_set _ _ _ _ (by omega)]
      by_cases e : j = i
      · rw [if_pos e, e, hoi, hz]
      · rw [if_neg e]; exact hoj j (by omega)
    repeat' first
      | (simp only [e3, e4, w5, w6, w7, g1, g2, hor, hL, Int.toNat_natCast])
      | (with_reducible first | refine PW.seq ?_ | refine PW.block ?_ | refine PW.fork ?_ | refine PW.skip ?_ | refine PW.exit ?_ | refine PW.ret ?_ | refine PW.scope ?_ | refine PW.label ?_ | refine PW.goto ?_)
      | (with_reducible refine PW.region ttOk ?_ ?_
         · rfl)
      | (with_reducible refine PW.regionD ttOk mixed ?_ ?_ ?_
         · rfl
         · rfl)
      | (with_reducible refine ifW_dec (fun g => ?_) (fun g => ?_) <;> first | (exfalso; omega) | (simp -dsimp only [g, wkI]))
      | (with_reducible refine condE_dec (fun g => ?_) (fun g => ?_) <;> try (exfalso; omega))
      | (with_reducible refine condE_not (fun g => ?_) (fun g => ?_) <;> try (exfalso; omega))
      | (simp -dsimp only [↓wkA, ↓wkE, ↓wkJ, wkB, ↓tt, Nat.reduceBEq, Nat.reduceEqDiff, ↓reduceIte, Nat.reduceLT, Array.toList, Nat.reduceAdd, Nat.reduceMul, Int.reduceToNat, Int.reducePow, UInt8.reduceToNat])
      | (simp -dsimp (disch := first | assumption | omega) only [dec_t, dec_f])
      | (refine andI ?_)
      | (simp (disch := omega) only [wkW, Int.reduceToNat, Int.reducePow])
      | fail
    all_goals exact Again.mk m (srF a q p N (i + 1) b) ⟨1, [(0, .ints .u64 _)], [], []⟩ (by omega) (Sub.norm ⟨rfl, rfl, rfl, rfl, rfl, rfl, rfl, trivial⟩ ⟨rfl, trivial⟩ (Nat.le_refl _) rfl rfl rfl rfl) ⟨i + 1, _, by omega, by simp [hoL], hnext _ (by omega), rfl, rfl⟩
theorem nat_shr_l {l : List Int} {u n : Nat} (hl : Limbs l) (hll : l.length ≤ 4096) (hu : val l = u) (hn : n ≤ 9223372036854775807) : Meets Tryz.prog 132 [.ints .u64 l, .int .i64 (n : Int)] (.tup [.ints .u64 (natL (u / 2 ^ n)), .bool (decide (u % 2 ^ n ≠ 0)), .int .i64 0]) := by
  have htk : l.take (size l) = natL u := by
    have := trim_eq hl
    rw [hu, Int.toNat_natCast] at this
    exact this
  have hsz : size l = (natL u).length := by rw [← htk]; exact (trim_len l).symm
  have s1 := nat_size l (by omega)
  have b1 := nat_big l (by omega)
  have hsl := size_le l
  rw [decide_eq_false (by omega)] at b1
  have hvl : u < 18446744073709551616 ^ l.length := by
    have h1 := (vt_bound hl l.length).2
    have h2 : vt l l.length = u := hu
    rw [h2] at h1
    have e : B64 ^ l.length = ((18446744073709551616 ^ l.length : Nat) : Int) := by rw [Int.natCast_pow]; rfl
    rw [e] at h1
    omega
  have huM : u < NMax := Nat.lt_of_lt_of_le hvl (pow64_mono hll)
  rw [hsz] at s1 htk
  by_cases h0 : u = 0
  · subst h0
    rw [natL_zero] at s1 htk
    rw [Nat.zero_div, Nat.zero_mod, natL_zero]
    refine Meets.nil_head .u64 ?_
    simp only [List.length_nil] at htk s1
    refine meets_by ttOk Tryz.func132 Tryz.ntmps132 Tryz.results132 (by kernel_rfl) (c := _) rfl rfl rfl fun E => ?_
    simp only [argsFrame]
    have w0 : IntKind.wrap .i64 (64 * 0) = 0 := rfl
    have hd0 : decide ((0 : Nat) ≠ 0) = false := rfl
    rw [hd0]
    have W := w0
    exact walk
  obtain ⟨t, m, hd⟩ := odd_part h0
  have hgl : ∀ k, l.getD k 0 = ((u / 18446744073709551616 ^ k % 18446744073709551616 : Nat) : Int) := fun k => by
    rw [← natL_getD u k, ← htk]
    by_cases hk : k < (natL u).length
    · rw [getD_take' hk]
    · rw [List.getD_eq_getElem?_getD (l := l.take _), List.getElem?_take, if_neg hk]
      have hz := vt_inj hl (natL_limbs u) l.length (by
        rw [vt_beyond (b := natL u) _ (by omega), val_natL]
        exact hu) k
      by_cases hk2 : k < l.length
      · rw [hz hk2, List.getD_eq_getElem?_getD, List.getElem?_eq_none (by omega)]
      · rw [List.getD_eq_getElem?_getD, List.getElem?_eq_none (by omega)]
  have htr := nat_trail_l (l := l) (by omega) hgl hvl hd
  have hlost : decide ((t : Int) < (n : Int)) = decide (u % 2 ^ n ≠ 0) := decide_eq_decide.2 (by rw [← lost_iff hd n]; omega)
  obtain ⟨h1, _⟩ := natL_ge h0
  have hlt := natL_lt u
  have hul := natL_small huM
  by_cases hbig : 64 * (natL u).length ≤ n
  · have hz : u / 2 ^ n = 0 := Nat.div_eq_of_lt (Nat.lt_of_lt_of_le hlt (by rw [pow64_two]; exact Nat.pow_le_pow_right (by decide) hbig))
    rw [hz, natL_zero]
    have w4 : IntKind.wrap .i64 (64 * ((natL u).length : Int)) = 64 * ((natL u).length : Int) := wrap_i64 (by omega)
    have hpos : decide ((0 : Int) < ((natL u).length : Int)) = true := decide_eq_true (by omega)
    have hLa : (natL u).length ≤ l.length := by omega
    clear hlt hd hz hgl hvl huM hu
    obtain ⟨Qd, hQd⟩ : ∃ b, decide (u % 2 ^ n ≠ 0) = b := ⟨_, rfl⟩
    rw [hQd] at hlost ⊢
    generalize natL u = a at *
    refine Meets.nil_head .u64 ?_
    refine meets_by ttOk Tryz.func132 Tryz.ntmps132 Tryz.results132 (by kernel_rfl) (c := _) rfl rfl rfl fun E => ?_
    simp only [argsFrame]
    have W := cj w4 (cj hlost (cj htk (cj hpos Int.toNat_natCast)))
    exact walk
  · have hv : u / 2 ^ n < 18446744073709551616 ^ ((natL u).length - n / 64) := by
      rw [Nat.div_lt_iff_lt_mul (Nat.pow_pos (by decide)), pow64_two, ← Nat.pow_add]
      rw [pow64_two] at hlt
      exact Nat.lt_of_lt_of_le hlt (Nat.pow_le_pow_right (by decide) (by omega))
    have hvN : u / 2 ^ n < NMax := Nat.lt_of_le_of_lt (Nat.div_le_self _ _) huM
    refine shr_list l (natL u) (fun k => u / 18446744073709551616 ^ k % 18446744073709551616) _ n _ _ _ rfl hul s1 b1 htk h1 (natL_getD u) (fun k => Nat.mod_lt _ (by decide)) (fun k hk => ?_) hn rfl rfl (by omega) rfl (limbsOf ((natL u).length - n / 64) (u / 2 ^ n)) (limbsOf_length _ _) (fun j hj => ?_) t _ hlost htr _ (cut_as (limbsOf_limbs _ _) (by rw [limbsOf_length]; omega) (limbsOf_val hv) hvN)
    · show u / 18446744073709551616 ^ k % 18446744073709551616 = 0
      rw [Nat.div_eq_of_lt (Nat.lt_of_lt_of_le hlt (Nat.pow_le_pow_right (by decide) hk))]
    · rw [limbsOf_getD hj]
      have := shr_limb u (n / 64) (n % 64) j (Nat.mod_lt _ (by decide))
      rw [show 64 * (n / 64) + n % 64 = n by omega] at this
      rw [this]
def rhe (N U : Nat) : Nat := if 2 * (N % U) < U ∨ (2 * (N % U) = U ∧ N / U % 2 = 0) then N / U else N / U + 1
abbrev infB : Nat := 9218868437227405312
def rndU (N D : Nat) : Nat := min (rhe N (D * 2 ^ (bitlen (N / D) - 53)) + (bitlen (N / D) - 53) * 4503599627370496) infB
def upB (more : Bool) (n mv : Nat) : Prop := n / 2 ^ (mv - 1) % 2 = 1 ∧ (more = true ∨ n / 2 ^ mv % 2 = 1 ∨ n % 2 ^ (mv - 1) ≠ 0)
instance (more : Bool) (n mv : Nat) : Decidable (upB more n mv) := inferInstanceAs (Decidable (_ ∧ _))
theorem limbs_zeros (n : Nat) : Limbs (List.replicate n 0) := fun x hx => by rw [List.eq_of_mem_replicate hx]; decide
structure AddS (a b o : List Int) (i : Nat) (c : Int) : Prop where
  len : o.length = a.length + 1
  lim : Limbs o
  car : 0 ≤ c ∧ c ≤ 1
  eq : vt o i + B64 ^ i * c = vt a i + vt b i
theorem AddS.step {a b o : List Int} {i : Nat} {c s : Int} (h : AddS a b o i c) (ha : Limbs a) (hb : Limbs b) (hi : i < a.length) (hs : s = a.getD i 0 + b.getD i 0 + c) : AddS a b (o.set i (s % 18446744073709551616)) (i + 1) (s / 18446744073709551616) := by
  have hlt : i < o.length := by rw [h.len]; omega
  have hx := getD_limb ha i
  have hy := getD_limb hb i
  have hc := h.car
  simp only [B64] at hx hy
  refine ⟨by rw [List.length_set, h.len], limbs_set h.lim _ ⟨Int.emod_nonneg _ (by decide), Int.emod_lt_of_pos _ (by decide)⟩, by omega, ?_⟩
  simp only [vt]
  rw [vt_set_ge _ _ _ _ hlt (Nat.le_refl _), getD_set _ _ _ _ hlt, if_pos rfl, Int.pow_succ]
  have hsum : 18446744073709551616 * (s / 18446744073709551616) + s % 18446744073709551616 = s := Int.mul_ediv_add_emod s 18446744073709551616
  have he := h.eq
  rw [hs] at hsum ⊢
  simp only [B64] at he ⊢
  generalize (18446744073709551616 : Int) ^ i = p at *
  generalize (a.getD i 0 + b.getD i 0 + c) / 18446744073709551616 = q at *
  generalize (a.getD i 0 + b.getD i 0 + c) % 18446744073709551616 = r at *
  grind
theorem AddS.fin {a b o : List Int} {c : Int} (h : AddS a b o a.length c) (hlen : b.length ≤ a.length) : val (o.set a.length c) = val a + val b ∧ Limbs (o.set a.length c) := by
  have hc := h.car
  have hlt : a.length < o.length := by rw [h.len]; omega
  refine ⟨?_, limbs_set h.lim _ ⟨hc.1, by simp only [B64]; omega⟩⟩
  unfold val
  rw [List.length_set, h.len]
  simp only [vt]
  rw [vt_set_ge _ _ _ _ hlt (Nat.le_refl _), getD_set _ _ _ _ hlt, if_pos rfl, h.eq, vt_beyond _ hlen]
  rfl
abbrev adF (x y : List Int) (i : Nat) (c : Int) : PV.Frame := [(38, .int .i64 (i : Int)), (37, .int .i64 x.length), (36, .ints .u64 x), (7, .int .u64 c), (6, .sl 0 0 (x.length + 1) true), (1, .ints .u64 y), (0, .ints .u64 x)]
theorem add_list (a b x y : List Int) (hxy : (a.length < b.length ∧ b = x ∧ a = y) ∨ (¬ a.length < b.length ∧ a = x ∧ b = y)) (ha : Limbs a) (hb : Limbs b) (hla : a.length ≤ 4096) (hlb : b.length ≤ 4096) (hsa : size a = a.length) (hsb : size b = b.length) (v : Nat) (hv : val a + val b = v) (hm : v < NMax) :
    Meets Tryz.prog 57 [.ints .u64 a, .ints .u64 b] (.tup [.ints .u64 (natL v), .int .i64 0]) := by
  have s1 := size_as hla hsa
  have s2 := size_as hlb hsb
  have b1 := big_as hla hsa
  have b2 := big_as hlb hsb
  have hcut : ∀ o, Limbs o → o.length ≤ 100000 → val o = v → Meets Tryz.prog 99 [.ints .u64 o] (.tup [.ints .u64 (natL v), .int .i64 0]) := fun o h1 h2 h3 => cut_as h1 h2 h3 hm
  have hlen : y.length ≤ x.length ∧ x.length ≤ 4096 := by rcases hxy with ⟨h1, rfl, rfl⟩ | ⟨h1, rfl, rfl⟩ <;> omega
  have hlim : Limbs x ∧ Limbs y := by rcases hxy with ⟨h1, rfl, rfl⟩ | ⟨h1, rfl, rfl⟩ <;> exact ⟨by assumption, by assumption⟩
  have hval : val x + val y = v := by rcases hxy with ⟨h1, rfl, rfl⟩ | ⟨h1, rfl, rfl⟩ <;> omega
  have w1 : IntKind.wrap .i64 ((x.length : Int) + 1) = ((x.length + 1 : Nat) : Int) := wrap_i64 (by omega)
  generalize natL v = res at *
  clear hm hsa hsb
  refine meets_by ttOk Tryz.func57 Tryz.ntmps57 Tryz.results57 (by kernel_rfl) (c := _) rfl rfl rfl fun E => ?_
  simp only [argsFrame]
  rcases hxy with ⟨h1, rfl, rfl⟩ | ⟨h1, rfl, rfl⟩
  all_goals
    have W := cj w1 Int.toNat_natCast
    refine walk1 ?_
  case' inl => have hgo := And.intro ha hb; clear hv; generalize hbx : b = x at *; generalize hay : a = y at *
  case' inr => have hgo := And.intro hb ha; clear hv; generalize hbx : a = x at *; generalize hay : b = y at *
  all_goals
    refine PW.loopA (fun m F H => ∃ i o c, i + m = x.length ∧ AddS x y o i c ∧ F = adF x y i c ∧ H = ⟨1, [(0, .ints .u64 o)], [], []⟩) x.length (adF x y 0 0) ⟨1, [(0, .ints .u64 (List.replicate (x.length + 1) 0))], [], []⟩ (Sub.norm ⟨rfl, rfl, rfl, rfl, rfl, rfl, rfl, trivial⟩ ⟨rfl, trivial⟩ (by simp) rfl rfl rfl rfl) ⟨0, _, 0, by omega, ⟨by simp, limbs_zeros _, by decide, by simp [vt]⟩, rfl, rfl⟩ ?_
    rintro m F H ⟨i, o, c, hi, hS, rfl, rfl⟩
    have hol := hS.len
    cases m with
    | zero =>
      obtain rfl : i = x.length := by omega
      obtain ⟨hf, hfl⟩ := hS.fin hlen.1
      have hc := hcut _ hfl (by rw [List.length_set]; omega) (by rw [hf]; exact hval)
      repeat' first
        | (simp only [w1, Int.toNat_natCast])
        | (with_reducible first | refine PW.seq ?_ | refine PW.block ?_ | refine PW.fork ?_ | refine PW.skip ?_ | refine PW.exit ?_ | refine PW.ret ?_ | refine PW.scope ?_ | refine PW.label ?_ | refine PW.goto ?_)
        | (with_reducible refine PW.region ttOk ?_ ?_
           · rfl)
        | (with_reducible refine PW.regionD ttOk mixed ?_ ?_ ?_
           · rfl
           · rfl)
        | (with_reducible refine ifW_dec (fun g => ?_) (fun g => ?_) <;> first | (exfalso; omega) | (simp -dsimp only [g, wkI]))
        | (with_reducible refine condE_dec (fun g => ?_) (fun g => ?_) <;> try (exfalso; omega))
        | (with_reducible refine condE_not (fun g => ?_) (fun g => ?_) <;> try (exfalso; omega))
        | (simp -dsimp only [↓wkA, ↓wkE, ↓wkJ, wkB, ↓tt, Nat.reduceBEq, Nat.reduceEqDiff, ↓reduceIte, Nat.reduceLT, Array.toList, Nat.reduceAdd, Nat.reduceMul, Int.reduceToNat, Int.reducePow, UInt8.reduceToNat])
        | (refine call_drop (args' := [.ints .u64 (o.set x.length c)]) (by simp -dsimp only [↓wkA, ↓wkE, ↓wkJ, wkB, ↓tt, Nat.reduceBEq, Nat.reduceEqDiff, ↓reduceIte, Nat.reduceLT, Array.toList, Nat.reduceAdd, Nat.reduceMul, Int.reduceToNat, Int.reducePow, UInt8.reduceToNat] <;> rw [List.take_of_length_le (by rw [List.length_set]; omega)]) hc (by simp -dsimp only [okViews, ↓wkA, ↓wkE, ↓wkJ, wkB, ↓tt, Nat.reduceBEq, Nat.reduceEqDiff, ↓reduceIte, Nat.reduceLT, Array.toList, Nat.reduceAdd, Nat.reduceMul, Int.reduceToNat, Int.reducePow, UInt8.reduceToNat] <;> rw [List.length_set] <;> omega) rfl ?_)
        | (simp -dsimp (disch := first | assumption | omega) only [dec_t, dec_f])
        | (refine andI ?_)
        | (simp (disch := omega) only [wkW, Int.reduceToNat, Int.reducePow])
        | fail
    | succ m =>
      have hx := getD_limb hlim.1 i
      have hy := getD_limb hlim.2 i
      have hc := hS.car
      simp only [B64] at hx hy
      have hstep := hS.step hlim.1 hlim.2 (by omega) rfl
      have h64 := add64 hx.1 hy.1 hc
      by_cases hib : i < y.length
      · skip
        refine walk1 ?_
        exact Again.mk m (adF x y (i + 1) _) ⟨1, [(0, .ints .u64 _)], [], []⟩ (by omega) (Sub.norm ⟨rfl, rfl, rfl, rfl, rfl, rfl, rfl, trivial⟩ ⟨rfl, trivial⟩ (Nat.le_refl _) rfl rfl rfl rfl) ⟨i + 1, _, _, by omega, hstep, rfl, rfl⟩
      · have hy0 : y.getD i 0 = 0 := by rw [List.getD_eq_getElem?_getD, List.getElem?_eq_none (by omega)]; rfl
        rw [hy0] at h64 hstep
        refine walk1 ?_
        exact Again.mk m (adF x y (i + 1) _) ⟨1, [(0, .ints .u64 _)], [], []⟩ (by omega) (Sub.norm ⟨rfl, rfl, rfl, rfl, rfl, rfl, rfl, trivial⟩ ⟨rfl, trivial⟩ (Nat.le_refl _) rfl rfl rfl rfl) ⟨i + 1, _, _, by omega, hstep, rfl, rfl⟩
theorem add_nat {u v : Nat} (hu : u < NMax) (hv : v < NMax) (h : u + v < NMax) : Meets Tryz.prog 57 [.ints .u64 (natL u), .ints .u64 (natL v)] (.tup [.ints .u64 (natL (u + v)), .int .i64 0]) := by
  by_cases hc : (natL u).length < (natL v).length
  · exact add_list _ _ _ _ (.inl ⟨hc, rfl, rfl⟩) (natL_limbs u) (natL_limbs v) (natL_small hu) (natL_small hv) (size_natL u) (size_natL v) _ (by rw [val_natL, val_natL]; omega) h
  · exact add_list _ _ _ _ (.inr ⟨hc, rfl, rfl⟩) (natL_limbs u) (natL_limbs v) (natL_small hu) (natL_small hv) (size_natL u) (size_natL v) _ (by rw [val_natL, val_natL]; omega) h
structure MuaS (a o : List Int) (k c0 : Int) (i : Nat) (c : Int) : Prop where
  len : o.length = a.length + 1
  lim : Limbs o
  car : 0 ≤ c ∧ c < B64
  eq : vt o i + B64 ^ i * c = vt a i * k + c0
theorem MuaS.step {a o : List Int} {k c0 c s : Int} {i : Nat} (h : MuaS a o k c0 i c) (ha : Limbs a) (hk : 0 ≤ k ∧ k < B64) (hi : i < a.length) (hs : s = a.getD i 0 * k + c) : MuaS a (o.set i (s % 18446744073709551616)) k c0 (i + 1) (s / 18446744073709551616) := by
  have hlt : i < o.length := by rw [h.len]; omega
  have hx := getD_limb ha i
  have hc := h.car
  have hb := mul_bound hx hk
  simp only [B64] at hx hc hk
  refine ⟨by rw [List.length_set, h.len], limbs_set h.lim _ ⟨Int.emod_nonneg _ (by decide), Int.emod_lt_of_pos _ (by decide)⟩, by simp only [B64]; omega, ?_⟩
  simp only [vt]
  rw [vt_set_ge _ _ _ _ hlt (Nat.le_refl _), getD_set _ _ _ _ hlt, if_pos rfl, Int.pow_succ]
  have hsum : 18446744073709551616 * (s / 18446744073709551616) + s % 18446744073709551616 = s := Int.mul_ediv_add_emod s 18446744073709551616
  have he := h.eq
  rw [hs] at hsum ⊢
  simp only [B64] at he ⊢
  generalize (18446744073709551616 : Int) ^ i = p at *
  generalize (a.getD i 0 * k + c) / 18446744073709551616 = q at *
  generalize (a.getD i 0 * k + c) % 18446744073709551616 = r at *
  grind
theorem MuaS.fin {a o : List Int} {k c0 c : Int} (h : MuaS a o k c0 a.length c) : val (o.set a.length c) = val a * k + c0 ∧ Limbs (o.set a.length c) := by
  have hc := h.car
  have hlt : a.length < o.length := by rw [h.len]; omega
  refine ⟨?_, limbs_set h.lim _ hc⟩
  unfold val
  rw [List.length_set, h.len]
  simp only [vt]
  rw [vt_set_ge _ _ _ _ hlt (Nat.le_refl _), getD_set _ _ _ _ hlt, if_pos rfl, h.eq]
structure DivS (a o : List Int) (d : Int) (i : Nat) (r : Int) : Prop where
  len : o.length = a.length
  lim : Limbs o
  car : 0 ≤ r ∧ r < d
  zero : ∀ j, j < i → o.getD j 0 = 0
  eq : vt a a.length = vt a i + vt o a.length * d + B64 ^ i * r
theorem DivS.step {a o : List Int} {d r s : Int} {i : Nat} (h : DivS a o d (i + 1) r) (ha : Limbs a) (hd : 0 < d ∧ d < B64) (hi : i < a.length) (hs : s = r * B64 + a.getD i 0) : DivS a (o.set i (s / d)) d i (s % d) := by
  have hlt : i < o.length := by rw [h.len]; exact hi
  have hx := getD_limb ha i
  have hc := h.car
  have hq : 0 ≤ s / d ∧ s / d < B64 := by
    simp only [B64] at *
    refine ⟨Int.ediv_nonneg (by omega) (by omega), ?_⟩
    rw [Int.ediv_lt_iff_lt_mul hd.1]
    have := Int.mul_le_mul_of_nonneg_right (show r + 1 ≤ d by omega) (show (0 : Int) ≤ 18446744073709551616 by decide)
    omega
  refine ⟨by rw [List.length_set, h.len], limbs_set h.lim _ hq, ⟨Int.emod_nonneg _ (by omega), Int.emod_lt_of_pos _ hd.1⟩, fun j hj => ?_, ?_⟩
  · rw [getD_set _ _ _ _ hlt, if_neg (by omega)]; exact h.zero j (by omega)
  · have he := h.eq
    rw [vt_set_add o i (s / d) hlt a.length hi, h.zero i (by omega)]
    have hsum : d * (s / d) + s % d = s := Int.mul_ediv_add_emod s d
    simp only [vt] at he
    rw [Int.pow_succ] at he
    rw [he]
    rw [hs] at hsum ⊢
    generalize B64 ^ i = p at *
    generalize (r * B64 + a.getD i 0) / d = q at *
    generalize (r * B64 + a.getD i 0) % d = t at *
    generalize B64 = bb at *
    grind
abbrev dsF (a : List Int) (d : Int) (i : Nat) (r : Int) : PV.Frame := [(9, .int .i64 ((i : Int) - 1)), (8, .int .u64 r), (7, .sl 0 0 a.length true), (0, .ints .u64 a), (1, .int .u64 d)]
theorem div_small_list (a : List Int) (ha : Limbs a) (hla : a.length ≤ 4096) (hsa : size a = a.length) (d : Int) (hd : 0 < d ∧ d < B64) (q r : Nat) (hq : val a / d = q) (hr : val a % d = r) (hm : q < NMax) :
    Meets Tryz.prog 94 [.ints .u64 a, .int .u64 d] (.tup [.ints .u64 (natL q), .int .u64 (r : Int), .int .i64 0]) := by
  have s1 := size_as hla hsa
  have b1 := big_as hla hsa
  have hcut : ∀ o, Limbs o → o.length ≤ 100000 → val o = q → Meets Tryz.prog 99 [.ints .u64 o] (.tup [.ints .u64 (natL q), .int .i64 0]) := fun o h1 h2 h3 => cut_as h1 h2 h3 hm
  have w1 : IntKind.wrap .i64 ((a.length : Int) - 1) = (a.length : Int) - 1 := wrap_i64 (by omega)
  have htk : a.take a.length = a := List.take_of_length_le (Nat.le_refl _)
  have hd0 : decide (d = 0) = false := decide_eq_false (by omega)
  generalize natL q = res at *
  clear hm hsa
  refine meets_by ttOk Tryz.func94 Tryz.ntmps94 Tryz.results94 (by kernel_rfl) (c := _) rfl rfl rfl fun E => ?_
  simp only [argsFrame]
  have W := cj w1 (cj htk (cj hd0 Int.toNat_natCast))
  refine walk1 ?_
  refine PW.loopA (fun i F H => ∃ o r, i ≤ a.length ∧ DivS a o d i r ∧ F = dsF a d i r ∧ H = ⟨1, [(0, .ints .u64 o)], [], []⟩) a.length (dsF a d a.length 0) ⟨1, [(0, .ints .u64 (List.replicate a.length 0))], [], []⟩ (Sub.norm ⟨rfl, rfl, rfl, rfl, rfl, trivial⟩ ⟨rfl, trivial⟩ (by simp) rfl rfl rfl rfl) ⟨_, 0, Nat.le_refl _, ⟨by simp, limbs_zeros _, ⟨by omega, hd.1⟩, fun j hj => getD_zeros _ _, by rw [vt_zeros]; simp⟩, rfl, rfl⟩ ?_
  rintro i F H ⟨o, t, hi, hS, rfl, rfl⟩
  have hol := hS.len
  cases i with
  | zero =>
    have he := hS.eq
    have hc := hS.car
    simp only [vt, Int.pow_zero, Int.zero_add, Int.one_mul] at he
    have hvo : val o = vt o a.length := by unfold val; rw [hol]
    have e1 : val o = q := by
      rw [← hq, hvo]
      show _ = vt a a.length / d
      rw [he, Int.add_comm, Int.add_mul_ediv_right _ _ (by omega), Int.ediv_eq_zero_of_lt hc.1 hc.2, Int.zero_add]
    have e2 : t = r := by
      rw [← hr]
      show _ = vt a a.length % d
      rw [he, Int.add_comm, Int.add_mul_emod_self_right, Int.emod_eq_of_lt hc.1 hc.2]
    have hct := hcut o hS.lim (by omega) e1
    subst e2
    repeat' first
      | (with_reducible first | refine PW.seq ?_ | refine PW.block ?_ | refine PW.fork ?_ | refine PW.skip ?_ | refine PW.exit ?_ | refine PW.ret ?_ | refine PW.scope ?_ | refine PW.label ?_ | refine PW.goto ?_)
      | (with_reducible refine PW.region ttOk ?_ ?_
         · rfl)
      | (with_reducible refine PW.regionD ttOk mixed ?_ ?_ ?_
         · rfl
         · rfl)
      | (with_reducible refine ifW_dec (fun g => ?_) (fun g => ?_) <;> first | (exfalso; omega) | (simp -dsimp only [g, wkI]))
      | (with_reducible refine condE_dec (fun g => ?_) (fun g => ?_) <;> try (exfalso; omega))
      | (with_reducible refine condE_not (fun g => ?_) (fun g => ?_) <;> try (exfalso; omega))
      | (simp -dsimp only [↓wkA, ↓wkE, ↓wkJ, wkB, ↓tt, Nat.reduceBEq, Nat.reduceEqDiff, ↓reduceIte, Nat.reduceLT, Array.toList, Nat.reduceAdd, Nat.reduceMul, Int.reduceToNat, Int.reducePow, UInt8.reduceToNat])
      | (refine call_drop (args' := [.ints .u64 o]) (by simp -dsimp only [↓wkA, ↓wkE, ↓wkJ, wkB, ↓tt, Nat.reduceBEq, Nat.reduceEqDiff, ↓reduceIte, Nat.reduceLT, Array.toList, Nat.reduceAdd, Nat.reduceMul, Int.reduceToNat, Int.reducePow, UInt8.reduceToNat] <;> rw [List.take_of_length_le (by omega)]) hct (by simp -dsimp only [okViews, ↓wkA, ↓wkE, ↓wkJ, wkB, ↓tt, Nat.reduceBEq, Nat.reduceEqDiff, ↓reduceIte, Nat.reduceLT, Array.toList, Nat.reduceAdd, Nat.reduceMul, Int.reduceToNat, Int.reducePow, UInt8.reduceToNat] <;> omega) rfl ?_)
      | (simp -dsimp (disch := first | assumption | omega) only [dec_t, dec_f])
      | (refine andI ?_)
      | (simp (disch := omega) only [wkW, Int.reduceToNat, Int.reducePow])
      | fail
  | succ i =>
    have hx := getD_limb ha i
    have hc := hS.car
    have hstep := hS.step ha hd (by omega) rfl
    have h64 := div64 t (a.getD i 0) d hd hc hx
    have e0 : (((i + 1 : Nat) : Int) - 1) = (i : Int) := by omega
    have w2 : IntKind.wrap .i64 ((i : Int) - 1) = (i : Int) - 1 := wrap_i64 (by omega)
    have W := cj e0 (cj w2 Int.toNat_natCast)
    refine walk1 ?_
    exact Again.mk i (dsF a d i _) ⟨1, [(0, .ints .u64 _)], [], []⟩ (by omega) (Sub.norm ⟨rfl, rfl, rfl, rfl, rfl, trivial⟩ ⟨rfl, trivial⟩ (Nat.le_refl _) rfl rfl rfl rfl) ⟨_, _, by omega, hstep, rfl, rfl⟩
theorem div_small_nat {u d : Nat} (hu : u < NMax) (hd : 0 < d ∧ d < 18446744073709551616) : Meets Tryz.prog 94 [.ints .u64 (natL u), .int .u64 (d : Int)] (.tup [.ints .u64 (natL (u / d)), .int .u64 ((u % d : Nat) : Int), .int .i64 0]) :=
  div_small_list _ (natL_limbs u) (natL_small hu) (size_natL u) _ ⟨by omega, by simp only [B64]; omega⟩ _ _ (by rw [val_natL]; rfl) (by rw [val_natL]; rfl) (Nat.lt_of_le_of_lt (Nat.div_le_self _ _) hu)
structure RaiS (a o : List Int) (s n i : Nat) : Prop where
  len : o.length = n
  lim : Limbs o
  eq : i < n → vt o (i + 1) = 2 ^ s * vt a i ∧ o.getD i 0 < 2 ^ s
  fin : i = n → vt o n = 2 ^ s * vt a n
  rest : ∀ k, i < k → o.getD k 0 = 0
theorem RaiS.step {a o : List Int} {s n i : Nat} (h : RaiS a o s n i) (ha : Limbs a) (hs : s < 64) (hi : i < a.length) (hn : i < n) {x : Int} (hx : a.getD i 0 = x) (hfit : i + 1 = n → x * 2 ^ s / B64 = 0) :
    RaiS a (if i + 1 < n then (o.set i (o.getD i 0 + x * 2 ^ s % B64)).set (i + 1) (x * 2 ^ s / B64) else o.set i (o.getD i 0 + x * 2 ^ s % B64)) s n (i + 1) := by
  have hxl := getD_limb ha i
  rw [hx] at hxl
  obtain ⟨p1, p2, p3, p4⟩ := shl_parts s hs hxl
  obtain ⟨e1, e2⟩ := h.eq hn
  have hol := h.len
  have hlo := getD_limb h.lim i
  have h0 : 0 ≤ x * 2 ^ s % B64 := Int.emod_nonneg _ (by decide)
  have hsum : B64 * (x * 2 ^ s / B64) + x * 2 ^ s % B64 = x * 2 ^ s := Int.mul_ediv_add_emod _ _
  have hP : (2 : Int) ^ s ≤ 2 ^ 63 := by exact_mod_cast Nat.pow_le_pow_right (by decide) (show s ≤ 63 by omega)
  have hP2 : (2 : Int) ^ 63 = 9223372036854775808 := by decide
  have hnew : 0 ≤ o.getD i 0 + x * 2 ^ s % B64 ∧ o.getD i 0 + x * 2 ^ s % B64 < B64 := by simp only [B64] at *; omega
  have hhi : 0 ≤ x * 2 ^ s / B64 ∧ x * 2 ^ s / B64 < B64 := by simp only [B64] at *; omega
  have hvt : vt (o.set i (o.getD i 0 + x * 2 ^ s % B64)) (i + 1) + B64 ^ (i + 1) * (x * 2 ^ s / B64) = 2 ^ s * vt a (i + 1) := by
    simp only [vt] at e1 ⊢
    rw [vt_set_ge _ _ _ _ (by omega) (Nat.le_refl _), getD_set _ _ _ _ (by omega), if_pos rfl, hx, Int.pow_succ]
    generalize B64 ^ i = p at *
    generalize x * 2 ^ s / B64 = q at *
    generalize x * 2 ^ s % B64 = r at *
    generalize B64 = bb at *
    grind
  by_cases hc : i + 1 < n
  · rw [if_pos hc]
    refine ⟨by rw [List.length_set, List.length_set, hol], limbs_set (limbs_set h.lim _ hnew) _ hhi, fun _ => ⟨?_, ?_⟩, fun e => by omega, fun k hk => ?_⟩
    · rw [← hvt]
      simp only [vt]
      rw [vt_set_ge _ _ _ _ (by rw [List.length_set]; omega) (by omega), vt_set_ge _ _ _ _ (by omega) (Nat.le_refl _), getD_set _ _ _ _ (by rw [List.length_set]; omega), if_neg (by omega), getD_set _ _ _ _ (by omega), if_pos rfl, getD_set _ _ _ _ (by rw [List.length_set]; omega), if_pos rfl]
    · rw [getD_set _ _ _ _ (by rw [List.length_set]; omega), if_pos rfl]; exact p1
    · rw [getD_set _ _ _ _ (by rw [List.length_set]; omega), if_neg (by omega), getD_set _ _ _ _ (by omega), if_neg (by omega)]; exact h.rest k (by omega)
  · rw [if_neg hc]
    refine ⟨by rw [List.length_set, hol], limbs_set h.lim _ hnew, fun e => absurd e hc, fun e => ?_, fun k hk => ?_⟩
    · rw [hfit e, Int.mul_zero, Int.add_zero] at hvt
      rw [← e]; exact hvt
    · rw [getD_set _ _ _ _ (by omega), if_neg (by omega)]; exact h.rest k (by omega)
abbrev raF (a : List Int) (s n r : Nat) (i : Nat) : PV.Frame := [(14, .int .i64 (i : Int)), (13, .int .i64 a.length), (12, .ints .u64 a), (7, .sl r 0 n true), (1, .int .i64 (s : Int)), (2, .int .i64 (n : Int))]
theorem raised_h (a : List Int) (ha : Limbs a) (s n : Nat) (hs : s < 64) (hn : n ≤ 5000) (han : a.length ≤ n) (v : Nat) (hv : val a * 2 ^ s = v) (hvn : v < 18446744073709551616 ^ n) (nx : Nat) (rows : List (Nat × PV.Row)) (gg : List PV.Frame) (ty : List (Nat × TypeId)) :
    HMeets Tryz.prog 128 [.ints .u64 a, .int .i64 (s : Int), .int .i64 (n : Int)] ⟨nx, rows, gg, ty⟩ fun res H' => ∃ o, o.length = n ∧ Limbs o ∧ val o = v ∧ res = .sl nx 0 n true ∧ H' = ⟨nx + 1, setRow rows nx (.ints .u64 o), gg, (nx, 25) :: ty⟩ := by
  refine hmeets_by ttOk Tryz.func128 Tryz.ntmps128 Tryz.results128 (by kernel_rfl) (c := _) rfl rfl fun E => ?_
  simp only [argsFrame]
  have W := cj Int.toNat_natCast (cj getRow_setRow_self Go.PV.setRow_setRow)
  refine walk1 ?_
  refine PW.loopA (fun m F H => ∃ i o, i + m = a.length ∧ RaiS a o s n i ∧ F = raF a s n nx i ∧ H = ⟨nx + 1, setRow rows nx (.ints .u64 o), gg, (nx, 25) :: ty⟩) a.length (raF a s n nx 0) ⟨nx + 1, setRow rows nx (.ints .u64 (List.replicate n 0)), gg, (nx, 25) :: ty⟩ (Sub.less ⟨rfl, rfl, rfl, rfl, rfl, rfl, trivial⟩ (fun _ _ h => h) rfl rfl) ⟨0, _, by omega, ⟨by simp, limbs_zeros _, fun _ => ⟨by rw [vt_zeros]; simp [vt], by rw [getD_zeros]; exact Int.pow_pos (by decide)⟩, fun e => by rw [vt_zeros, ← e]; simp [vt], fun k _ => getD_zeros _ _⟩, rfl, rfl⟩ ?_
  rintro m F H ⟨i, o, hi, hS, rfl, rfl⟩
  have hol := hS.len
  cases m with
  | zero =>
    obtain rfl : i = a.length := by omega
    have hval : val o = v := by
      rw [← hv]
      have hup := (vt_bound hS.lim n).2
      by_cases hc : a.length = n
      · have := hS.fin hc
        unfold val
        rw [hol, this, hc, Int.mul_comm]
      · obtain ⟨e1, _⟩ := hS.eq (by omega)
        unfold val
        rw [hol, Int.mul_comm, ← e1]
        have : ∀ k, a.length + 1 ≤ k → vt o k = vt o (a.length + 1) := fun k hk => by
          induction k with
          | zero => omega
          | succ k ih =>
            by_cases h : k = a.length
            · rw [h]
            · simp only [vt]
              rw [ih (by omega), hS.rest k (by omega)]
              simp [vt]
        exact this n (by omega)
    clear hvn
    have W := cj Int.toNat_natCast (cj getRow_setRow_self Go.PV.setRow_setRow)
    refine walk1 ?_
    exact ⟨o, hol, hS.lim, hval, rfl⟩
  | succ m =>
    have hx := getD_limb ha i
    have hlo := getD_limb hS.lim i
    obtain ⟨p1, p2, p3, p4⟩ := shl_parts s hs hx
    have hfit : i + 1 = n → a.getD i 0 * 2 ^ s / B64 = 0 := fun e => by
      -- the highest limb's high part counts B^n
      obtain ⟨e1, _⟩ := hS.eq (by omega)
      have hb := (vt_bound ha i).1
      have hval : val a = vt a i + B64 ^ i * a.getD i 0 := by
        unfold val
        rw [show a.length = i + 1 by omega]
        rfl
      have h1 : val a * 2 ^ s < B64 ^ n := by
        rw [hv]
        have e : B64 ^ n = ((18446744073709551616 ^ n : Nat) : Int) := by rw [Int.natCast_pow]; rfl
        rw [e]; exact Int.ofNat_lt.2 hvn
      have h2 : B64 ^ i * (a.getD i 0 * 2 ^ s) ≤ val a * 2 ^ s := by
        rw [hval, Int.add_mul, ← Int.mul_assoc]
        have := Int.mul_nonneg hb (show (0 : Int) ≤ 2 ^ s from Int.le_of_lt (Int.pow_pos (by decide)))
        omega
      have h3 : a.getD i 0 * 2 ^ s < B64 := by
        have : B64 ^ i * (a.getD i 0 * 2 ^ s) < B64 ^ i * B64 := by rw [← Int.pow_succ, show i.succ = n from e]; omega
        exact Int.lt_of_mul_lt_mul_left this (Int.le_of_lt (pow_pos64 i))
      exact Int.ediv_eq_zero_of_lt (Int.mul_nonneg hx.1 (Int.le_of_lt (Int.pow_pos (by decide)))) h3
    have hstep := hS.step ha hs (by omega) (by omega) rfl hfit
    obtain ⟨_, e2⟩ := hS.eq (by omega)
    generalize hax : a.getD i 0 = x at *
    have hQ : (18446744073709551616 : Int) = 2 ^ (64 - s) * 2 ^ s := by rw [← Int.pow_add, show 64 - s + s = 64 by omega]; rfl
    have hshl : IntKind.wrap .u64 (x * 2 ^ min s 64) = x * 2 ^ s % B64 := by rw [wrap_u64', Nat.min_eq_left (by omega)]
    have hor : ibits .or .u64 (o.getD i 0) (x * 2 ^ s % B64) = o.getD i 0 + x * 2 ^ s % B64 := by
      have h0 : 0 ≤ x * 2 ^ s % B64 := Int.emod_nonneg _ (by decide)
      refine or_apart s ⟨hlo.1, e2⟩ ⟨h0, ?_⟩ p2 ?_
      · simp only [B64] at *; omega
      · simp only [B64] at *; omega
    have hshr : s ≠ 0 → x.fdiv (2 ^ min (64 - s) 64) = x * 2 ^ s / B64 := fun h => by
      rw [Nat.min_eq_left (by omega), Int.fdiv_eq_ediv_of_nonneg _ (Int.le_of_lt (Int.pow_pos (by decide)))]
      simp only [B64]
      rw [hQ, Int.mul_ediv_mul_of_pos_left _ _ (Int.pow_pos (by decide))]
    have hs0 : s = 0 → x * 2 ^ s / B64 = 0 := fun h => by
      subst h
      rw [Int.pow_zero, Int.mul_one]
      exact Int.ediv_eq_zero_of_lt hx.1 hx.2
    have hset0 : s = 0 → i + 1 < n → (o.set i (o.getD i 0 + x * 2 ^ s % B64)).set (i + 1) (x * 2 ^ s / B64) = o.set i (o.getD i 0 + x * 2 ^ s % B64) := fun h h2 => by
      rw [hs0 h]
      refine list_ext (by simp) fun j hj => ?_
      rw [List.length_set, List.length_set] at hj
      rw [getD_set _ _ _ _ (by rw [List.length_set]; omega)]
      split
      · rename_i e
        rw [e, getD_set _ _ _ _ (by omega), if_neg (by omega)]
        exact (hS.rest _ (by omega)).symm
      · rfl
    have w1 : IntKind.wrap .u64 (s : Int) = (s : Int) := wrap_u64 (by omega)
    have w2 : IntKind.wrap .i64 ((i : Int) + 1) = ((i + 1 : Nat) : Int) := wrap_i64 (by omega)
    have w3 : IntKind.wrap .i64 (64 - (s : Int)) = ((64 - s : Nat) : Int) := by rw [wrap_i64 (by omega)]; omega
    have w4 : IntKind.wrap .u64 ((64 - s : Nat) : Int) = ((64 - s : Nat) : Int) := wrap_u64 (by omega)
    clear hQ p1 p2 p3 p4 hfit e2 hvn hx hlo
    have again : ∀ o', o' = (if i + 1 < n then (o.set i (o.getD i 0 + x * 2 ^ s % B64)).set (i + 1) (x * 2 ^ s / B64) else o.set i (o.getD i 0 + x * 2 ^ s % B64)) → RaiS a o' s n (i + 1) := fun o' h => by rw [h]; exact hstep
    clear hstep
    generalize x * 2 ^ s % B64 = lo at *
    generalize x * 2 ^ s / B64 = hi' at *
    by_cases hc : i + 1 < n
    · rw [if_pos hc] at again
      by_cases h0 : s = 0
      · have hset := hset0 h0 hc
        have d0 : decide (0 < (s : Int)) = false := decide_eq_false (by omega)
        have W := cj hax (cj Int.toNat_natCast (cj getRow_setRow_self (cj Go.PV.setRow_setRow (cj w1 (cj w2 (cj w3 (cj w4 (cj hshl (cj hor d0)))))))))
        refine walk1 ?_
        exact Again.mk m (raF a s n nx (i + 1)) ⟨nx + 1, setRow rows nx (.ints .u64 (o.set i (o.getD i 0 + lo))), gg, (nx, 25) :: ty⟩ (by omega) (Sub.less ⟨rfl, rfl, rfl, rfl, rfl, rfl, trivial⟩ (fun _ _ h => h) rfl rfl) ⟨i + 1, _, by omega, again _ hset.symm, rfl, rfl⟩
      · have hsh := hshr h0
        have d0 : decide (0 < (s : Int)) = true := decide_eq_true (by omega)
        have W := cj hax (cj Int.toNat_natCast (cj getRow_setRow_self (cj Go.PV.setRow_setRow (cj w1 (cj w2 (cj w3 (cj w4 (cj hshl (cj hor (cj d0 hsh))))))))))
        refine walk1 ?_
        exact Again.mk m (raF a s n nx (i + 1)) ⟨nx + 1, setRow rows nx (.ints .u64 ((o.set i (o.getD i 0 + lo)).set (i + 1) hi')), gg, (nx, 25) :: ty⟩ (by omega) (Sub.less ⟨rfl, rfl, rfl, rfl, rfl, rfl, trivial⟩ (fun _ _ h => h) rfl rfl) ⟨i + 1, _, by omega, again _ rfl, rfl, rfl⟩
    · rw [if_neg hc] at again
      have W := cj hax (cj Int.toNat_natCast (cj getRow_setRow_self (cj Go.PV.setRow_setRow (cj w1 (cj w2 (cj w3 (cj w4 (cj hshl hor))))))))
      refine walk1 ?_
      exact Again.mk m (raF a s n nx (i + 1)) ⟨nx + 1, setRow rows nx (.ints .u64 (o.set i (o.getD i 0 + lo))), gg, (nx, 25) :: ty⟩ (by omega) (Sub.less ⟨rfl, rfl, rfl, rfl, rfl, rfl, trivial⟩ (fun _ _ h => h) rfl rfl) ⟨i + 1, _, by omega, again _ rfl, rfl, rfl⟩
theorem vt_split (l : List Int) (j : Nat) : ∀ k, vt l (j + k) = vt l j + B64 ^ j * vt (l.drop j) k
  | 0 => by simp [vt]
  | k + 1 => by
    rw [← Nat.add_assoc]
    simp only [vt]
    rw [vt_split l j k, getD_drop', Int.pow_add]
    generalize vt (l.drop j) k = y
    generalize B64 ^ j = p
    generalize B64 ^ k = q
    generalize l.getD (j + k) 0 = z
    grind
theorem limbs_drop {l : List Int} (h : Limbs l) (n : Nat) : Limbs (l.drop n) := fun x hx => h x (List.mem_of_mem_drop hx)
theorem vt_low {l : List Int} (h : Limbs l) {n : Nat} (hn : 1 ≤ n) : ∃ lo : Int, 0 ≤ lo ∧ lo < B64 ^ (n - 1) ∧ vt l n = lo + B64 ^ (n - 1) * l.getD (n - 1) 0 := by
  obtain ⟨j, rfl⟩ : ∃ j, n = j + 1 := ⟨n - 1, by omega⟩
  rw [Nat.add_sub_cancel]
  obtain ⟨h1, h2⟩ := vt_bound h j
  exact ⟨vt l j, h1, h2, rfl⟩
def guessV (p v : List Int) (n : Nat) : Int := if v.getD (n - 1) 0 ≤ p.getD n 0 then 18446744073709551615 else (p.getD n 0 * B64 + p.getD (n - 1) 0) / v.getD (n - 1) 0
theorem quot_guess (p v : List Int) (n : Nat) (hp : Limbs p) (hv : Limbs v) (hpl : p.length = n + 1) (hvl : v.length = n) (hn : 1 ≤ n ∧ n ≤ 5000) (hv0 : 0 < v.getD (n - 1) 0) : Meets Tryz.prog 129 [.ints .u64 p, .ints .u64 v] (.int .u64 (guessV p v n)) := by
  have hx := getD_limb hp n
  have hy := getD_limb hp (n - 1)
  have hz := getD_limb hv (n - 1)
  have w1 : IntKind.wrap .i64 ((n : Int) - 1) = ((n - 1 : Nat) : Int) := by rw [wrap_i64 (by omega)]; omega
  unfold guessV
  by_cases hc : v.getD (n - 1) 0 ≤ p.getD n 0
  · rw [if_pos hc]
    have d1 : decide (v.getD (n - 1) 0 ≤ p.getD n 0) = true := decide_eq_true hc
    refine meets_by ttOk Tryz.func129 Tryz.ntmps129 Tryz.results129 (by kernel_rfl) (c := _) rfl rfl rfl fun E => ?_
    simp only [argsFrame]
    have W := cj hvl (cj w1 (cj d1 Int.toNat_natCast))
    exact walk
  · rw [if_neg hc]
    have d1 : decide (v.getD (n - 1) 0 ≤ p.getD n 0) = false := decide_eq_false hc
    have h64 := div64 (p.getD n 0) (p.getD (n - 1) 0) (v.getD (n - 1) 0) ⟨hv0, hz.2⟩ ⟨hx.1, by omega⟩ hy
    refine meets_by ttOk Tryz.func129 Tryz.ntmps129 Tryz.results129 (by kernel_rfl) (c := _) rfl rfl rfl fun E => ?_
    simp only [argsFrame]
    have W := cj hvl (cj w1 (cj d1 Int.toNat_natCast))
    exact walk
theorem guess_ge {p v : List Int} {n : Nat} (hp : Limbs p) (hv : Limbs v) (hn : 1 ≤ n) (hv0 : 0 < v.getD (n - 1) 0) {q : Int} (hq : q * vt v n ≤ vt p (n + 1)) (hlt : vt p (n + 1) < B64 * vt v n) : q ≤ guessV p v n ∧ 0 ≤ guessV p v n ∧ guessV p v n < B64 := by
  have hx := getD_limb hp n
  have hy := getD_limb hp (n - 1)
  have hz := getD_limb hv (n - 1)
  obtain ⟨lo, l1, l2, l3⟩ := vt_low hv hn
  have hvpos : 0 < vt v n := by
    rw [l3]
    have := Int.mul_pos (pow_pos64 (n - 1)) hv0
    omega
  unfold guessV
  split
  · refine ⟨?_, by decide, by decide⟩
    have h1 : q < B64 := by
      refine Int.lt_of_mul_lt_mul_right (a := vt v n) ?_ (Int.le_of_lt hvpos)
      omega
    simp only [B64] at h1; omega
  · rename_i hc
    have hq0 : 0 ≤ (p.getD n 0 * B64 + p.getD (n - 1) 0) / v.getD (n - 1) 0 := Int.ediv_nonneg (by simp only [B64] at *; omega) (by omega)
    refine ⟨?_, hq0, ?_⟩
    · rw [Int.le_ediv_iff_mul_le hv0]
      -- the two highest limbs
      have hp2 : ∃ lo : Int, 0 ≤ lo ∧ lo < B64 ^ (n - 1) ∧ vt p (n + 1) = lo + B64 ^ (n - 1) * (p.getD n 0 * B64 + p.getD (n - 1) 0) := by
        obtain ⟨lo, a1, a2, a3⟩ := vt_low hp hn
        refine ⟨lo, a1, a2, ?_⟩
        have e : B64 ^ n = B64 ^ (n - 1) * B64 := by rw [← Int.pow_succ, show (n - 1).succ = n by omega]
        simp only [vt]
        rw [a3, e]
        generalize B64 ^ (n - 1) = x
        generalize B64 = bb
        grind
      obtain ⟨lp, a1, a2, a3⟩ := hp2
      generalize p.getD n 0 * B64 + p.getD (n - 1) 0 = t at *
      generalize v.getD (n - 1) 0 = y at *
      have hpw := pow_pos64 (n - 1)
      generalize B64 ^ (n - 1) = w at *
      by_cases hq1 : q ≤ 0
      · have h1 : q * y ≤ 0 := Int.mul_nonpos_of_nonpos_of_nonneg hq1 (by omega)
        have h2 : 0 ≤ t := by
          refine Int.le_of_not_gt fun h => ?_
          have := Int.ediv_neg_of_neg_of_pos h hv0
          omega
        omega
      · have h1 : w * (q * y) ≤ q * vt v n := by
          rw [l3, Int.mul_add]
          have h2 : 0 ≤ q * lo := Int.mul_nonneg (by omega) l1
          have e : q * (w * y) = w * (q * y) := by rw [Int.mul_left_comm]
          omega
        have h2 : w * (q * y) < w * (t + 1) := by rw [Int.mul_add, Int.mul_one]; omega
        have := Int.lt_of_mul_lt_mul_left h2 (Int.le_of_lt hpw)
        omega
    · rw [Int.ediv_lt_iff_lt_mul hv0]
      have := Int.mul_le_mul_of_nonneg_right (show p.getD n 0 + 1 ≤ v.getD (n - 1) 0 by omega) (show (0 : Int) ≤ B64 by decide)
      simp only [B64] at *
      omega
structure PartS (l l' : List Int) (off i : Nat) : Prop where
  len : l'.length = l.length
  lim : Limbs l'
  out : ∀ k, k < off ∨ off + i ≤ k → l'.getD k 0 = l.getD k 0
theorem PartS.refl {l : List Int} (h : Limbs l) (off : Nat) : PartS l l off 0 := ⟨rfl, h, fun _ _ => rfl⟩
theorem PartS.set {l l' : List Int} {off i : Nat} (h : PartS l l' off i) (hi : off + i < l.length) {x : Int} (hx : 0 ≤ x ∧ x < B64) : PartS l (l'.set (off + i) x) off (i + 1) :=
  ⟨by rw [List.length_set, h.len], limbs_set h.lim _ hx, fun k hk => by
    rw [getD_set _ _ _ _ (by rw [h.len]; exact hi), if_neg (by omega)]
    exact h.out k (by omega)⟩
theorem drop_set {l : List Int} {off i : Nat} {x : Int} : (l.set (off + i) x).drop off = (l.drop off).set i x := by
  rw [List.drop_set, if_neg (by omega), Nat.add_sub_cancel_left]
theorem part_vt {l l' : List Int} {off i : Nat} (h : PartS l l' off i) (hi : off + i < l.length) (x : Int) : vt ((l'.set (off + i) x).drop off) (i + 1) = vt (l'.drop off) i + B64 ^ i * x := by
  have hl : i < (l'.drop off).length := by rw [List.length_drop, h.len]; omega
  rw [drop_set]
  simp only [vt]
  rw [vt_set_ge _ _ _ _ hl (Nat.le_refl _), getD_set _ _ _ _ hl, if_pos rfl]
abbrev toF (v : List Int) (d : Int) (r off n i : Nat) (c b : Int) : PV.Frame := [(16, .int .i64 (i : Int)), (15, .int .i64 v.length), (14, .ints .u64 v), (7, .int .u64 c), (8, .int .u64 b), (0, .sl r off (n + 1) true), (1, .ints .u64 v), (2, .int .u64 d)]
theorem take_off_h (l v : List Int) (hl : Limbs l) (hv : Limbs v) (d : Int) (hd : 0 ≤ d ∧ d < B64) (off n : Nat) (hvn : v.length = n) (hn : n ≤ 5000) (hll : off + n + 1 ≤ l.length) (hl2 : l.length ≤ 10000) (r nx : Nat) (rows : List (Nat × PV.Row)) (gg : List PV.Frame) (ty : List (Nat × TypeId)) (hr : getRow rows r = some (.ints .u64 l)) :
    HMeets Tryz.prog 130 [.sl r off (n + 1) true, .ints .u64 v, .int .u64 d] ⟨nx, rows, gg, ty⟩ fun res H' => ∃ l' b, PartS l l' off (n + 1) ∧ 0 ≤ b ∧ b ≤ 1 ∧ vt (l'.drop off) (n + 1) = vt (l.drop off) (n + 1) - d * vt v n + B64 ^ (n + 1) * b ∧ res = .bool (decide (b = 1)) ∧ H' = ⟨nx, setRow rows r (.ints .u64 l'), gg, ty⟩ := by
  have hr0 : setRow rows r (.ints .u64 l) = rows ∨ True := .inr trivial
  refine hmeets_by ttOk Tryz.func130 Tryz.ntmps130 Tryz.results130 (by kernel_rfl) (c := _) rfl rfl fun E => ?_
  simp only [argsFrame]
  refine walk1 ?_
  refine PW.loopA (fun m F H => ∃ i l' c b, i + m = n ∧ PartS l l' off i ∧ (0 ≤ c ∧ c < B64) ∧ (0 ≤ b ∧ b ≤ 1) ∧ vt (l'.drop off) i = vt (l.drop off) i - d * vt v i + B64 ^ i * (c + b) ∧ F = toF v d r off n i c b ∧ H = ⟨nx, setRow rows r (.ints .u64 l'), gg, ty⟩) n (toF v d r off n 0 0 0) ⟨nx, setRow rows r (.ints .u64 l), gg, ty⟩ (Sub.less ⟨rfl, rfl, rfl, rfl, rfl, rfl, rfl, rfl, trivial⟩ (fun k row h => by
    rw [getRow_setRow] at h
    split at h
    · rename_i e; subst e; rw [← h]; exact hr
    · exact h) rfl rfl) ⟨0, l, 0, 0, by omega, PartS.refl hl off, by decide, by decide, by simp [vt], rfl, rfl⟩ ?_
  rintro m F H ⟨i, l', c, b, hi, hS, hc, hb, he, rfl, rfl⟩
  have hll' := hS.len
  have hoi : off + i < l.length := by omega
  have hx := getD_limb hl (off + i)
  have hout := hS.out (off + i) (.inr (Nat.le_refl _))
  have hvi := getD_limb hv i
  cases m with
  | zero =>
    obtain rfl : i = n := by omega
    have h64 := sub64 (x := l.getD (off + i) 0) (y := c) (c := b) hx hc hb
    obtain ⟨s, hs⟩ : ∃ s, l.getD (off + i) 0 - c - b = s := ⟨_, rfl⟩
    rw [hs] at h64
    have hw : IntKind.wrap .i64 ((off + i : Nat) : Int) = ((off + i : Nat) : Int) := wrap_i64 (by omega)
    have hres : 0 ≤ -(s / 18446744073709551616) ∧ -(s / 18446744073709551616) ≤ 1 := by simp only [B64] at *; omega
    have hmod : 0 ≤ s % 18446744073709551616 ∧ s % 18446744073709551616 < B64 := ⟨Int.emod_nonneg _ (by decide), Int.emod_lt_of_pos _ (by decide)⟩
    have hfin : vt ((l'.set (off + i) (s % 18446744073709551616)).drop off) (i + 1) = vt (l.drop off) (i + 1) - d * vt v i + B64 ^ (i + 1) * (-(s / 18446744073709551616)) := by
      rw [part_vt hS hoi, he]
      have hsum : 18446744073709551616 * (s / 18446744073709551616) + s % 18446744073709551616 = s := Int.mul_ediv_add_emod s 18446744073709551616
      simp only [vt]
      rw [getD_drop', Int.pow_succ]
      rw [← hs] at hsum ⊢
      simp only [B64]
      generalize (18446744073709551616 : Int) ^ i = p at *
      generalize (l.getD (off + i) 0 - c - b) / 18446744073709551616 = q at *
      generalize (l.getD (off + i) 0 - c - b) % 18446744073709551616 = t at *
      grind
    have hset := hS.set hoi hmod
    clear he hmod
    generalize s % 18446744073709551616 = t at *
    generalize -(s / 18446744073709551616) = q at *
    have W := cj hvn (cj hout (cj Int.toNat_natCast (cj getRow_setRow_self Go.PV.setRow_setRow)))
    refine walk1 ?_
    refine ⟨_, q, hset, hres.1, hres.2, hfin, ?_, rfl⟩
    rcases (show q = 0 ∨ q = 1 by omega) with rfl | rfl <;> rfl
  | succ m =>
    have hmul := mul64 d (v.getD i 0) hd hvi
    have hxy := mul_bound hd hvi
    simp only [B64] at hmul hc hx
    have ha64 := add64 (x := d * v.getD i 0 % 18446744073709551616) (y := c) (c := 0) (by omega) hc.1 (by decide)
    obtain ⟨t, ht⟩ : ∃ t, d * v.getD i 0 + c = t := ⟨_, rfl⟩
    have e1 : (d * v.getD i 0 % 18446744073709551616 + c + 0) % 18446744073709551616 = t % 18446744073709551616 := by omega
    have w2 : IntKind.wrap .u64 (d * v.getD i 0 / 18446744073709551616 + (d * v.getD i 0 % 18446744073709551616 + c + 0) / 18446744073709551616) = t / 18446744073709551616 := by
      rw [wrap_u64 (by omega)]; omega
    rw [e1] at ha64
    have hlo : 0 ≤ t % 18446744073709551616 ∧ t % 18446744073709551616 < 18446744073709551616 := ⟨Int.emod_nonneg _ (by decide), Int.emod_lt_of_pos _ (by decide)⟩
    have hs64 := sub64 (x := l.getD (off + i) 0) (y := t % 18446744073709551616) (c := b) hx hlo hb
    obtain ⟨s, hs⟩ : ∃ s, l.getD (off + i) 0 - t % 18446744073709551616 - b = s := ⟨_, rfl⟩
    rw [hs] at hs64
    have hres : 0 ≤ -(s / 18446744073709551616) ∧ -(s / 18446744073709551616) ≤ 1 := by omega
    have hmod : 0 ≤ s % 18446744073709551616 ∧ s % 18446744073709551616 < B64 := ⟨Int.emod_nonneg _ (by decide), Int.emod_lt_of_pos _ (by decide)⟩
    have hcar : 0 ≤ t / 18446744073709551616 ∧ t / 18446744073709551616 < B64 := by simp only [B64]; omega
    have hfin : vt ((l'.set (off + i) (s % 18446744073709551616)).drop off) (i + 1) = vt (l.drop off) (i + 1) - d * vt v (i + 1) + B64 ^ (i + 1) * (t / 18446744073709551616 + -(s / 18446744073709551616)) := by
      rw [part_vt hS hoi, he]
      have hsum : 18446744073709551616 * (s / 18446744073709551616) + s % 18446744073709551616 = s := Int.mul_ediv_add_emod s 18446744073709551616
      have hsum2 : 18446744073709551616 * (t / 18446744073709551616) + t % 18446744073709551616 = t := Int.mul_ediv_add_emod t 18446744073709551616
      simp only [vt]
      rw [getD_drop', Int.pow_succ]
      rw [← hs] at hsum ⊢
      rw [← ht] at hsum2 hsum ⊢
      simp only [B64]
      generalize (18446744073709551616 : Int) ^ i = p at *
      generalize (l.getD (off + i) 0 - (d * v.getD i 0 + c) % 18446744073709551616 - b) / 18446744073709551616 = q at *
      generalize (l.getD (off + i) 0 - (d * v.getD i 0 + c) % 18446744073709551616 - b) % 18446744073709551616 = u at *
      generalize (d * v.getD i 0 + c) / 18446744073709551616 = q2 at *
      generalize (d * v.getD i 0 + c) % 18446744073709551616 = u2 at *
      grind
    have hset := hS.set hoi hmod
    clear he hmod e1 hlo hxy hx
    generalize s % 18446744073709551616 = u at *
    generalize -(s / 18446744073709551616) = q at *
    have W := cj hout (cj w2 (cj Int.toNat_natCast (cj getRow_setRow_self Go.PV.setRow_setRow)))
    refine walk1 ?_
    exact Again.mk m (toF v d r off n (i + 1) (t / 18446744073709551616) q) ⟨nx, setRow rows r (.ints .u64 (l'.set (off + i) u)), gg, ty⟩ (by omega) (Sub.less ⟨rfl, rfl, rfl, rfl, rfl, rfl, rfl, rfl, trivial⟩ (fun _ _ h => h) rfl rfl) ⟨i + 1, _, _, _, by omega, hset, hcar, hres, hfin, rfl, rfl⟩
abbrev pbF (v : List Int) (r off n i : Nat) (c : Int) : PV.Frame := [(10, .int .i64 (i : Int)), (9, .int .i64 v.length), (8, .ints .u64 v), (5, .int .u64 c), (0, .sl r off (n + 1) true), (1, .ints .u64 v)]
theorem put_back_h (l v : List Int) (hl : Limbs l) (hv : Limbs v) (off n : Nat) (hvn : v.length = n) (hn : n ≤ 5000) (hll : off + n + 1 ≤ l.length) (hl2 : l.length ≤ 10000) (r nx : Nat) (rows : List (Nat × PV.Row)) (gg : List PV.Frame) (ty : List (Nat × TypeId)) (hr : getRow rows r = some (.ints .u64 l)) :
    HMeets Tryz.prog 131 [.sl r off (n + 1) true, .ints .u64 v] ⟨nx, rows, gg, ty⟩ fun res H' => ∃ l' c, PartS l l' off (n + 1) ∧ 0 ≤ c ∧ c ≤ 1 ∧ vt (l'.drop off) (n + 1) + B64 ^ (n + 1) * c = vt (l.drop off) (n + 1) + vt v n ∧ res = .bool (decide (c = 1)) ∧ H' = ⟨nx, setRow rows r (.ints .u64 l'), gg, ty⟩ := by
  refine hmeets_by ttOk Tryz.func131 Tryz.ntmps131 Tryz.results131 (by kernel_rfl) (c := _) rfl rfl fun E => ?_
  simp only [argsFrame]
  refine walk1 ?_
  refine PW.loopA (fun m F H => ∃ i l' c, i + m = n ∧ PartS l l' off i ∧ (0 ≤ c ∧ c ≤ 1) ∧ vt (l'.drop off) i + B64 ^ i * c = vt (l.drop off) i + vt v i ∧ F = pbF v r off n i c ∧ H = ⟨nx, setRow rows r (.ints .u64 l'), gg, ty⟩) n (pbF v r off n 0 0) ⟨nx, setRow rows r (.ints .u64 l), gg, ty⟩ (Sub.less ⟨rfl, rfl, rfl, rfl, rfl, rfl, trivial⟩ (fun k row h => by
    rw [getRow_setRow] at h
    split at h
    · rename_i e; subst e; rw [← h]; exact hr
    · exact h) rfl rfl) ⟨0, l, 0, by omega, PartS.refl hl off, by decide, by simp [vt], rfl, rfl⟩ ?_
  rintro m F H ⟨i, l', c, hi, hS, hc, he, rfl, rfl⟩
  have hll' := hS.len
  have hoi : off + i < l.length := by omega
  have hx := getD_limb hl (off + i)
  have hout := hS.out (off + i) (.inr (Nat.le_refl _))
  have hvi := getD_limb hv i
  cases m with
  | zero =>
    obtain rfl : i = n := by omega
    have h64 := add64 (x := l.getD (off + i) 0) (y := 0) (c := c) hx.1 (by decide) hc
    obtain ⟨s, hs⟩ : ∃ s, l.getD (off + i) 0 + 0 + c = s := ⟨_, rfl⟩
    rw [hs] at h64
    have hres : 0 ≤ s / 18446744073709551616 ∧ s / 18446744073709551616 ≤ 1 := by simp only [B64] at *; omega
    have hmod : 0 ≤ s % 18446744073709551616 ∧ s % 18446744073709551616 < B64 := ⟨Int.emod_nonneg _ (by decide), Int.emod_lt_of_pos _ (by decide)⟩
    have hfin : vt ((l'.set (off + i) (s % 18446744073709551616)).drop off) (i + 1) + B64 ^ (i + 1) * (s / 18446744073709551616) = vt (l.drop off) (i + 1) + vt v i := by
      rw [part_vt hS hoi]
      have hsum : 18446744073709551616 * (s / 18446744073709551616) + s % 18446744073709551616 = s := Int.mul_ediv_add_emod s 18446744073709551616
      simp only [vt]
      rw [getD_drop', Int.pow_succ]
      rw [← hs] at hsum ⊢
      simp only [B64] at he ⊢
      generalize (18446744073709551616 : Int) ^ i = p at *
      generalize (l.getD (off + i) 0 + 0 + c) / 18446744073709551616 = q at *
      generalize (l.getD (off + i) 0 + 0 + c) % 18446744073709551616 = t at *
      grind
    have hset := hS.set hoi hmod
    clear he hmod
    generalize s % 18446744073709551616 = t at *
    generalize s / 18446744073709551616 = q at *
    have W := cj hvn (cj hout (cj Int.toNat_natCast (cj getRow_setRow_self Go.PV.setRow_setRow)))
    refine walk1 ?_
    refine ⟨_, q, hset, hres.1, hres.2, hfin, ?_, rfl⟩
    rcases (show q = 0 ∨ q = 1 by omega) with rfl | rfl <;> rfl
  | succ m =>
    have ha64 := add64 (x := l.getD (off + i) 0) (y := v.getD i 0) (c := c) hx.1 hvi.1 hc
    obtain ⟨s, hs⟩ : ∃ s, l.getD (off + i) 0 + v.getD i 0 + c = s := ⟨_, rfl⟩
    rw [hs] at ha64
    have hres : 0 ≤ s / 18446744073709551616 ∧ s / 18446744073709551616 ≤ 1 := by simp only [B64] at *; omega
    have hmod : 0 ≤ s % 18446744073709551616 ∧ s % 18446744073709551616 < B64 := ⟨Int.emod_nonneg _ (by decide), Int.emod_lt_of_pos _ (by decide)⟩
    have hfin : vt ((l'.set (off + i) (s % 18446744073709551616)).drop off) (i + 1) + B64 ^ (i + 1) * (s / 18446744073709551616) = vt (l.drop off) (i + 1) + vt v (i + 1) := by
      rw [part_vt hS hoi]
      have hsum : 18446744073709551616 * (s / 18446744073709551616) + s % 18446744073709551616 = s := Int.mul_ediv_add_emod s 18446744073709551616
      simp only [vt]
      rw [getD_drop', Int.pow_succ]
      rw [← hs] at hsum ⊢
      simp only [B64] at he ⊢
      generalize (18446744073709551616 : Int) ^ i = p at *
      generalize (l.getD (off + i) 0 + v.getD i 0 + c) / 18446744073709551616 = q at *
      generalize (l.getD (off + i) 0 + v.getD i 0 + c) % 18446744073709551616 = t at *
      grind
    have hset := hS.set hoi hmod
    clear he hmod hx
    generalize s % 18446744073709551616 = u at *
    generalize s / 18446744073709551616 = q at *
    have W := cj hout (cj Int.toNat_natCast (cj getRow_setRow_self Go.PV.setRow_setRow))
    refine walk1 ?_
    exact Again.mk m (pbF v r off n (i + 1) q) ⟨nx, setRow rows r (.ints .u64 (l'.set (off + i) u)), gg, ty⟩ (by omega) (Sub.less ⟨rfl, rfl, rfl, rfl, rfl, rfl, trivial⟩ (fun _ _ h => h) rfl rfl) ⟨i + 1, _, _, by omega, hset, hres, hfin, rfl, rfl⟩
structure LongS (u q : List Int) (U V : Int) (n m J : Nat) : Prop where
  ul : u.length = m + n
  ql : q.length = m
  ulim : Limbs u
  qlim : Limbs q
  zero : ∀ k, k < J → q.getD k 0 = 0
  eq : U = vt u (J + n) + vt q m * V
  top : vt (u.drop J) n < V
theorem LongS.digit {u q u' : List Int} {U V d : Int} {n m j : Nat} (h : LongS u q U V n m (j + 1)) (hj : j < m) (hn : 1 ≤ n) (hV : V < B64 ^ n) (hp : PartS u u' j (n + 1)) (hd : 0 ≤ d ∧ d < B64) (hx : vt (u'.drop j) (n + 1) = vt (u.drop j) (n + 1) - d * V) (hlt : vt (u'.drop j) (n + 1) < V) : LongS u' (q.set j d) U V n m j := by
  have hlo := vt_bound (limbs_drop hp.lim j) n
  have htop : (u'.drop j).getD n 0 = 0 := by
    have hg := getD_limb (limbs_drop hp.lim j) n
    simp only [vt] at hlt
    refine Int.le_antisymm (Int.le_of_not_gt fun h0 => ?_) hg.1
    have h1 : B64 ^ n * 1 ≤ B64 ^ n * (u'.drop j).getD n 0 := Int.mul_le_mul_of_nonneg_left h0 (Int.le_of_lt (pow_pos64 n))
    omega
  have hx2 : vt (u'.drop j) n = vt (u.drop j) (n + 1) - d * V := by
    rw [← hx]; simp only [vt]; rw [htop]; simp
  have hlow : vt u' j = vt u j := vt_same j fun k hk => hp.out k (.inl hk)
  refine ⟨by rw [hp.len, h.ul], by rw [List.length_set, h.ql], hp.lim, limbs_set h.qlim _ hd, fun k hk => ?_, ?_, by rw [hx2, ← hx]; exact hlt⟩
  · rw [getD_set _ _ _ _ (by rw [h.ql]; exact hj), if_neg (by omega)]; exact h.zero k (by omega)
  · rw [vt_set_add q j d (by rw [h.ql]; exact hj) m hj, h.zero j (by omega), vt_split, hx2, hlow, h.eq, show j + 1 + n = j + (n + 1) by omega, vt_split]
    generalize B64 ^ j = p
    generalize vt (u.drop j) (n + 1) = y
    generalize vt u j = x
    generalize vt q m = z
    grind
theorem LongS.part {u q : List Int} {U V : Int} {n m j : Nat} (h : LongS u q U V n m (j + 1)) : vt (u.drop j) (n + 1) < B64 * V := by
  have h1 := h.top
  have hg := getD_limb (limbs_drop h.ulim j) 0
  have e : vt (u.drop j) (n + 1) = (u.drop j).getD 0 0 + B64 * vt (u.drop (j + 1)) n := by
    rw [Nat.add_comm n 1, vt_split, List.drop_drop, show B64 ^ 1 = B64 from rfl]
    simp [vt]
  rw [e]
  have : B64 * (vt (u.drop (j + 1)) n + 1) ≤ B64 * V := Int.mul_le_mul_of_nonneg_left (by omega) (by decide)
  simp only [B64] at *
  omega
abbrev loF (v : List Int) (s n m J : Nat) : PV.Frame := [(11, .int .i64 ((J : Int) - 1)), (6, .int .i64 (n : Int)), (7, .int .i64 (s : Int)), (8, .ints .u64 v), (9, .sl 1 0 (m + n) true), (10, .sl 2 0 m true)]
abbrev loG (v : List Int) (s n m j : Nat) (d : Int) (b : Bool) : PV.Frame := [(14, .bool b), (13, .int .u64 d), (12, .sl 1 j (n + 1) true), (11, .int .i64 (j : Int)), (6, .int .i64 (n : Int)), (7, .int .i64 (s : Int)), (8, .ints .u64 v), (9, .sl 1 0 (m + n) true), (10, .sl 2 0 m true)]
abbrev loH (u q : List Int) : PV.Heap := ⟨3, [(1, .ints .u64 u), (2, .ints .u64 q)], [], []⟩
theorem PartS.trans {l l1 l2 : List Int} {off i : Nat} (h : PartS l l1 off i) (k : PartS l1 l2 off i) : PartS l l2 off i := ⟨by rw [k.len, h.len], k.lim, fun j hj => by rw [k.out j hj, h.out j hj]⟩
theorem quot_long (a b : List Int) (ha : Limbs a) (hb : Limbs b) (n m : Nat) (hbn : b.length = n) (hn : 2 ≤ n) (ham : a.length + 1 = m + n) (hm1 : 1 ≤ m) (hal : a.length ≤ 4096) (htop : 0 < b.getD (n - 1) 0) (A B : Nat) (hA : val a = A) (hB : val b = B) (hB0 : 0 < B) (hAm : A < 18446744073709551616 ^ a.length) (hQ : A / B < NMax) :
    Meets Tryz.prog 96 [.ints .u64 a, .ints .u64 b] (.tup [.ints .u64 (natL (A / B)), .ints .u64 (natL (A % B))]) := by
  have hbt := getD_limb hb (n - 1)
  obtain ⟨s, hs, hs1, hs2, hlead⟩ := leading (b.getD (n - 1) 0) ⟨htop, hbt.2⟩
  have hs64 : s < 64 := by omega
  -- the divisor, raised
  have hBn : B * 2 ^ s < 18446744073709551616 ^ n := by
    obtain ⟨lo, l1, l2, l3⟩ := vt_low hb (show 1 ≤ n by omega)
    have h1 : (B : Int) * 2 ^ s < B64 ^ n := by
      have hv : (B : Int) = vt b n := by rw [← hB]; unfold val; rw [hbn]
      have e : B64 ^ n = B64 ^ (n - 1) * B64 := by rw [← Int.pow_succ, show (n - 1).succ = n by omega]
      rw [hv, l3, e]
      have hP : (0 : Int) < 2 ^ s := Int.pow_pos (by decide)
      have h2 : (lo + 1) * 2 ^ s ≤ B64 ^ (n - 1) * 2 ^ s := Int.mul_le_mul_of_nonneg_right l2 (Int.le_of_lt hP)
      have h3 : B64 ^ (n - 1) * (b.getD (n - 1) 0 * 2 ^ s + 2 ^ s) ≤ B64 ^ (n - 1) * B64 := by
        refine Int.mul_le_mul_of_nonneg_left ?_ (Int.le_of_lt (pow_pos64 _))
        -- both are multiples of 2^s
        have e3 : (B64 : Int) = 2 ^ (64 - s) * 2 ^ s := by rw [← Int.pow_add, show 64 - s + s = 64 by omega]; rfl
        rw [show b.getD (n - 1) 0 * 2 ^ s + 2 ^ s = (b.getD (n - 1) 0 + 1) * 2 ^ s by rw [Int.add_mul, Int.one_mul], e3]
        refine Int.mul_le_mul_of_nonneg_right ?_ (Int.le_of_lt hP)
        rw [e3] at hs2
        have := Int.lt_of_mul_lt_mul_right hs2 (Int.le_of_lt hP)
        omega
      rw [Int.mul_add] at h3
      rw [Int.add_mul, Int.mul_assoc]
      rw [Int.add_mul, Int.one_mul] at h2
      have e4 : B64 ^ (n - 1) * 2 ^ s = B64 ^ (n - 1) * 2 ^ s := rfl
      generalize B64 ^ (n - 1) * (b.getD (n - 1) 0 * 2 ^ s) = x at *
      generalize B64 ^ (n - 1) * 2 ^ s = y at *
      generalize B64 ^ (n - 1) * B64 = z at *
      generalize lo * 2 ^ s = w at *
      omega
    have e : B64 ^ n = ((18446744073709551616 ^ n : Nat) : Int) := by rw [Int.natCast_pow]; rfl
    rw [e] at h1
    have h2 : ((B * 2 ^ s : Nat) : Int) < ((18446744073709551616 ^ n : Nat) : Int) := by rw [Int.natCast_mul, Int.natCast_pow]; exact h1
    exact Int.ofNat_lt.1 h2
  have hAn : A * 2 ^ s < 18446744073709551616 ^ (m + n) := by
    rw [← ham, Nat.pow_succ]
    exact Nat.mul_lt_mul_of_lt_of_le hAm (Nat.le_trans (Nat.pow_le_pow_right (by decide) (show s ≤ 63 by omega)) (by decide)) (by decide)
  have hrv := raised_h b hb s n hs64 (by omega) (by omega) (B * 2 ^ s) (by rw [hB, Int.natCast_mul, Int.natCast_pow]; rfl) hBn
  have hru := raised_h a ha s (m + n) hs64 (by omega) (by omega) (A * 2 ^ s) (by rw [hA, Int.natCast_mul, Int.natCast_pow]; rfl) hAn
  -- what the loops lead to
  have hPs : 0 < 2 ^ s := Nat.two_pow_pos s
  have hdiv : A * 2 ^ s / (B * 2 ^ s) = A / B := Nat.mul_div_mul_right _ _ hPs
  have hmod : A * 2 ^ s % (B * 2 ^ s) = A % B * 2 ^ s := Nat.mul_mod_mul_right ..
  have w1 : IntKind.wrap .i64 ((n : Int) - 1) = ((n - 1 : Nat) : Int) := by rw [wrap_i64 (by omega)]; omega
  have w2 : IntKind.wrap .i64 ((a.length : Int) + 1) = ((m + n : Nat) : Int) := by rw [wrap_i64 (by omega)]; omega
  have w3 : IntKind.wrap .i64 ((a.length : Int) - (n : Int)) = ((m - 1 : Nat) : Int) := by rw [wrap_i64 (by omega)]; omega
  have w4 : IntKind.wrap .i64 (((m - 1 : Nat) : Int) + 1) = (m : Int) := by rw [wrap_i64 (by omega)]; omega
  have w5 : IntKind.wrap .i64 ((m : Int) - 1) = (m : Int) - 1 := wrap_i64 (by omega)
  clear hAn hA hBn
  refine meets_by ttOk Tryz.func96 Tryz.ntmps96 Tryz.results96 (by kernel_rfl) (c := _) rfl rfl rfl fun E => ?_
  simp only [argsFrame]
  repeat' first
    | (with_reducible first | refine PW.seq ?_ | refine PW.block ?_ | refine PW.fork ?_ | refine PW.skip ?_ | refine PW.exit ?_ | refine PW.ret ?_ | refine PW.scope ?_ | refine PW.label ?_ | refine PW.goto ?_)
    | (simp only [hbn, w1, w2, w3, w4, w5, Int.toNat_natCast])
    | (with_reducible refine PW.region ttOk ?_ ?_
       · rfl)
    | (with_reducible refine PW.regionD ttOk mixed ?_ ?_ ?_
       · rfl
       · rfl)
    | (with_reducible refine ifW_dec (fun g => ?_) (fun g => ?_) <;> first | (exfalso; omega) | (simp -dsimp only [g, wkI]))
    | (with_reducible refine condE_dec (fun g => ?_) (fun g => ?_) <;> try (exfalso; omega))
    | (with_reducible refine condE_not (fun g => ?_) (fun g => ?_) <;> try (exfalso; omega))
    | (simp -dsimp only [↓wkA, ↓wkE, ↓wkJ, wkB, ↓tt, Nat.reduceBEq, Nat.reduceEqDiff, ↓reduceIte, Nat.reduceLT, Array.toList, Nat.reduceAdd, Nat.reduceMul, Int.reduceToNat, Int.reducePow, UInt8.reduceToNat])
    | (refine call_by (hlead) (views_data rfl) ⟨trivial, trivial⟩ rfl ?_)
    | (refine call_h (hrv _ _ _ _) ?_; rintro _ _ ⟨v, hvl, hvL, hvV, rfl, rfl⟩; refine ⟨_, _, rfl, ?_⟩)
    | (refine call_h (hru _ _ _ _) ?_; rintro _ _ ⟨u, hul, huL, huV, rfl, rfl⟩; refine ⟨_, _, rfl, ?_⟩)
    | (simp -dsimp (disch := first | assumption | omega) only [dec_t, dec_f])
    | (refine andI ?_)
    | (simp (disch := omega) only [wkW, Int.reduceToNat, Int.reducePow])
    | fail
  have hvv : vt v n = ((B * 2 ^ s : Nat) : Int) := by rw [← hvV]; unfold val; rw [hvl]
  have huu : vt u (m + n) = ((A * 2 ^ s : Nat) : Int) := by rw [← huV]; unfold val; rw [hul]
  have hVlow : B64 ^ (n - 1) * 9223372036854775808 ≤ vt v n := by
    obtain ⟨lo, l1, l2, l3⟩ := vt_low hb (show 1 ≤ n by omega)
    have hv : (B : Int) = vt b n := by rw [← hB]; unfold val; rw [hbn]
    have e : vt v n = (lo + B64 ^ (n - 1) * b.getD (n - 1) 0) * 2 ^ s := by rw [hvv, Int.natCast_mul, Int.natCast_pow, hv, l3]; rfl
    rw [e, Int.add_mul, Int.mul_assoc]
    have h1 := Int.mul_le_mul_of_nonneg_left hs1 (Int.le_of_lt (pow_pos64 (n - 1)))
    have h2 : 0 ≤ lo * 2 ^ s := Int.mul_nonneg l1 (Int.le_of_lt (Int.pow_pos (by decide)))
    omega
  have hVup := (vt_bound hvL n).2
  have hVpos : 0 < vt v n := by
    have := Int.mul_pos (pow_pos64 (n - 1)) (show (0 : Int) < 9223372036854775808 by decide)
    omega
  have hvtop : 0 < v.getD (n - 1) 0 := by
    obtain ⟨lo, l1, l2, l3⟩ := vt_low hvL (show 1 ≤ n by omega)
    refine Int.lt_of_not_ge fun h => ?_
    have h1 : B64 ^ (n - 1) * v.getD (n - 1) 0 ≤ 0 := Int.mul_nonpos_of_nonneg_of_nonpos (Int.le_of_lt (pow_pos64 _)) h
    have h2 : B64 ^ (n - 1) * 1 ≤ B64 ^ (n - 1) * 9223372036854775808 := Int.mul_le_mul_of_nonneg_left (by decide) (Int.le_of_lt (pow_pos64 _))
    omega
  have htop0 : vt (u.drop m) n < vt v n := by
    refine Int.lt_of_lt_of_le ?_ hVlow
    have h1 : B64 ^ m * vt (u.drop m) n ≤ vt u (m + n) := by
      rw [vt_split]
      have := (vt_bound huL m).1
      omega
    have h2 : vt u (m + n) < B64 ^ m * (B64 ^ (n - 1) * 9223372036854775808) := by
      rw [huu, ← Int.mul_assoc, ← Int.pow_add, show m + (n - 1) = a.length by omega, Int.natCast_mul, Int.natCast_pow]
      have hA1 : (A : Int) < B64 ^ a.length := by
        have e : B64 ^ a.length = ((18446744073709551616 ^ a.length : Nat) : Int) := by rw [Int.natCast_pow]; rfl
        rw [e]; exact Int.ofNat_lt.2 hAm
      have hP : (2 : Int) ^ s ≤ 2 ^ 63 := by exact_mod_cast Nat.pow_le_pow_right (by decide) hs
      have hP2 : (2 : Int) ^ 63 = 9223372036854775808 := by decide
      have hP0 : (0 : Int) < 2 ^ s := Int.pow_pos (by decide)
      have k1 : (A : Int) * 2 ^ s ≤ (A : Int) * 9223372036854775808 := Int.mul_le_mul_of_nonneg_left (by omega) (by omega)
      have k2 : (A : Int) * 9223372036854775808 < B64 ^ a.length * 9223372036854775808 := Int.mul_lt_mul_of_pos_right hA1 (by decide)
      have k3 : (A : Int) * ((2 : Nat) : Int) ^ s = (A : Int) * 2 ^ s := rfl
      omega
    exact Int.lt_of_mul_lt_mul_left (Int.lt_of_le_of_lt h1 h2) (Int.le_of_lt (pow_pos64 m))
  have hstart : LongS u (List.replicate m 0) (vt u (m + n)) (vt v n) n m m := ⟨hul, by simp, huL, limbs_zeros _, fun k _ => getD_zeros _ _, by rw [vt_zeros]; simp, htop0⟩
  have hend : ∀ u' q', LongS u' q' (vt u (m + n)) (vt v n) n m 0 → val q' = ((A / B : Nat) : Int) ∧ val (u'.take n) = ((A % B * 2 ^ s : Nat) : Int) := fun u' q' hS => by
    have he := hS.eq
    have ht := hS.top
    rw [List.drop_zero] at ht
    rw [Nat.zero_add, huu] at he
    have hl := (vt_bound hS.ulim n).1
    have hn2 : (u'.take n).length = n := by rw [List.length_take, hS.ul]; omega
    have e1 : vt q' m = ((A / B : Nat) : Int) := by
      rw [← hdiv, Int.natCast_ediv, he, ← hvv, Int.add_mul_ediv_right _ _ (by omega), Int.ediv_eq_zero_of_lt hl ht, Int.zero_add]
    have e2 : vt u' n = ((A % B * 2 ^ s : Nat) : Int) := by
      rw [← hmod, Int.natCast_emod, he, ← hvv, Int.add_mul_emod_self_right, Int.emod_eq_of_lt hl ht]
    refine ⟨by unfold val; rw [hS.ql]; exact e1, ?_⟩
    unfold val
    rw [hn2, ← e2]
    exact vt_same n fun k hk => getD_take' hk
  clear hVlow htop0 hvv huu huV hvV hdiv hmod hs1 hs2 hAm hrv hru hlead
  generalize vt u (m + n) = U at *
  refine PW.loopA (fun J F H => ∃ u q, LongS u q U (vt v n) n m J ∧ J ≤ m ∧ F = loF v s n m J ∧ H = loH u q) m (loF v s n m m) (loH u (List.replicate m 0)) (Sub.trans (toData 8 0 0 n true rfl (show 0 + n ≤ v.length by omega)) (Sub.norm ⟨rfl, rfl, rfl, ?_, rfl, rfl, trivial⟩ ⟨rfl, rfl, trivial⟩ (Nat.le_refl _) rfl rfl rfl rfl (tyOk_spec rfl))) ⟨u, _, hstart, Nat.le_refl _, rfl, rfl⟩ ?_
  · show PV.ints .u64 ((v.drop 0).take n) = _
    rw [List.take_of_length_le (by rw [List.drop_zero]; omega), List.drop_zero]
  clear hstart hul huL
  clear u
  rintro J F H ⟨u, q, hS, hJ, rfl, rfl⟩
  have hul := hS.ul
  have hql := hS.ql
  cases J with
  | zero =>
    obtain ⟨f1, f2⟩ := hend u q hS
    have hsh := nat_shr_l (l := u.take n) (n := s) (limbs_take hS.ulim n) (by rw [List.length_take]; omega) f2 (by omega)
    rw [Nat.mul_div_cancel _ hPs] at hsh
    have htr := nat_trim q (by omega)
    rw [trim_eq hS.qlim, f1, Int.toNat_natCast] at htr
    generalize decide (A % B * 2 ^ s % 2 ^ s ≠ 0) = lost at *
    generalize natL (A / B) = rq at *
    generalize natL (A % B) = rr at *
    clear hS hend f1 f2 hvtop hVpos hVup
    repeat' first
      | (with_reducible first | refine PW.seq ?_ | refine PW.block ?_ | refine PW.fork ?_ | refine PW.skip ?_ | refine PW.exit ?_ | refine PW.ret ?_ | refine PW.scope ?_ | refine PW.label ?_ | refine PW.goto ?_)
      | (simp only [Int.sub_zero, Int.toNat_natCast])
      | (with_reducible refine PW.region ttOk ?_ ?_
         · rfl)
      | (with_reducible refine PW.regionD ttOk mixed ?_ ?_ ?_
         · rfl
         · rfl)
      | (with_reducible refine ifW_dec (fun g => ?_) (fun g => ?_) <;> first | (exfalso; omega) | (simp -dsimp only [g, wkI]))
      | (with_reducible refine condE_dec (fun g => ?_) (fun g => ?_) <;> try (exfalso; omega))
      | (with_reducible refine condE_not (fun g => ?_) (fun g => ?_) <;> try (exfalso; omega))
      | (simp -dsimp only [↓wkA, ↓wkE, ↓wkJ, wkB, ↓tt, Nat.reduceBEq, Nat.reduceEqDiff, ↓reduceIte, Nat.reduceLT, Array.toList, Nat.reduceAdd, Nat.reduceMul, Int.reduceToNat, Int.reducePow, UInt8.reduceToNat])
      | (refine call_drop (args' := [.ints .u64 (u.take n), .int .i64 (s : Int)]) (by simp -dsimp only [↓wkA, ↓wkE, ↓wkJ, wkB, ↓tt, Nat.reduceBEq, Nat.reduceEqDiff, ↓reduceIte, Nat.reduceLT, Array.toList, Nat.reduceAdd, Nat.reduceMul, Int.reduceToNat, Int.reducePow, UInt8.reduceToNat]) hsh (by simp -dsimp only [okViews, ↓wkA, ↓wkE, ↓wkJ, wkB, ↓tt, Nat.reduceBEq, Nat.reduceEqDiff, ↓reduceIte, Nat.reduceLT, Array.toList, Nat.reduceAdd, Nat.reduceMul, Int.reduceToNat, Int.reducePow, UInt8.reduceToNat] <;> omega) rfl ?_; simp only [wkD, Nat.reduceBEq])
      | (refine call_drop (args' := [.ints .u64 q]) (by simp -dsimp only [↓wkA, ↓wkE, ↓wkJ, wkB, ↓tt, Nat.reduceBEq, Nat.reduceEqDiff, ↓reduceIte, Nat.reduceLT, Array.toList, Nat.reduceAdd, Nat.reduceMul, Int.reduceToNat, Int.reducePow, UInt8.reduceToNat] <;> rw [List.take_of_length_le (by omega)]) htr (by simp -dsimp only [okViews, ↓wkA, ↓wkE, ↓wkJ, wkB, ↓tt, Nat.reduceBEq, Nat.reduceEqDiff, ↓reduceIte, Nat.reduceLT, Array.toList, Nat.reduceAdd, Nat.reduceMul, Int.reduceToNat, Int.reducePow, UInt8.reduceToNat] <;> omega) rfl ?_)
      | (simp -dsimp (disch := first | assumption | omega) only [dec_t, dec_f])
      | (refine andI ?_)
      | (simp (disch := omega) only [wkW, Int.reduceToNat, Int.reducePow])
      | fail
  | succ j =>
    have hpart := hS.part
    have hPs0 := (vt_bound (limbs_drop hS.ulim j) (n + 1)).1
    have hpl : ((u.drop j).take (n + 1)).length = n + 1 := by rw [List.length_take, List.length_drop, hul]; omega
    have hpvt : vt ((u.drop j).take (n + 1)) (n + 1) = vt (u.drop j) (n + 1) := vt_same _ fun k hk => getD_take' hk
    obtain ⟨X, hX⟩ : ∃ X, vt (u.drop j) (n + 1) = X := ⟨_, rfl⟩
    have hX0 := hX
    rw [hX] at hpart hPs0 hpvt
    have hqv : X / vt v n * vt v n ≤ X := Int.ediv_mul_le _ (by omega)
    have hq0 : 0 ≤ X / vt v n := Int.ediv_nonneg hPs0 (by omega)
    have hqlt : X < (X / vt v n + 1) * vt v n := by
      have := Int.lt_ediv_add_one_mul_self X hVpos
      exact this
    obtain ⟨qd, hqd⟩ : ∃ qd, X / vt v n = qd := ⟨_, rfl⟩
    rw [hqd] at hqv hq0 hqlt
    have hg := quot_guess ((u.drop j).take (n + 1)) v n (limbs_take (limbs_drop hS.ulim j) _) hvL hpl hvl (by omega) hvtop
    obtain ⟨g1, g2, g3⟩ := guess_ge (q := qd) (limbs_take (limbs_drop hS.ulim j) (n + 1)) hvL (show 1 ≤ n by omega) hvtop (by rw [hpvt]; exact hqv) (by rw [hpvt]; exact hpart)
    generalize guessV ((u.drop j).take (n + 1)) v n = d0 at *
    have hoff := take_off_h u v hS.ulim hvL d0 ⟨g2, g3⟩ j n hvl (by omega) (by omega) (by omega)
    have w6 : IntKind.wrap .i64 ((j : Int) + (n : Int)) = ((j + n : Nat) : Int) := wrap_i64 (by omega)
    have w7 : IntKind.wrap .i64 (((j + n : Nat) : Int) + 1) = ((j + n + 1 : Nat) : Int) := by rw [wrap_i64 (by omega)]; omega
    have w8 : IntKind.wrap .i64 ((j : Int) - 1) = (j : Int) - 1 := wrap_i64 (by omega)
    have e0 : (((j + 1 : Nat) : Int) - 1) = (j : Int) := by omega
    have e1 : (((j + n + 1 : Nat) : Int) - (j : Int)).toNat = n + 1 := by omega
    have hdig := fun u' d h1 h2 h3 h4 => hS.digit (u' := u') (d := d) (by omega) (by omega) hVup h1 h2 h3 h4
    rw [hX] at hoff hdig
    clear hend hpart hpl hpvt hX hqd
    repeat' first
      | (with_reducible first | refine PW.seq ?_ | refine PW.block ?_ | refine PW.fork ?_ | refine PW.skip ?_ | refine PW.exit ?_ | refine PW.ret ?_ | refine PW.scope ?_ | refine PW.label ?_ | refine PW.goto ?_)
      | (simp only [e0, e1, w6, w7, w8, Int.toNat_natCast, Nat.zero_add])
      | (with_reducible refine PW.region ttOk ?_ ?_
         · rfl)
      | (with_reducible refine PW.regionD ttOk mixed ?_ ?_ ?_
         · rfl
         · rfl)
      | (with_reducible refine ifW_dec (fun g => ?_) (fun g => ?_) <;> first | (exfalso; omega) | (simp -dsimp only [g, wkI]))
      | (with_reducible refine condE_dec (fun g => ?_) (fun g => ?_) <;> try (exfalso; omega))
      | (with_reducible refine condE_not (fun g => ?_) (fun g => ?_) <;> try (exfalso; omega))
      | (simp -dsimp only [↓wkA, ↓wkE, ↓wkJ, wkB, ↓tt, Nat.reduceBEq, Nat.reduceEqDiff, ↓reduceIte, Nat.reduceLT, Array.toList, Nat.reduceAdd, Nat.reduceMul, Int.reduceToNat, Int.reducePow, UInt8.reduceToNat])
      | (refine call_by' (args' := [.ints .u64 ((u.drop j).take (n + 1)), .ints .u64 v]) (by simp -dsimp only [↓wkA, ↓wkE, ↓wkJ, wkB, ↓tt, Nat.reduceBEq, Nat.reduceEqDiff, ↓reduceIte, Nat.reduceLT, Array.toList, Nat.reduceAdd, Nat.reduceMul, Int.reduceToNat, Int.reducePow, UInt8.reduceToNat]) hg (by simp -dsimp only [okViews, ↓wkA, ↓wkE, ↓wkJ, wkB, ↓tt, Nat.reduceBEq, Nat.reduceEqDiff, ↓reduceIte, Nat.reduceLT, Array.toList, Nat.reduceAdd, Nat.reduceMul, Int.reduceToNat, Int.reducePow, UInt8.reduceToNat] <;> omega) rfl ?_)
      | (refine call_h (hoff 1 _ _ _ _ rfl) ?_; rintro _ _ ⟨l', b, hp1, hb0, hb1, hv1, rfl, rfl⟩; refine ⟨_, _, rfl, ?_⟩)
      | (simp -dsimp (disch := first | assumption | omega) only [dec_t, dec_f])
      | (refine andI ?_)
      | (simp (disch := omega) only [wkW, Int.reduceToNat, Int.reducePow])
      | fail
    have hXlt : X < B64 ^ (n + 1) := by
      have h1 := (vt_bound (limbs_drop hS.ulim j) (n + 1)).2
      rw [hX0] at h1
      exact h1
    have hb1' : (decide (b = 1) = true ↔ X < d0 * vt v n) ∧ vt (l'.drop j) (n + 1) = X - d0 * vt v n + (if decide (b = 1) = true then B64 ^ (n + 1) else 0) := by
      have hl1 := vt_bound (limbs_drop hp1.lim j) (n + 1)
      rcases (show b = 0 ∨ b = 1 by omega) with rfl | rfl
      · simp only [Int.mul_zero, Int.add_zero] at hv1
        simp
        omega
      · simp only [Int.mul_one] at hv1
        simp
        omega
    refine PW.loopA (fun k F H => ∃ u' d bl, k = (d - qd).toNat ∧ qd ≤ d ∧ d < B64 ∧ PartS u u' j (n + 1) ∧ (bl = true ↔ X < d * vt v n) ∧ vt (u'.drop j) (n + 1) = X - d * vt v n + (if bl = true then B64 ^ (n + 1) else 0) ∧ F = loG v s n m j d bl ∧ H = loH u' q) (d0 - qd).toNat (loG v s n m j d0 (decide (b = 1))) (loH l' q) (Sub.norm ⟨rfl, rfl, rfl, congrArg (PV.int .i64) e0, rfl, rfl, rfl, rfl, rfl, trivial⟩ ⟨rfl, rfl, trivial⟩ (Nat.le_refl _) rfl rfl rfl rfl) ⟨l', d0, _, rfl, g1, g3, hp1, hb1'.1, hb1'.2, rfl, rfl⟩ ?_
    clear hb1' hv1 hb0 hb1 hp1 g1 g2 g3 hoff hg l' b
    rintro k F H ⟨u', d, bl, hk, hqd1, hd, hp, hbl, hvt, rfl, rfl⟩
    cases bl with
    | false =>
      have hle : ¬ X < d * vt v n := fun h => by have := hbl.2 h; cases this
      have hdq : d = qd := by
        refine Int.le_antisymm (Int.le_of_not_gt fun h => ?_) hqd1
        have h1 : (qd + 1) * vt v n ≤ d * vt v n := Int.mul_le_mul_of_nonneg_right h (by omega)
        omega
      have hvt2 : vt (u'.drop j) (n + 1) = X - d * vt v n := by rw [hvt]; simp
      have hlt2 : vt (u'.drop j) (n + 1) < vt v n := by
        rw [hvt2, hdq]
        rw [Int.add_mul, Int.one_mul] at hqlt
        omega
      have hfin := hdig u' d hp ⟨by omega, hd⟩ hvt2 hlt2
      have hul' := hp.len
      clear hvt hvt2 hlt2 hdig hbl hp hqv hqlt hle hS
      have W := cj w8 Int.toNat_natCast
      refine walk1 ?_
      exact Again.mk j (loF v s n m j) (loH u' (q.set j d)) (by omega) (Sub.norm ⟨rfl, rfl, rfl, rfl, rfl, rfl, trivial⟩ ⟨rfl, rfl, trivial⟩ (Nat.le_refl _) rfl rfl rfl rfl) ⟨u', _, hfin, by omega, rfl, rfl⟩
    | true =>
      have hlt : X < d * vt v n := hbl.1 rfl
      have hd1 : qd + 1 ≤ d := by
        refine Int.lt_of_not_ge fun h => ?_
        have h1 : d * vt v n ≤ qd * vt v n := Int.mul_le_mul_of_nonneg_right h (by omega)
        omega
      have hw : IntKind.wrap .u64 (d - 1) = d - 1 := wrap_u64 (by simp only [B64] at hd; omega)
      have hul' := hp.len
      have hback := put_back_h u' v hp.lim hvL j n hvl (by omega) (by omega) (by omega)
      have hstep : ∀ l' c, PartS u' l' j (n + 1) → 0 ≤ c → c ≤ 1 → vt (l'.drop j) (n + 1) + B64 ^ (n + 1) * c = vt (u'.drop j) (n + 1) + vt v n → ((!decide (c = 1)) = true ↔ X < (d - 1) * vt v n) ∧ vt (l'.drop j) (n + 1) = X - (d - 1) * vt v n + (if (!decide (c = 1)) = true then B64 ^ (n + 1) else 0) := fun l' c hpl hc0 hc1 hv1 => by
        have hl1 := vt_bound (limbs_drop hpl.lim j) (n + 1)
        rw [hvt, if_pos rfl] at hv1
        have e : (d - 1) * vt v n = d * vt v n - vt v n := by rw [Int.sub_mul, Int.one_mul]
        rw [e]
        rcases (show c = 0 ∨ c = 1 by omega) with rfl | rfl
        · simp only [Int.mul_zero, Int.add_zero] at hv1
          simp
          omega
        · simp only [Int.mul_one] at hv1
          simp
          omega
      clear hdig hbl hvt hlt hqv hqlt hS
      repeat' first
        | (with_reducible first | refine PW.seq ?_ | refine PW.block ?_ | refine PW.fork ?_ | refine PW.skip ?_ | refine PW.exit ?_ | refine PW.ret ?_ | refine PW.scope ?_ | refine PW.label ?_ | refine PW.goto ?_)
        | (simp only [hw, Int.toNat_natCast])
        | (with_reducible refine PW.region ttOk ?_ ?_
           · rfl)
        | (with_reducible refine PW.regionD ttOk mixed ?_ ?_ ?_
           · rfl
           · rfl)
        | (with_reducible refine ifW_dec (fun g => ?_) (fun g => ?_) <;> first | (exfalso; omega) | (simp -dsimp only [g, wkI]))
        | (with_reducible refine condE_dec (fun g => ?_) (fun g => ?_) <;> try (exfalso; omega))
        | (with_reducible refine condE_not (fun g => ?_) (fun g => ?_) <;> try (exfalso; omega))
        | (simp -dsimp only [↓wkA, ↓wkE, ↓wkJ, wkB, ↓tt, Nat.reduceBEq, Nat.reduceEqDiff, ↓reduceIte, Nat.reduceLT, Array.toList, Nat.reduceAdd, Nat.reduceMul, Int.reduceToNat, Int.reducePow, UInt8.reduceToNat])
        | (refine call_h (hback 1 _ _ _ _ rfl) ?_; rintro _ _ ⟨l', c, hp1, hc0, hc1, hv1, rfl, rfl⟩; refine ⟨_, _, rfl, ?_⟩)
        | (simp -dsimp (disch := first | assumption | omega) only [dec_t, dec_f])
        | (refine andI ?_)
        | (simp (disch := omega) only [wkW, Int.reduceToNat, Int.reducePow])
        | fail
      obtain ⟨k1, k2⟩ := hstep l' c hp1 hc0 hc1 hv1
      exact Again.mk (d - 1 - qd).toNat (loG v s n m j (d - 1) (!decide (c = 1))) (loH l' q) (by omega) (Sub.norm ⟨rfl, rfl, rfl, rfl, rfl, rfl, rfl, rfl, rfl, trivial⟩ ⟨rfl, rfl, trivial⟩ (Nat.le_refl _) rfl rfl rfl rfl) ⟨l', _, _, rfl, by omega, by omega, hp.trans hp1, k1, k2, rfl, rfl⟩
theorem small_nat {u : Nat} (hu : u < NMax) : Meets Tryz.prog 93 [.ints .u64 (natL u), .int .i64 4096] (.tup [.ints .u64 (natL u), .bool true]) := by
  have hl := natL_small hu
  have h := nat_trim (natL u) (by omega)
  rw [trim_natL] at h
  have hd : decide (((natL u).length : Int) ≤ 4096) = true := decide_eq_true (by omega)
  generalize natL u = a at *
  refine meets_by ttOk Tryz.func93 Tryz.ntmps93 Tryz.results93 (by kernel_rfl) (c := _) rfl rfl rfl fun E => ?_
  simp only [argsFrame]
  have W := hd
  exact walk
theorem div_mod {u v : Nat} (hu : u < NMax) (hv : v < NMax) (hv0 : v ≠ 0) : Meets Tryz.prog 56 [.ints .u64 (natL u), .ints .u64 (natL v)] (.tup [.ints .u64 (natL (u / v)), .ints .u64 (natL (u % v)), .int .i64 0]) := by
  have h1 := small_nat hu
  have h2 := small_nat hv
  have h3 := cmp_nat hu hv
  have hlu := natL_small hu
  have hlv := natL_small hv
  obtain ⟨hv1, hv2⟩ := natL_ge hv0
  have hl0 : decide (((natL v).length : Int) = 0) = false := decide_eq_false (by omega)
  by_cases hlt : u < v
  · rw [if_pos hlt] at h3
    rw [Nat.div_eq_of_lt hlt, Nat.mod_eq_of_lt hlt, natL_zero]
    refine Meets.nil_head .u64 ?_
    generalize natL u = a at *
    generalize natL v = b at *
    refine meets_by ttOk Tryz.func56 Tryz.ntmps56 Tryz.results56 (by kernel_rfl) (c := _) rfl rfl rfl fun E => ?_
    simp only [argsFrame]
    have W := hl0
    exact walk
  · rw [if_neg hlt] at h3
    have h3' : ∃ c : Int, 0 ≤ c ∧ Meets Tryz.prog 55 [.ints .u64 (natL u), .ints .u64 (natL v)] (.int .i64 c) := ⟨_, by split <;> decide, h3⟩
    clear h3
    obtain ⟨c, hc, h3⟩ := h3'
    have hcd : decide (c < 0) = false := decide_eq_false (by omega)
    by_cases hone : (natL v).length = 1
    · have hv64 : v < 18446744073709551616 := by have := natL_lt v; rw [hone, Nat.pow_one] at this; exact this
      have hd1 : decide (((natL v).length : Int) = 1) = true := decide_eq_true (by omega)
      have hds := div_small_nat hu ⟨by omega, hv64⟩
      have hfu := from_uint (u % v) (Nat.lt_trans (Nat.mod_lt u (by omega)) hv64)
      rw [natL_one v ⟨by omega, hv64⟩] at h2 h3 hl0 hd1 ⊢
      generalize natL (u % v) = rr at *
      generalize natL (u / v) = rq at *
      generalize natL u = a at *
      refine meets_by ttOk Tryz.func56 Tryz.ntmps56 Tryz.results56 (by kernel_rfl) (c := _) rfl rfl rfl fun E => ?_
      simp only [argsFrame]
      have W := hcd
      exact walk
    · have hd1 : decide (((natL v).length : Int) = 1) = false := decide_eq_false (by omega)
      have hle : (natL v).length ≤ (natL u).length := natL_mono (by omega)
      have htop : 0 < (natL v).getD ((natL v).length - 1) 0 := by
        rw [natL_getD]
        have h1 := natL_lt v
        have h2 : 0 < v / 18446744073709551616 ^ ((natL v).length - 1) := Nat.div_pos hv2 (Nat.pow_pos (by decide))
        have h3 : v / 18446744073709551616 ^ ((natL v).length - 1) < 18446744073709551616 := by
          rw [Nat.div_lt_iff_lt_mul (Nat.pow_pos (by decide)), ← Nat.pow_succ', show ((natL v).length - 1).succ = (natL v).length by omega]
          exact h1
        rw [Nat.mod_eq_of_lt h3]
        omega
      have hlo := quot_long (natL u) (natL v) (natL_limbs u) (natL_limbs v) (natL v).length ((natL u).length + 1 - (natL v).length) rfl (by omega) (by omega) (by omega) (by omega) htop u v (val_natL u) (val_natL v) (by omega) (natL_lt u) (Nat.lt_of_le_of_lt (Nat.div_le_self _ _) hu)
      generalize natL (u % v) = rr at *
      generalize natL (u / v) = rq at *
      clear htop hv2 hle
      generalize natL u = a at *
      generalize natL v = b at *
      refine meets_by ttOk Tryz.func56 Tryz.ntmps56 Tryz.results56 (by kernel_rfl) (c := _) rfl rfl rfl fun E => ?_
      simp only [argsFrame]
      have W := cj hcd (cj hl0 hd1)
      exact walk
def upS (e j : Int) : Nat := 2 ^ e.toNat * 10 ^ (-j).toNat
def beS (e j : Int) : Nat := 2 ^ (-e).toNat * 10 ^ j.toNat
theorem upS_pos (e j : Int) : 0 < upS e j := Nat.mul_pos (Nat.two_pow_pos _) (Nat.pow_pos (by decide))
theorem beS_pos (e j : Int) : 0 < beS e j := Nat.mul_pos (Nat.two_pow_pos _) (Nat.pow_pos (by decide))
def lowM (d : Nat) : Nat := if mantD d = 4503599627370496 ∧ -1074 < expD d then 4 * mantD d - 1 else 4 * mantD d - 2
def spE (d : Nat) : Int := expD d - 2
theorem pow_lt_of {a b k l n : Nat} (ha : a ≤ k) (hb : b ≤ l) (h : 2 ^ k * 10 ^ l < n) : 2 ^ a * 10 ^ b < n :=
  Nat.lt_of_le_of_lt (Nat.mul_le_mul (Nat.pow_le_pow_right (by decide) ha) (Nat.pow_le_pow_right (by decide) hb)) h
theorem upS_lt {e j : Int} (he : e ≤ 1000) (hj : -420 ≤ j) : upS e j < 2 ^ 2500 := pow_lt_of (k := 1000) (l := 420) (by omega) (by omega) (by decide +kernel)
theorem beS_lt {e j : Int} (he : -1100 ≤ e) (hj : j ≤ 420) : beS e j < 2 ^ 2500 := pow_lt_of (k := 1100) (l := 420) (by omega) (by omega) (by decide +kernel)
theorem short_around (d : Nat) (hd : d < 18446744073709551616) (hf : finD d) (h0 : absD d ≠ 0) : Meets Tryz.prog 38 [.int .u64 (d : Int)] (.tup [.int .u64 (lowM d : Int), .int .u64 ((4 * mantD d : Nat) : Int), .int .u64 ((4 * mantD d + 2 : Nat) : Int), .int .i64 (spE d)]) := by
  have h1 := ieee_decode d hd
  obtain ⟨p1, p2⟩ := parts_fin hf h0
  unfold partsP at h1
  rw [p1, p2] at h1
  have hm0 : mantD d ≠ 0 := fun e => h0 (mantD_zero.1 e)
  have hml := mantD_lt d
  have he1 := expD_ge d
  have he2 := expD_le hf
  unfold lowM spE
  generalize mantD d = M at *
  generalize expD d = E at *
  generalize classD d = cl at *
  have w1 : IntKind.wrap .u64 (4 * (M : Int)) = ((4 * M : Nat) : Int) := by rw [wrap_u64 (by omega)]; omega
  have w2 : IntKind.wrap .u64 (((4 * M : Nat) : Int) - 2) = ((4 * M - 2 : Nat) : Int) := by rw [wrap_u64 (by omega)]; omega
  have w3 : IntKind.wrap .u64 (((4 * M : Nat) : Int) - 1) = ((4 * M - 1 : Nat) : Int) := by rw [wrap_u64 (by omega)]; omega
  have w4 : IntKind.wrap .u64 (((4 * M : Nat) : Int) + 2) = ((4 * M + 2 : Nat) : Int) := wrap_u64 (by omega)
  have w5 : IntKind.wrap .i64 (E - 2) = E - 2 := wrap_i64 (by omega)
  have hc : (decide ((M : Int) = 4503599627370496) = true ∧ decide (-1074 < E) = true ∧ (M = 4503599627370496 ∧ -1074 < E)) ∨ (decide ((M : Int) = 4503599627370496) = true ∧ decide (-1074 < E) = false ∧ ¬ (M = 4503599627370496 ∧ -1074 < E)) ∨ (decide ((M : Int) = 4503599627370496) = false ∧ decide ((M : Int) = 4503599627370496) = false ∧ ¬ (M = 4503599627370496 ∧ -1074 < E)) := by
    by_cases c1 : M = 4503599627370496
    · by_cases c2 : -1074 < E
      · exact .inl ⟨decide_eq_true (by omega), decide_eq_true c2, c1, c2⟩
      · exact .inr (.inl ⟨decide_eq_true (by omega), decide_eq_false c2, fun h => c2 h.2⟩)
    · have := decide_eq_false (show ¬ (M : Int) = 4503599627370496 by omega)
      exact .inr (.inr ⟨this, this, fun h => c1 h.1⟩)
  rcases hc with ⟨d1, d2, hc⟩ | ⟨d1, d2, hc⟩ | ⟨d1, d2, hc⟩
  case' inl => rw [if_pos hc]
  case' inr.inl => rw [if_neg hc]
  case' inr.inr => rw [if_neg hc]
  all_goals (refine meets_by ttOk Tryz.func38 Tryz.ntmps38 Tryz.results38 (by kernel_rfl) (c := _) rfl rfl rfl fun E => ?_; simp only [argsFrame])
  all_goals
    have W := cj w1 (cj w2 (cj w3 (cj w4 (cj w5 (cj d1 d2)))))
    exact walk
theorem short_shl {u n : Nat} (hu : u < NMax) (hn : n ≤ 262144) (h : u * 2 ^ n < NMax) : Meets Tryz.prog 59 [.ints .u64 (natL u), .int .i64 (n : Int)] (.ints .u64 (natL (u * 2 ^ n))) := by
  have h1 := shl_nat (u := u) (n := n) hu hn h
  generalize natL (u * 2 ^ n) = r at *
  generalize natL u = a at *
  refine meets_by ttOk Tryz.func59 Tryz.ntmps59 Tryz.results59 (by kernel_rfl) (c := _) rfl rfl rfl fun E => ?_
  simp only [argsFrame]
  exact walk
theorem short_mul {u v : Nat} (hu : u < NMax) (hv : v < NMax) (h : u * v < NMax) : Meets Tryz.prog 77 [.ints .u64 (natL u), .ints .u64 (natL v)] (.ints .u64 (natL (u * v))) := by
  have h1 := mul_nat0 hu hv h
  generalize natL (u * v) = r at *
  generalize natL u = a at *
  generalize natL v = b at *
  refine meets_by ttOk Tryz.func77 Tryz.ntmps77 Tryz.results77 (by kernel_rfl) (c := _) rfl rfl rfl fun E => ?_
  simp only [argsFrame]
  exact walk
theorem scaled_walk (d : Int) (j e A : Int) (low m high : Int) (par : Int) (U0 B0 T U1 B1 L V Hh : List Int) (hA : A = if 0 - j > j then 0 - j else j) (hj : -420 ≤ j ∧ j ≤ 420) (he : -1100 ≤ e ∧ e ≤ 1000) (hp : Int.tmod d 2 = par)
    (h0 : Meets Tryz.prog 38 [.int .u64 d] (.tup [.int .u64 low, .int .u64 m, .int .u64 high, .int .i64 e]))
    (hT : Meets Tryz.prog 92 [.int .i64 A] (.tup [.ints .u64 T, .int .i64 0]))
    (hE : (0 ≤ e ∧ Meets Tryz.prog 59 [.ints .u64 [1], .int .i64 e] (.ints .u64 U0) ∧ B0 = [1]) ∨ (¬ 0 ≤ e ∧ Meets Tryz.prog 59 [.ints .u64 [1], .int .i64 (0 - e)] (.ints .u64 B0) ∧ U0 = [1]))
    (hJ : (0 ≤ j ∧ Meets Tryz.prog 77 [.ints .u64 B0, .ints .u64 T] (.ints .u64 B1) ∧ U1 = U0) ∨ (¬ 0 ≤ j ∧ Meets Tryz.prog 77 [.ints .u64 U0, .ints .u64 T] (.ints .u64 U1) ∧ B1 = B0))
    (hL : Meets Tryz.prog 77 [.ints .u64 [low], .ints .u64 U1] (.ints .u64 L)) (hV : Meets Tryz.prog 77 [.ints .u64 [m], .ints .u64 U1] (.ints .u64 V)) (hH : Meets Tryz.prog 77 [.ints .u64 [high], .ints .u64 U1] (.ints .u64 Hh)) :
    Meets Tryz.prog 54 [.int .u64 d, .int .i64 j] (.agg [.ints .u64 L, .ints .u64 V, .ints .u64 Hh, .ints .u64 B1, .bool (decide (par = 0))]) := by
  have w1 : IntKind.wrap .i64 (0 - e) = 0 - e := wrap_i64 (by omega)
  have w2 : IntKind.wrap .i64 (0 - j) = 0 - j := wrap_i64 (by omega)
  rcases hE with ⟨he0, hs, rfl⟩ | ⟨he0, hs, rfl⟩
  all_goals rcases hJ with ⟨hj0, hm, rfl⟩ | ⟨hj0, hm, rfl⟩
  all_goals first
    | (have d1 : decide (0 ≤ e) = true := decide_eq_true he0)
    | (have d1 : decide (0 ≤ e) = false := decide_eq_false he0)
  all_goals first
    | (have d2 : decide (0 ≤ j) = true := decide_eq_true hj0)
    | (have d2 : decide (0 ≤ j) = false := decide_eq_false hj0)
  all_goals (refine meets_by ttOk Tryz.func54 Tryz.ntmps54 Tryz.results54 (by kernel_rfl) (c := _) rfl rfl rfl fun E => ?_; simp only [argsFrame])
  all_goals
    repeat' first
      | (refine PW.sub (toData 10 3 0 1 true rfl (Nat.le_refl _)) ?_; simp only [wkD, Nat.reduceBEq])
      | (with_reducible first | refine PW.seq ?_ | refine PW.block ?_ | refine PW.fork ?_ | refine PW.skip ?_ | refine PW.exit ?_ | refine PW.ret ?_ | refine PW.scope ?_ | refine PW.label ?_ | refine PW.goto ?_)
      | (simp only [w1, w2, d1, d2, hp, ← hA])
      | (with_reducible refine PW.region ttOk ?_ ?_
         · rfl)
      | (with_reducible refine PW.regionD ttOk mixed ?_ ?_ ?_
         · rfl
         · rfl)
      | (with_reducible refine ifW_dec (fun g => ?_) (fun g => ?_) <;> first | (exfalso; omega) | (simp -dsimp only [g, wkI]))
      | (with_reducible refine condE_dec (fun g => ?_) (fun g => ?_) <;> try (exfalso; omega))
      | (with_reducible refine condE_not (fun g => ?_) (fun g => ?_) <;> try (exfalso; omega))
      | (simp -dsimp only [↓wkA, ↓wkE, ↓wkJ, wkB, ↓tt, Nat.reduceBEq, Nat.reduceEqDiff, ↓reduceIte, Nat.reduceLT, Array.toList, Nat.reduceAdd, Nat.reduceMul, Int.reduceToNat, Int.reducePow, UInt8.reduceToNat])
      | (refine call_by (h0) (views_data rfl) ⟨trivial, trivial⟩ rfl ?_)
      | (refine call_by (hT) (views_data rfl) ⟨trivial, trivial⟩ rfl ?_)
      | (refine call_by (hs) (views_data rfl) ⟨trivial, trivial, trivial⟩ rfl ?_)
      | (refine call_by (hm) (views_data rfl) ⟨trivial, trivial, trivial⟩ rfl ?_)
      | (refine call_drop (args' := [.ints .u64 [1], .int .i64 _]) rfl hs ⟨Nat.le_refl _, trivial, trivial⟩ rfl ?_; simp only [wkD, Nat.reduceBEq])
      | (refine call_drop (args' := [.ints .u64 [1], .ints .u64 _]) rfl hm ⟨Nat.le_refl _, trivial, trivial⟩ rfl ?_; simp only [wkD, Nat.reduceBEq])
      | (refine call_drop (args' := [.ints .u64 [low], .ints .u64 _]) rfl hL ⟨Nat.le_refl _, trivial, trivial⟩ rfl ?_; simp only [wkD, Nat.reduceBEq])
      | (refine call_drop (args' := [.ints .u64 [m], .ints .u64 _]) rfl hV ⟨Nat.le_refl _, trivial, trivial⟩ rfl ?_; simp only [wkD, Nat.reduceBEq])
      | (refine call_drop (args' := [.ints .u64 [high], .ints .u64 _]) rfl hH ⟨Nat.le_refl _, trivial, trivial⟩ rfl ?_; simp only [wkD, Nat.reduceBEq])
      | (simp -dsimp (disch := first | assumption | omega) only [dec_t, dec_f])
      | (refine andI ?_)
      | (simp (disch := omega) only [wkW, Int.reduceToNat, Int.reducePow])
      | fail
  all_goals exact Nat.le_refl _
theorem cast_par {f : FuncId} {args l : List PV} {b c : Bool} (h : b = c) (hm : Meets Tryz.prog f args (.agg (l ++ [.bool b]))) : Meets Tryz.prog f args (.agg (l ++ [.bool c])) := h ▸ hm
theorem lowM_bounds (d : Nat) (h0 : mantD d ≠ 0) : 2 ≤ lowM d ∧ lowM d < 4 * mantD d := by
  unfold lowM
  split <;> omega
theorem nmax_mul {a b : Nat} (ha : a < 2 ^ 100) (hb : b < 2 ^ 2500) : a * b < NMax := nmax_of (k := 2600) (Nat.lt_of_lt_of_le (Nat.mul_lt_mul'' ha hb) (by decide +kernel)) (by decide)
theorem short_scaled (d : Nat) (hd : d < 18446744073709551616) (hf : finD d) (h0 : absD d ≠ 0) (j : Int) (hj : -420 ≤ j ∧ j ≤ 420) :
    Meets Tryz.prog 54 [.int .u64 (d : Int), .int .i64 j] (.agg [.ints .u64 (natL (lowM d * upS (spE d) j)), .ints .u64 (natL (4 * mantD d * upS (spE d) j)), .ints .u64 (natL ((4 * mantD d + 2) * upS (spE d) j)), .ints .u64 (natL (beS (spE d) j)), .bool (decide (d % 2 = 0))]) := by
  have ha := short_around d hd hf h0
  have hm0 : mantD d ≠ 0 := fun e => h0 (mantD_zero.1 e)
  have hml := mantD_lt d
  have he1 := expD_ge d
  have he2 := expD_le hf
  obtain ⟨l1, l2⟩ := lowM_bounds d hm0
  have he : -1100 ≤ spE d ∧ spE d ≤ 1000 := by unfold spE; omega
  generalize spE d = e at *
  generalize lowM d = lo at *
  generalize mantD d = M at *
  have hU := upS_lt he.2 hj.1
  have hB := beS_lt he.1 hj.2
  have hT := pow10_ok (if 0 - j > j then 0 - j else j).toNat (by split <;> omega) (nmax_of (k := 2500) (Nat.lt_of_le_of_lt (Nat.pow_le_pow_right (by decide) (show (if 0 - j > j then 0 - j else j).toNat ≤ 420 by split <;> omega)) (by decide +kernel)) (by decide))
  rw [show (((if 0 - j > j then 0 - j else j).toNat : Nat) : Int) = if 0 - j > j then 0 - j else j by split <;> omega] at hT
  have one : natL 1 = [1] := natL_oneL
  have n2 : ∀ k : Nat, k ≤ 1100 → 2 ^ k < NMax := fun k hk => nmax_of (k := 1101) (Nat.pow_lt_pow_right (by decide) (by omega)) (by decide)
  have n10 : ∀ k : Nat, k ≤ 420 → 10 ^ k < NMax := fun k hk => nmax_of (k := 2500) (Nat.lt_of_le_of_lt (Nat.pow_le_pow_right (by decide) hk) (by decide +kernel)) (by decide)
  have nU : upS e j < NMax := nmax_of hU (by decide)
  have nB : beS e j < NMax := nmax_of hB (by decide)
  have hpar : Int.tmod (d : Int) 2 = ((d % 2 : Nat) : Int) := by rw [tmod_pos (by omega)]; omega
  have hm : ∀ x : Nat, 0 < x → x < 2 ^ 60 → Meets Tryz.prog 77 [.ints .u64 [(x : Int)], .ints .u64 (natL (upS e j))] (.ints .u64 (natL (x * upS e j))) := fun x hx0 hx => by
    have hx64 : x < 18446744073709551616 := Nat.lt_trans hx (by decide)
    have h := short_mul (u := x) (v := upS e j) (nmax_of hx (by decide)) nU (nmax_mul (Nat.lt_trans hx (by decide)) hU)
    rw [natL_one x ⟨hx0, hx64⟩] at h
    exact h
  have e60 : (2 : Nat) ^ 60 = 1152921504606846976 := by decide
  refine cast_par (l := [_, _, _, _]) (b := decide (((d % 2 : Nat) : Int) = 0)) ?_ (scaled_walk d j e _ lo ((4 * M : Nat) : Int) ((4 * M + 2 : Nat) : Int) ((d % 2 : Nat) : Int) (natL (2 ^ e.toNat)) (natL (2 ^ (-e).toNat)) _ (natL (upS e j)) (natL (beS e j)) _ _ _ rfl hj he hpar ha hT ?_ ?_ (hm lo (by omega) (by rw [e60]; omega)) (hm (4 * M) (by omega) (by rw [e60]; omega)) (hm (4 * M + 2) (by omega) (by rw [e60]; omega)))
  · exact decide_eq_decide.2 (by omega)
  · by_cases h : 0 ≤ e
    · refine .inl ⟨h, ?_, by rw [show (-e).toNat = 0 by omega, Nat.pow_zero, one]⟩
      have hs := short_shl (u := 1) (n := e.toNat) (n2 0 (by decide)) (by omega) (by rw [Nat.one_mul]; exact n2 _ (by omega))
      rw [Nat.one_mul, one, Int.toNat_of_nonneg h] at hs
      exact hs
    · refine .inr ⟨h, ?_, by rw [show e.toNat = 0 by omega, Nat.pow_zero, one]⟩
      have hs := short_shl (u := 1) (n := (-e).toNat) (n2 0 (by decide)) (by omega) (by rw [Nat.one_mul]; exact n2 _ (by omega))
      rw [Nat.one_mul, one, show ((-e).toNat : Int) = 0 - e by omega] at hs
      exact hs
  · by_cases h : 0 ≤ j
    · refine .inl ⟨h, ?_, by unfold upS; rw [show (-j).toNat = 0 by omega, Nat.pow_zero, Nat.mul_one]⟩
      have hs := short_mul (u := 2 ^ (-e).toNat) (v := 10 ^ j.toNat) (n2 _ (by omega)) (n10 _ (by omega)) nB
      rw [show (if 0 - j > j then 0 - j else j).toNat = j.toNat by split <;> omega]
      exact hs
    · refine .inr ⟨h, ?_, by unfold beS; rw [show j.toNat = 0 by omega, Nat.pow_zero, Nat.mul_one]⟩
      have hs := short_mul (u := 2 ^ e.toNat) (v := 10 ^ (-j).toNat) (n2 _ (by omega)) (n10 _ (by omega)) nU
      rw [show (if 0 - j > j then 0 - j else j).toNat = (-j).toNat by split <;> omega]
      exact hs
def Words (l : List Int) : Prop := ∀ x ∈ l, 0 ≤ x ∧ x < 4294967296
abbrev B32 : Int := 4294967296
theorem getD_word {l : List Int} (hb : Words l) (i : Nat) : 0 ≤ l.getD i 0 ∧ l.getD i 0 < B32 := by
  rw [List.getD_eq_getElem?_getD]
  cases h : l[i]? with
  | none => simp [B32]
  | some x => exact hb x (List.mem_of_getElem? h)
def wt (l : List Int) : Nat → Int
  | 0 => 0
  | n + 1 => wt l n + B32 ^ n * l.getD n 0
def wal (l : List Int) : Int := wt l l.length
theorem pow_pos32 (n : Nat) : (0 : Int) < B32 ^ n := Int.pow_pos (by decide)
theorem wt_bound {l : List Int} (hb : Words l) : ∀ n, 0 ≤ wt l n ∧ wt l n < B32 ^ n
  | 0 => by simp [wt]
  | n + 1 => by
    have ih := wt_bound hb n
    have hd := getD_word hb n
    have hp := pow_pos32 n
    have h1 : 0 ≤ B32 ^ n * l.getD n 0 := Int.mul_nonneg (Int.le_of_lt hp) hd.1
    have h2 : B32 ^ n * l.getD n 0 ≤ B32 ^ n * (B32 - 1) := Int.mul_le_mul_of_nonneg_left (by omega) (Int.le_of_lt hp)
    have h3 : B32 ^ (n + 1) = B32 ^ n * (B32 - 1) + B32 ^ n := by rw [Int.pow_succ]; simp only [B32]; omega
    simp only [wt]
    rw [h3]
    constructor <;> omega
theorem wt_sizeN (l : List Int) : ∀ n, wt l (sizeN l n) = wt l n
  | 0 => rfl
  | n + 1 => by
    unfold sizeN
    split
    · rename_i h
      rw [wt_sizeN l n]; simp only [wt, h]; omega
    · rfl
theorem wt_size (l : List Int) : wt l (size l) = wal l := wt_sizeN l l.length
theorem wt_same {a b : List Int} : ∀ n, (∀ j, j < n → a.getD j 0 = b.getD j 0) → wt a n = wt b n
  | 0, _ => rfl
  | n + 1, h => by simp only [wt]; rw [wt_same n fun j hj => h j (by omega), h n (by omega)]
theorem wt_set_ge (l : List Int) (k n : Nat) (v : Int) (hk : k < l.length) (h : n ≤ k) : wt (l.set k v) n = wt l n :=
  wt_same n fun j hj => by rw [getD_set l k j v hk, if_neg (by omega)]
theorem words_set {l : List Int} (h : Words l) (k : Nat) {v : Int} (hv : 0 ≤ v ∧ v < B32) : Words (l.set k v) := fun x hx => by
  rcases List.mem_or_eq_of_mem_set hx with h1 | h1
  · exact h x h1
  · subst h1; exact hv
theorem words_take {l : List Int} (h : Words l) (n : Nat) : Words (l.take n) := fun x hx => h x (List.mem_of_mem_take hx)
theorem wt_beyond {b : List Int} : ∀ n, b.length ≤ n → wt b n = wal b := fun n h => by
  obtain ⟨d, rfl⟩ := Nat.exists_eq_add_of_le h
  clear h
  induction d with
  | zero => rfl
  | succ d ih =>
    rw [show b.length + (d + 1) = (b.length + d) + 1 by omega]
    simp only [wt]
    rw [ih, List.getD_eq_getElem?_getD, List.getElem?_eq_none (by omega)]
    simp
structure MulInW (a b o0 o : List Int) (i j : Nat) (c : Int) : Prop where
  len : o.length = a.length + b.length
  lim : Words o
  car : 0 ≤ c ∧ c < B32
  eq : wt o (i + j) + B32 ^ (i + j) * c = wt o0 (i + j) + B32 ^ i * (a.getD i 0 * wt b j)
  rest : ∀ k, i + j ≤ k → o.getD k 0 = o0.getD k 0
structure MulOutW (a b o : List Int) (i : Nat) : Prop where
  len : o.length = a.length + b.length
  lim : Words o
  eq : wt o (i + b.length) = wt a i * wt b b.length
  rest : ∀ k, i + b.length ≤ k → o.getD k 0 = 0
theorem MulInW.start {a b o : List Int} {i : Nat} (h : MulOutW a b o i) : MulInW a b o o i 0 0 :=
  ⟨h.len, h.lim, by decide, by simp [wt], fun _ _ => rfl⟩
theorem MulInW.step {a b o0 o : List Int} {i j : Nat} {c s : Int} (h : MulInW a b o0 o i j c) (hi : i < a.length) (hj : j < b.length) (hs : s = a.getD i 0 * b.getD j 0 + o.getD (i + j) 0 + c) (hr : 0 ≤ s / B32 ∧ s / B32 < B32) :
    MulInW a b o0 (o.set (i + j) (s % B32)) i (j + 1) (s / B32) := by
  have hlt : i + j < o.length := by rw [h.len]; omega
  have hmod : 0 ≤ s % B32 ∧ s % B32 < B32 := ⟨Int.emod_nonneg _ (by decide), Int.emod_lt_of_pos _ (by decide)⟩
  refine ⟨by rw [List.length_set, h.len], words_set h.lim _ hmod, hr, ?_, fun k hk => ?_⟩
  · have e0 : i + (j + 1) = (i + j) + 1 := by omega
    rw [e0]
    simp only [wt]
    rw [wt_set_ge _ _ _ _ hlt (Nat.le_refl _), getD_set _ _ _ _ hlt, if_pos rfl, Int.pow_succ]
    have hsum : B32 * (s / B32) + s % B32 = s := Int.mul_ediv_add_emod s B32
    have h1 := h.eq
    have h2 := h.rest (i + j) (Nat.le_refl _)
    have e1 : B32 ^ (i + j) = B32 ^ i * B32 ^ j := Int.pow_add _ _ _
    rw [← h2]
    generalize s / B32 = q at *
    generalize s % B32 = r at *
    generalize wt o (i + j) = A at *
    generalize wt o0 (i + j) = A0 at *
    generalize o.getD (i + j) 0 = d at *
    generalize a.getD i 0 = x at *
    generalize b.getD j 0 = y at *
    generalize wt b j = V at *
    rw [e1] at *
    generalize B32 ^ i = p at *
    generalize B32 ^ j = t at *
    generalize B32 = B at *
    grind
  · rw [getD_set _ _ _ _ hlt, if_neg (by omega)]
    exact h.rest k (by omega)
theorem MulInW.fin {a b o0 o : List Int} {i : Nat} {c : Int} (h0 : MulOutW a b o0 i) (h : MulInW a b o0 o i b.length c) (hi : i < a.length) : MulOutW a b (o.set (i + b.length) c) (i + 1) := by
  have hlt : i + b.length < o.length := by rw [h.len]; omega
  refine ⟨by rw [List.length_set, h.len], words_set h.lim _ h.car, ?_, fun k hk => ?_⟩
  · have e0 : i + 1 + b.length = (i + b.length) + 1 := by omega
    rw [e0]
    simp only [wt]
    rw [wt_set_ge _ _ _ _ hlt (Nat.le_refl _), getD_set _ _ _ _ hlt, if_pos rfl]
    have h1 := h.eq
    have h2 := h0.eq
    rw [h1, h2]
    generalize B32 ^ i = p at *
    generalize a.getD i 0 = x at *
    generalize wt a i = A at *
    generalize wt b b.length = V at *
    grind
  · rw [getD_set _ _ _ _ hlt, if_neg (by omega), h.rest k (by omega)]
    exact h0.rest k (by omega)
theorem wt_zeros (n : Nat) : ∀ k, wt (List.replicate n 0) k = 0
  | 0 => rfl
  | k + 1 => by
    simp only [wt]
    rw [wt_zeros n k]
    have : (List.replicate n (0 : Int)).getD k 0 = 0 := by simp [List.getD_eq_getElem?_getD, List.getElem?_replicate]; split <;> rfl
    rw [this]; simp
theorem mul_beginW (a b : List Int) : MulOutW a b (List.replicate (a.length + b.length) 0) 0 :=
  ⟨by simp, fun x hx => by have := List.eq_of_mem_replicate hx; subst this; decide, by rw [wt_zeros]; simp [wt], fun k _ => by simp [List.getD_eq_getElem?_getD, List.getElem?_replicate]; split <;> rfl⟩
theorem wt_left {s t : List Int} (n : Nat) (h : n ≤ s.length) : wt (s ++ t) n = wt s n := wt_same n fun j hj => by
  rw [List.getD_eq_getElem?_getD, List.getD_eq_getElem?_getD, List.getElem?_append_left (by omega)]
theorem getD_snoc (s : List Int) (d : Int) : (s ++ [d]).getD s.length 0 = d := by
  rw [List.getD_eq_getElem?_getD, List.getElem?_append_right (Nat.le_refl _)]; simp
theorem wal_snoc (s : List Int) (d : Int) : wal (s ++ [d]) = wal s + B32 ^ s.length * d := by
  unfold wal
  rw [List.length_append, List.length_singleton]
  simp only [wt]
  rw [wt_left _ (Nat.le_refl _), getD_snoc]
theorem words_snoc {s : List Int} (h : Words s) {d : Int} (hd : 0 ≤ d ∧ d < B32) : Words (s ++ [d]) := fun x hx => by
  rcases List.mem_append.1 hx with h1 | h1
  · exact h x h1
  · rw [List.mem_singleton] at h1; subst h1; exact hd
theorem vt_left {s t : List Int} (n : Nat) (h : n ≤ s.length) : vt (s ++ t) n = vt s n := vt_same n fun j hj => by
  rw [List.getD_eq_getElem?_getD, List.getD_eq_getElem?_getD, List.getElem?_append_left (by omega)]
theorem val_snoc (s : List Int) (d : Int) : val (s ++ [d]) = val s + B64 ^ s.length * d := by
  unfold val
  rw [List.length_append, List.length_singleton]
  simp only [vt]
  rw [vt_left _ (Nat.le_refl _), getD_snoc]
theorem limbs_snoc {s : List Int} (h : Limbs s) {d : Int} (hd : 0 ≤ d ∧ d < B64) : Limbs (s ++ [d]) := fun x hx => by
  rcases List.mem_append.1 hx with h1 | h1
  · exact h x h1
  · rw [List.mem_singleton] at h1; subst h1; exact hd
theorem wal_trim (a : List Int) : wal (trim a) = wal a := by
  unfold trim
  rw [← wt_size a, ← wt_beyond (b := a.take (size a)) (size a) (by rw [List.length_take]; omega)]
  exact wt_same _ fun j hj => by rw [List.getD_eq_getElem?_getD, List.getD_eq_getElem?_getD, List.getElem?_take, if_pos hj]
theorem b64_b32 (n : Nat) : B64 ^ n = B32 ^ (2 * n) := by rw [Int.pow_mul]; rfl
def spN (a : List Int) : Nat → List Int
  | 0 => []
  | n + 1 => spN a n ++ [a.getD n 0 % 4294967296] ++ [a.getD n 0 / 4294967296]
theorem spN_len (a : List Int) : ∀ n, (spN a n).length = 2 * n
  | 0 => rfl
  | n + 1 => by unfold spN; rw [List.length_append, List.length_append, spN_len a n]; simp; omega
theorem spN_words {a : List Int} (ha : Limbs a) : ∀ n, Words (spN a n)
  | 0 => fun x hx => by cases hx
  | n + 1 => by
    have hx := getD_limb ha n
    simp only [B64] at hx
    exact words_snoc (words_snoc (spN_words ha n) (by simp only [B32]; omega)) (by simp only [B32]; omega)
theorem spN_wal (a : List Int) : ∀ n, wal (spN a n) = vt a n
  | 0 => rfl
  | n + 1 => by
    unfold spN
    rw [wal_snoc, wal_snoc, spN_wal a n, List.length_append, spN_len]
    simp only [vt, List.length_singleton]
    rw [b64_b32, Int.pow_succ]
    have h := Int.mul_ediv_add_emod (a.getD n 0) 4294967296
    generalize B32 ^ (2 * n) = p at *
    generalize a.getD n 0 / 4294967296 = q at *
    generalize a.getD n 0 % 4294967296 = r at *
    rw [← h]
    simp only [B32]
    grind
def hv (a : List Int) : List Int := trim (spN a a.length)
theorem hv_words {a : List Int} (ha : Limbs a) : Words (hv a) := words_take (spN_words ha _) _
theorem hv_wal (a : List Int) : wal (hv a) = val a := by unfold hv; rw [wal_trim, spN_wal]; rfl
theorem hv_len (a : List Int) : (hv a).length ≤ 2 * a.length := by
  unfold hv trim
  rw [List.length_take, spN_len]
  omega
def jnN (h : List Int) : Nat → List Int
  | 0 => []
  | n + 1 => jnN h n ++ [h.getD (2 * n) 0 + h.getD (2 * n + 1) 0 * 4294967296]
theorem jnN_len (h : List Int) : ∀ n, (jnN h n).length = n
  | 0 => rfl
  | n + 1 => by unfold jnN; rw [List.length_append, jnN_len h n]; simp
theorem jnN_limbs {h : List Int} (hw : Words h) : ∀ n, Limbs (jnN h n)
  | 0 => fun x hx => by cases hx
  | n + 1 => by
    have h1 := getD_word hw (2 * n)
    have h2 := getD_word hw (2 * n + 1)
    simp only [B32] at h1 h2
    exact limbs_snoc (jnN_limbs hw n) (by simp only [B64]; omega)
theorem jnN_val (h : List Int) : ∀ n, val (jnN h n) = wt h (2 * n)
  | 0 => rfl
  | n + 1 => by
    unfold jnN
    rw [val_snoc, jnN_val h n, jnN_len, b64_b32, show 2 * (n + 1) = 2 * n + 1 + 1 by omega]
    simp only [wt]
    rw [Int.pow_succ]
    generalize B32 ^ (2 * n) = p at *
    simp only [B32]
    grind
theorem trim_natLv {a : List Int} (ha : Limbs a) {v : Nat} (hv : val a = v) : trim a = natL v := by
  rw [trim_eq ha, hv]; rfl
theorem limbs_one {x : Nat} (h : x < 18446744073709551616) : Limbs [(x : Int)] ∧ val [(x : Int)] = x := ⟨fun y hy => by rw [List.mem_singleton] at hy; subst hy; omega, val_one _⟩
end Go.Proofs.YtmoilbeomnapfaaGreatDoor

/- Contracts and laws that the row leans on, part 7: texts that were built one by one, laid together. -/
import Derived.Test.YtjhkpjddcaglnaaDoorPart6
import Derived.Test.YtjhkpjddcaglnaaDoorPart4
set_option linter.unusedVariables false
set_option linter.unusedSimpArgs false
namespace Go.Proofs.YtjhkpjddcaglnaaDoor
open Go Go.PV

theorem ieee_abs (d : Nat) (hd : d < 18446744073709551616) : Meets Tryd.prog 89 [.int .u64 (d : Int)] (.int .u64 (absD d : Int)) := by
  have h1 := andNot_sign hd
  refine meets_by ttOk Tryd.func89 Tryd.ntmps89 Tryd.results89 (by kernel_rfl) (c := _) rfl rfl rfl fun E => ?_
  simp only [argsFrame]
  repeat' first
    | (simp only [h1])
    | (with_reducible first | refine PW.seq ?_ | refine PW.block ?_ | refine PW.fork ?_ | refine PW.skip ?_ | refine PW.exit ?_ | refine PW.ret ?_)
    | (with_reducible refine PW.region ttOk ?_ ?_
       · rfl)
    | (with_reducible refine PW.regionD ttOk mixed ?_ ?_ ?_
       · rfl
       · rfl)
    | (with_reducible refine ifW_dec (fun g => ?_) (fun g => ?_) <;> first | (exfalso; omega) | (simp -dsimp only [g, wkI]))
    | (with_reducible refine condE_dec (fun g => ?_) (fun g => ?_) <;> try (exfalso; omega))
    | (with_reducible refine condE_not (fun g => ?_) (fun g => ?_) <;> try (exfalso; omega))
    | (simp -dsimp only [↓wkA, ↓wkE, wkB, ↓tt, Nat.reduceBEq, Nat.reduceEqDiff, ↓reduceIte, Nat.reduceLT, Array.toList, Nat.reduceAdd, Nat.reduceMul, Int.reduceToNat, Int.reducePow, UInt8.reduceToNat])
    | (simp -dsimp (disch := first | assumption | omega) only [dec_t, dec_f])
    | (refine And.intro ?_ ?_
       · first | omega | decide | (simp (disch := omega) only [wkW, Int.reduceToNat, Int.reducePow] <;> omega) | (simp <;> omega))
    | (simp (disch := omega) only [wkW, Int.reduceToNat, Int.reducePow])
    | fail

theorem ieee_class (d : Nat) (hd : d < 18446744073709551616) : Meets Tryd.prog 69 [.int .u64 (d : Int)] (.int .i64 (classD d)) := by
  have h1 := ieee_abs d hd
  have hp := abs_parts d
  have hf := frac_lt d
  have hb := field_lt d
  refine meets_by ttOk Tryd.func69 Tryd.ntmps69 Tryd.results69 (by kernel_rfl) (c := _) rfl rfl rfl fun E => ?_
  simp only [argsFrame]
  repeat' first
    | (with_reducible first | refine PW.seq ?_ | refine PW.block ?_ | refine PW.fork ?_ | refine PW.skip ?_ | refine PW.exit ?_ | refine PW.ret ?_)
    | (with_reducible refine PW.region ttOk ?_ ?_
       · rfl)
    | (with_reducible refine PW.regionD ttOk mixed ?_ ?_ ?_
       · rfl
       · rfl)
    | (with_reducible refine ifW_dec (fun g => ?_) (fun g => ?_) <;> first | (exfalso; omega) | (simp -dsimp only [g, wkI]))
    | (with_reducible refine condE_dec (fun g => ?_) (fun g => ?_) <;> try (exfalso; omega))
    | (with_reducible refine condE_not (fun g => ?_) (fun g => ?_) <;> try (exfalso; omega))
    | (simp -dsimp only [↓wkA, ↓wkE, wkB, ↓tt, Nat.reduceBEq, Nat.reduceEqDiff, ↓reduceIte, Nat.reduceLT, Array.toList, Nat.reduceAdd, Nat.reduceMul, Int.reduceToNat, Int.reducePow, UInt8.reduceToNat])
    | (refine call_by (h1) (views_data rfl) ⟨trivial, trivial⟩ rfl ?_)
    | (simp -dsimp (disch := first | assumption | omega) only [dec_t, dec_f])
    | (refine And.intro ?_ ?_
       · first | omega | decide | (simp (disch := omega) only [wkW, Int.reduceToNat, Int.reducePow] <;> omega) | (simp <;> omega))
    | (simp (disch := omega) only [wkW, Int.reduceToNat, Int.reducePow])
    | fail
  all_goals (refine congrArg (PV.int _) ?_; unfold classD; repeat' split)
  all_goals omega

theorem ieee_decode (d : Nat) (hd : d < 18446744073709551616) : Meets Tryd.prog 41 [.int .u64 (d : Int)] (partsP d) := by
  have hc := ieee_class d hd
  have h1 := and_sign hd
  have h2 := and_frac hd
  have h3 := or_hidden (frac_lt d)
  have h4 : ((d : Int)).fdiv (2 ^ min 52 64) = ((d / 4503599627370496 : Nat) : Int) := by
    rw [show (2 : Int) ^ min 52 64 = 4503599627370496 from by decide, fdiv_pos (by decide)]; omega
  have h5 := and_field (x := d / 4503599627370496) (by omega)
  rw [shr_52] at h5
  have hb := field_lt d
  have w1 : IntKind.wrap .i64 ((fieldD d : Nat) : Int) = (fieldD d : Int) := wrap_i64 (by omega)
  have w2 : IntKind.wrap .i64 ((fieldD d : Int) - 1075) = (fieldD d : Int) - 1075 := wrap_i64 (by omega)
  have hn : (!decide ((if 9223372036854775808 ≤ d then (9223372036854775808 : Int) else 0) = 0)) = negD d := by
    unfold negD
    by_cases h : 9223372036854775808 ≤ d
    · rw [if_pos h]; simp [h]
    · rw [if_neg h]; simp [h]
  have hcl := classD_le d
  have hcd : classD d = 1 → fieldD d = 0 := fun h => by unfold classD at h; repeat' split at h <;> omega
  have hce : classD d = 2 → fieldD d ≠ 0 := fun h => by unfold classD at h; repeat' split at h <;> omega
  have hcz : classD d = 0 → fracD d = 0 := fun h => (abs_zero.1 (class_zero.1 h)).2
  have hci : classD d = 3 → fracD d = 0 := fun h => by unfold classD at h; repeat' split at h <;> omega
  have hM : partsM d = if classD d = 1 then (fracD d : Int) else if classD d = 2 then ((4503599627370496 + fracD d : Nat) : Int) else if classD d = 4 then (fracD d : Int) else 0 := by
    unfold partsM mantD
    repeat' split
    all_goals omega
  have hE : partsE d = if classD d = 1 then -1074 else if classD d = 2 then (fieldD d : Int) - 1075 else 0 := by
    unfold partsE expD
    repeat' split
    all_goals omega
  clear hcd hce hcz hci
  unfold partsP
  rw [hM, hE]
  generalize classD d = c at *
  generalize fieldD d = fd at *
  generalize fracD d = fr at *
  clear hM hE
  rcases (show c = 0 ∨ c = 1 ∨ c = 2 ∨ c = 3 ∨ c = 4 by omega) with rfl | rfl | rfl | rfl | rfl
  all_goals (refine meets_by ttOk Tryd.func41 Tryd.ntmps41 Tryd.results41 (by kernel_rfl) (c := _) rfl rfl rfl fun E => ?_; simp only [argsFrame])
  all_goals
    repeat' first
      | (simp only [h1, h2, h3, h4, h5, w1, w2, hn])
      | (with_reducible first | refine PW.seq ?_ | refine PW.block ?_ | refine PW.fork ?_ | refine PW.skip ?_ | refine PW.exit ?_ | refine PW.ret ?_)
      | (with_reducible refine PW.region ttOk ?_ ?_
         · rfl)
      | (with_reducible refine PW.regionD ttOk mixed ?_ ?_ ?_
         · rfl
         · rfl)
      | (with_reducible refine ifW_dec (fun g => ?_) (fun g => ?_) <;> first | (exfalso; omega) | (simp -dsimp only [g, wkI]))
      | (with_reducible refine condE_dec (fun g => ?_) (fun g => ?_) <;> try (exfalso; omega))
      | (with_reducible refine condE_not (fun g => ?_) (fun g => ?_) <;> try (exfalso; omega))
      | (simp -dsimp only [↓wkA, ↓wkE, wkB, ↓tt, Nat.reduceBEq, Nat.reduceEqDiff, ↓reduceIte, Nat.reduceLT, Array.toList, Nat.reduceAdd, Nat.reduceMul, Int.reduceToNat, Int.reducePow, UInt8.reduceToNat])
      | (refine call_by (hc) (views_data rfl) ⟨trivial, trivial⟩ rfl ?_)
      | (simp -dsimp (disch := first | assumption | omega) only [dec_t, dec_f])
      | (refine And.intro ?_ ?_
         · first | omega | decide | (simp (disch := omega) only [wkW, Int.reduceToNat, Int.reducePow] <;> omega) | (simp <;> omega))
      | (simp (disch := omega) only [wkW, Int.reduceToNat, Int.reducePow])
      | fail
  all_goals simp

theorem ref04_abs (d : Nat) (hd : d < 18446744073709551616) : Meets Tryd.prog 87 [.int .u64 (d : Int)] (.int .u64 (absD d : Int)) := by
  refine meets_by ttOk Tryd.func87 Tryd.ntmps87 Tryd.results87 (by kernel_rfl) (c := _) rfl rfl rfl fun E => ?_
  simp only [argsFrame]
  repeat' first
    | (with_reducible first | refine PW.seq ?_ | refine PW.block ?_ | refine PW.fork ?_ | refine PW.skip ?_ | refine PW.exit ?_ | refine PW.ret ?_)
    | (with_reducible refine PW.region ttOk ?_ ?_
       · rfl)
    | (with_reducible refine PW.regionD ttOk mixed ?_ ?_ ?_
       · rfl
       · rfl)
    | (with_reducible refine ifW_dec (fun g => ?_) (fun g => ?_) <;> first | (exfalso; omega) | (simp -dsimp only [g, wkI]))
    | (with_reducible refine condE_dec (fun g => ?_) (fun g => ?_) <;> try (exfalso; omega))
    | (with_reducible refine condE_not (fun g => ?_) (fun g => ?_) <;> try (exfalso; omega))
    | (simp -dsimp only [↓wkA, ↓wkE, wkB, ↓tt, Nat.reduceBEq, Nat.reduceEqDiff, ↓reduceIte, Nat.reduceLT, Array.toList, Nat.reduceAdd, Nat.reduceMul, Int.reduceToNat, Int.reducePow, UInt8.reduceToNat])
    | (simp -dsimp (disch := first | assumption | omega) only [dec_t, dec_f])
    | (refine And.intro ?_ ?_
       · first | omega | decide | (simp (disch := omega) only [wkW, Int.reduceToNat, Int.reducePow] <;> omega) | (simp <;> omega))
    | (simp (disch := omega) only [wkW, Int.reduceToNat, Int.reducePow])
    | fail
  all_goals (refine congrArg (PV.int _) ?_; unfold absD; omega)

theorem ref04_finite (d : Nat) (hd : d < 18446744073709551616) : Meets Tryd.prog 64 [.int .u64 (d : Int)] (.bool (decide (finD d))) := by
  have h1 := ref04_abs d hd
  have hp := abs_parts d
  have hf := frac_lt d
  refine meets_by ttOk Tryd.func64 Tryd.ntmps64 Tryd.results64 (by kernel_rfl) (c := _) rfl rfl rfl fun E => ?_
  simp only [argsFrame]
  repeat' first
    | (with_reducible first | refine PW.seq ?_ | refine PW.block ?_ | refine PW.fork ?_ | refine PW.skip ?_ | refine PW.exit ?_ | refine PW.ret ?_)
    | (with_reducible refine PW.region ttOk ?_ ?_
       · rfl)
    | (with_reducible refine PW.regionD ttOk mixed ?_ ?_ ?_
       · rfl
       · rfl)
    | (with_reducible refine ifW_dec (fun g => ?_) (fun g => ?_) <;> first | (exfalso; omega) | (simp -dsimp only [g, wkI]))
    | (with_reducible refine condE_dec (fun g => ?_) (fun g => ?_) <;> try (exfalso; omega))
    | (with_reducible refine condE_not (fun g => ?_) (fun g => ?_) <;> try (exfalso; omega))
    | (simp -dsimp only [↓wkA, ↓wkE, wkB, ↓tt, Nat.reduceBEq, Nat.reduceEqDiff, ↓reduceIte, Nat.reduceLT, Array.toList, Nat.reduceAdd, Nat.reduceMul, Int.reduceToNat, Int.reducePow, UInt8.reduceToNat])
    | (refine call_by (h1) (views_data rfl) ⟨trivial, trivial⟩ rfl ?_)
    | (simp -dsimp (disch := first | assumption | omega) only [dec_t, dec_f])
    | (refine And.intro ?_ ?_
       · first | omega | decide | (simp (disch := omega) only [wkW, Int.reduceToNat, Int.reducePow] <;> omega) | (simp <;> omega))
    | (simp (disch := omega) only [wkW, Int.reduceToNat, Int.reducePow])
    | fail
  all_goals (refine congrArg PV.bool ?_; unfold finD; refine decide_eq_decide.2 ?_; omega)
end Go.Proofs.YtjhkpjddcaglnaaDoor
set_option linter.unusedVariables false
set_option linter.unusedSimpArgs false
namespace Go.Proofs.YtjhkpjddcaglnaaDoor
open Go Go.PV

theorem natL_one (x : Nat) (hx : 0 < x ∧ x < 18446744073709551616) : natL x = [(x : Int)] := by
  have h := digs_step (b := 18446744073709551616) (by decide) (v := x) (by omega)
  rw [Nat.mod_eq_of_lt hx.2, Nat.div_eq_of_lt hx.2, digs_zero] at h
  simp [natL, h]

theorem nil_as_ints {f : FuncId} {args : List PV} (k : IntKind) (hm : Meets Tryd.prog f args .nil) : Meets Tryd.prog f args (.ints k []) := hm.mono fun w A v h => rd_nil_ints h

theorem from_uint (x : Nat) (hx : x < 18446744073709551616) : Meets Tryd.prog 42 [.int .u64 (x : Int)] (.ints .u64 (natL x)) := by
  by_cases h0 : x = 0
  · subst h0
    rw [natL_zero]
    refine nil_as_ints .u64 ?_
    refine meets_by ttOk Tryd.func42 Tryd.ntmps42 Tryd.results42 (by kernel_rfl) (c := _) rfl rfl rfl fun E => ?_
    simp only [argsFrame]
    repeat' first
      | (with_reducible first | refine PW.seq ?_ | refine PW.block ?_ | refine PW.fork ?_ | refine PW.skip ?_ | refine PW.exit ?_ | refine PW.ret ?_)
      | (with_reducible refine PW.region ttOk ?_ ?_
         · rfl)
      | (with_reducible refine PW.regionD ttOk mixed ?_ ?_ ?_
         · rfl
         · rfl)
      | (with_reducible refine ifW_dec (fun g => ?_) (fun g => ?_) <;> first | (exfalso; omega) | (simp -dsimp only [g, wkI]))
      | (with_reducible refine condE_dec (fun g => ?_) (fun g => ?_) <;> try (exfalso; omega))
      | (with_reducible refine condE_not (fun g => ?_) (fun g => ?_) <;> try (exfalso; omega))
      | (simp -dsimp only [↓wkA, ↓wkE, wkB, ↓tt, Nat.reduceBEq, Nat.reduceEqDiff, ↓reduceIte, Nat.reduceLT, Array.toList, Nat.reduceAdd, Nat.reduceMul, Int.reduceToNat, Int.reducePow, UInt8.reduceToNat])
      | (simp -dsimp (disch := first | assumption | omega) only [dec_t, dec_f])
      | (refine And.intro ?_ ?_
         · first | omega | decide | (simp (disch := omega) only [wkW, Int.reduceToNat, Int.reducePow] <;> omega) | (simp <;> omega))
      | (simp (disch := omega) only [wkW, Int.reduceToNat, Int.reducePow])
      | fail
  · rw [natL_one x ⟨by omega, hx⟩]
    refine meets_by ttOk Tryd.func42 Tryd.ntmps42 Tryd.results42 (by kernel_rfl) (c := _) rfl rfl rfl fun E => ?_
    simp only [argsFrame]
    repeat' first
      | (with_reducible first | refine PW.seq ?_ | refine PW.block ?_ | refine PW.fork ?_ | refine PW.skip ?_ | refine PW.exit ?_ | refine PW.ret ?_)
      | (with_reducible refine PW.region ttOk ?_ ?_
         · rfl)
      | (with_reducible refine PW.regionD ttOk mixed ?_ ?_ ?_
         · rfl
         · rfl)
      | (with_reducible refine ifW_dec (fun g => ?_) (fun g => ?_) <;> first | (exfalso; omega) | (simp -dsimp only [g, wkI]))
      | (with_reducible refine condE_dec (fun g => ?_) (fun g => ?_) <;> try (exfalso; omega))
      | (with_reducible refine condE_not (fun g => ?_) (fun g => ?_) <;> try (exfalso; omega))
      | (simp -dsimp only [↓wkA, ↓wkE, wkB, ↓tt, Nat.reduceBEq, Nat.reduceEqDiff, ↓reduceIte, Nat.reduceLT, Array.toList, Nat.reduceAdd, Nat.reduceMul, Int.reduceToNat, Int.reducePow, UInt8.reduceToNat])
      | (exact Nat.le_refl _)
      | (simp -dsimp (disch := first | assumption | omega) only [dec_t, dec_f])
      | (refine And.intro ?_ ?_
         · first | omega | decide | (simp (disch := omega) only [wkW, Int.reduceToNat, Int.reducePow] <;> omega) | (simp <;> omega))
      | (simp (disch := omega) only [wkW, Int.reduceToNat, Int.reducePow])
      | fail

/-- nat.BitLen. -/
theorem nat_bitlen (v : Nat) (hv : v < NMax) : Meets Tryd.prog 60 [.ints .u64 (natL v)] (.int .i64 ((bitlen v : Nat) : Int)) := by
  have hl := natL_small hv
  have hs := nat_size (natL v) (by omega)
  rw [size_natL] at hs
  by_cases h0 : v = 0
  · subst h0
    rw [natL_zero] at hs ⊢
    have e : ((bitlen 0 : Nat) : Int) = 0 := by decide
    rw [e]
    refine meets_by ttOk Tryd.func60 Tryd.ntmps60 Tryd.results60 (by kernel_rfl) (c := _) rfl rfl rfl fun E => ?_
    simp only [argsFrame]
    repeat' first
      | (with_reducible first | refine PW.seq ?_ | refine PW.block ?_ | refine PW.fork ?_ | refine PW.skip ?_ | refine PW.exit ?_ | refine PW.ret ?_)
      | (with_reducible refine PW.region ttOk ?_ ?_
         · rfl)
      | (with_reducible refine PW.regionD ttOk mixed ?_ ?_ ?_
         · rfl
         · rfl)
      | (with_reducible refine ifW_dec (fun g => ?_) (fun g => ?_) <;> first | (exfalso; omega) | (simp -dsimp only [g, wkI]))
      | (with_reducible refine condE_dec (fun g => ?_) (fun g => ?_) <;> try (exfalso; omega))
      | (with_reducible refine condE_not (fun g => ?_) (fun g => ?_) <;> try (exfalso; omega))
      | (simp -dsimp only [↓wkA, ↓wkE, wkB, ↓tt, Nat.reduceBEq, Nat.reduceEqDiff, ↓reduceIte, Nat.reduceLT, Array.toList, Nat.reduceAdd, Nat.reduceMul, Int.reduceToNat, Int.reducePow, UInt8.reduceToNat])
      | (refine call_by (hs) (views_data rfl) ⟨trivial, trivial⟩ rfl ?_)
      | (simp -dsimp (disch := first | assumption | omega) only [dec_t, dec_f])
      | (refine And.intro ?_ ?_
         · first | omega | decide | (simp (disch := omega) only [wkW, Int.reduceToNat, Int.reducePow] <;> omega) | (simp <;> omega))
      | (simp (disch := omega) only [wkW, Int.reduceToNat, Int.reducePow])
      | fail
  obtain ⟨h1, h2⟩ := natL_ge h0
  have h3 := natL_lt v
  obtain ⟨k, hk⟩ : ∃ k, (natL v).length = k + 1 := ⟨(natL v).length - 1, by omega⟩
  have hg := natL_getD v k
  rw [hk] at hs h2 h3 hl
  rw [Nat.add_sub_cancel] at h2
  have hlt : v / 18446744073709551616 ^ k < 18446744073709551616 := by
    rw [Nat.div_lt_iff_lt_mul (Nat.pow_pos (by decide)), Nat.mul_comm, ← Nat.pow_succ]
    exact h3
  rw [Nat.mod_eq_of_lt hlt] at hg
  have hL := len64 ((v / 18446744073709551616 ^ k : Nat) : Int) ⟨Int.natCast_nonneg _, nat64 _ hlt⟩
  rw [Int.toNat_natCast] at hL
  have e2 : (18446744073709551616 : Nat) = 2 ^ 64 := rfl
  have hb : bitlen v = bitlen (v / 18446744073709551616 ^ k) + 64 * k := by
    rw [e2, ← Nat.pow_mul] at h2 ⊢
    exact bitlen_div (64 * k) h2
  have hb2 : bitlen (v / 18446744073709551616 ^ k) ≤ 64 := bitlen_le (k := 64) hlt
  rw [hb]
  generalize v / 18446744073709551616 ^ k = x at *
  generalize bitlen x = B at *
  have ek : ((k + 1 : Nat) : Int) - 1 = (k : Int) := by omega
  have w1 : IntKind.wrap .i64 (k : Int) = (k : Int) := wrap_i64 (by omega)
  have w2 : IntKind.wrap .i64 (64 * (k : Int)) = 64 * (k : Int) := wrap_i64 (by omega)
  have w3 : IntKind.wrap .i64 (64 * (k : Int) + (B : Int)) = ((B + 64 * k : Nat) : Int) := by rw [wrap_i64 (by omega)]; omega
  clear h1 h2 h3 hlt hb hb2
  generalize natL v = a at *
  refine meets_by ttOk Tryd.func60 Tryd.ntmps60 Tryd.results60 (by kernel_rfl) (c := _) rfl rfl rfl fun E => ?_
  simp only [argsFrame]
  repeat' first
    | (simp only [ek, w1, w2, w3, hg, Int.toNat_natCast])
    | (with_reducible first | refine PW.seq ?_ | refine PW.block ?_ | refine PW.fork ?_ | refine PW.skip ?_ | refine PW.exit ?_ | refine PW.ret ?_)
    | (with_reducible refine PW.region ttOk ?_ ?_
       · rfl)
    | (with_reducible refine PW.regionD ttOk mixed ?_ ?_ ?_
       · rfl
       · rfl)
    | (with_reducible refine ifW_dec (fun g => ?_) (fun g => ?_) <;> first | (exfalso; omega) | (simp -dsimp only [g, wkI]))
    | (with_reducible refine condE_dec (fun g => ?_) (fun g => ?_) <;> try (exfalso; omega))
    | (with_reducible refine condE_not (fun g => ?_) (fun g => ?_) <;> try (exfalso; omega))
    | (simp -dsimp only [↓wkA, ↓wkE, wkB, ↓tt, Nat.reduceBEq, Nat.reduceEqDiff, ↓reduceIte, Nat.reduceLT, Array.toList, Nat.reduceAdd, Nat.reduceMul, Int.reduceToNat, Int.reducePow, UInt8.reduceToNat])
    | (refine call_by (hs) (views_data rfl) ⟨trivial, trivial⟩ rfl ?_)
    | (refine call_by (hL) (views_data rfl) ⟨trivial, trivial⟩ rfl ?_)
    | (simp -dsimp (disch := first | assumption | omega) only [dec_t, dec_f])
    | (refine And.intro ?_ ?_
       · first | omega | decide | (simp (disch := omega) only [wkW, Int.reduceToNat, Int.reducePow] <;> omega) | (simp <;> omega))
    | (simp (disch := omega) only [wkW, Int.reduceToNat, Int.reducePow])
    | fail

theorem small_one (x : Nat) (hx : 0 < x ∧ x < 18446744073709551616) : Meets Tryd.prog 59 [.ints .u64 [(x : Int)], .int .i64 4096] (.tup [.ints .u64 [(x : Int)], .bool true]) := by
  have h := nat_trim [(x : Int)] (by simp)
  rw [← natL_one x hx, trim_natL, natL_one x hx] at h
  refine meets_by ttOk Tryd.func59 Tryd.ntmps59 Tryd.results59 (by kernel_rfl) (c := _) rfl rfl rfl fun E => ?_
  simp only [argsFrame]
  repeat' first
    | (with_reducible first | refine PW.seq ?_ | refine PW.block ?_ | refine PW.fork ?_ | refine PW.skip ?_ | refine PW.exit ?_ | refine PW.ret ?_)
    | (with_reducible refine PW.region ttOk ?_ ?_
       · rfl)
    | (with_reducible refine PW.regionD ttOk mixed ?_ ?_ ?_
       · rfl
       · rfl)
    | (with_reducible refine ifW_dec (fun g => ?_) (fun g => ?_) <;> first | (exfalso; omega) | (simp -dsimp only [g, wkI]))
    | (with_reducible refine condE_dec (fun g => ?_) (fun g => ?_) <;> try (exfalso; omega))
    | (with_reducible refine condE_not (fun g => ?_) (fun g => ?_) <;> try (exfalso; omega))
    | (simp -dsimp only [↓wkA, ↓wkE, wkB, ↓tt, Nat.reduceBEq, Nat.reduceEqDiff, ↓reduceIte, Nat.reduceLT, Array.toList, Nat.reduceAdd, Nat.reduceMul, Int.reduceToNat, Int.reducePow, UInt8.reduceToNat])
    | (refine call_by (h) (views_data rfl) ⟨trivial, trivial⟩ rfl ?_)
    | (simp -dsimp (disch := first | assumption | omega) only [dec_t, dec_f])
    | (refine And.intro ?_ ?_
       · first | omega | decide | (simp (disch := omega) only [wkW, Int.reduceToNat, Int.reducePow] <;> omega) | (simp <;> omega))
    | (simp (disch := omega) only [wkW, Int.reduceToNat, Int.reducePow])
    | fail
set_option exponentiation.threshold 300000 in
theorem bitlen_one (x : Nat) (hx : 0 < x ∧ x < 18446744073709551616) : Meets Tryd.prog 60 [.ints .u64 [(x : Int)]] (.int .i64 ((bitlen x : Nat) : Int)) := by
  have h := nat_bitlen x (Nat.lt_of_lt_of_le hx.2 (pow64_mono (show 1 ≤ 4096 by decide)))
  rwa [natL_one x hx] at h

abbrev pwG (β n : Nat) (l : List Int) (i : Nat) : PV.Frame := [(10, .int .i64 ((i : Int) - 1)), (9, .ints .u64 l), (6, .ints .u64 [(β : Int)]), (1, .int .i64 (n : Int))]

set_option exponentiation.threshold 300000 in
set_option maxHeartbeats 4000000 in
theorem pow_gen (β c : Nat) (hc1 : 2 ^ c ≤ β) (hc2 : β < 2 ^ (c + 1)) (hc : 1 ≤ c ∧ c ≤ 62) (n : Nat) (hn : n < 9223372036854775807) (R : PV) (hR1 : β ^ n < NMax → R = .tup [.ints .u64 (natL (β ^ n)), .int .i64 0]) (hR2 : ¬ β ^ n < NMax → R = .tup [.nil, .int .i64 2]) :
    Meets Tryd.prog 32 [.ints .u64 [(β : Int)], .int .i64 (n : Int)] R := by
  have hβ64 : β < 18446744073709551616 := Nat.lt_of_lt_of_le hc2 (show 2 ^ (c + 1) ≤ 2 ^ 64 from Nat.pow_le_pow_right (by decide) (by omega))
  have hβ0 : 2 ≤ β := Nat.le_trans (show 2 ^ 1 ≤ 2 ^ c from Nat.pow_le_pow_right (by decide) hc.1) hc1
  have hβN : β < NMax := Nat.lt_of_lt_of_le hβ64 (pow64_mono (show 1 ≤ 4096 by decide))
  have hsm := small_one β ⟨by omega, hβ64⟩
  have hbl1 := bitlen_one β ⟨by omega, hβ64⟩
  rw [bitlen_eq hc1 hc2] at hbl1
  have hnβ := natL_one β ⟨by omega, hβ64⟩
  have hcm : ((c + 1 : Nat) : Int) - 1 = (c : Int) := by omega
  have hwc : IntKind.wrap .i64 (c : Int) = (c : Int) := wrap_i64 (by omega)
  refine meets_by ttOk Tryd.func32 Tryd.ntmps32 Tryd.results32 (by kernel_rfl) (c := _) rfl rfl rfl fun E => ?_
  simp only [argsFrame]
  have hbl := bits_len (n : Int) (by simp only [B64]; omega)
  rw [Int.toNat_natCast] at hbl
  obtain ⟨q', hq'⟩ : ∃ q' : Int, (c : Int) * (n : Int) = q' := ⟨_, rfl⟩
  have hq2 : ((c * n : Nat) : Int) = q' := by rw [← hq']; simp
  have hq3 : (n : Int) < 262144 → 0 ≤ q' ∧ q' ≤ 16252928 := fun h => by
    rw [← hq2]
    have h1 : c * n ≤ 62 * 262144 := Nat.mul_le_mul hc.2 (by omega)
    omega
  have hbigc : 262144 ≤ c * n ∨ 262144 ≤ n → ¬ β ^ n < NMax := fun h => by
    have h1 : 2 ^ (c * n) ≤ β ^ n := by rw [Nat.pow_mul]; exact Nat.pow_le_pow_left hc1 n
    have h2 : 2 ^ 262144 ≤ 2 ^ (c * n) := Nat.pow_le_pow_right (by decide) (h.elim id fun h => Nat.le_trans h (Nat.le_mul_of_pos_left n hc.1))
    rw [nmax_two]
    exact Nat.not_lt.2 (Nat.le_trans h2 h1)
  have hwq : (n : Int) < 262144 → IntKind.wrap .i64 q' = q' := fun h => wrap_i64 (by have := hq3 h; omega)
  have hw : IntKind.wrap .u64 (n : Int) = (n : Int) := wrap_u64 (by omega)
  have h1 : β ^ 0 < NMax := Nat.lt_of_lt_of_le (by rw [Nat.pow_zero]; decide) (pow64_mono (show 1 ≤ 4096 by decide))
  by_cases h0 : n = 0
  · subst h0
    rw [hR1 h1, Nat.pow_zero, natL_oneL]
    repeat' first
      | (with_reducible first | refine PW.seq ?_ | refine PW.block ?_ | refine PW.fork ?_ | refine PW.skip ?_ | refine PW.exit ?_ | refine PW.ret ?_)
      | (with_reducible refine PW.region ttOk ?_ ?_
         · rfl)
      | (with_reducible refine PW.regionD ttOk mixed ?_ ?_ ?_
         · rfl
         · rfl)
      | (with_reducible refine ifW_dec (fun g => ?_) (fun g => ?_) <;> first | (exfalso; omega) | (simp -dsimp only [g, wkI]))
      | (with_reducible refine condE_dec (fun g => ?_) (fun g => ?_) <;> try (exfalso; omega))
      | (with_reducible refine condE_not (fun g => ?_) (fun g => ?_) <;> try (exfalso; omega))
      | (simp -dsimp only [↓wkA, ↓wkE, wkB, ↓tt, Nat.reduceBEq, Nat.reduceEqDiff, ↓reduceIte, Nat.reduceLT, Array.toList, Nat.reduceAdd, Nat.reduceMul, Int.reduceToNat, Int.reducePow, UInt8.reduceToNat])
      | (refine call_by hsm (views_data rfl) ⟨trivial, trivial, trivial⟩ rfl ?_)
      | (refine call_by hbl1 (views_data rfl) ⟨trivial, trivial⟩ rfl ?_)
      | (exact Nat.le_refl _)
      | (simp -dsimp (disch := first | assumption | omega) only [dec_t, dec_f])
      | (refine And.intro ?_ ?_
         · first | omega | decide | (simp (disch := omega) only [wkW, Int.reduceToNat, Int.reducePow] <;> omega) | (simp <;> omega))
      | (simp (disch := omega) only [wkW, Int.reduceToNat, Int.reducePow])
      | fail
  have hnge : (n : Int) < 262144 ∨ 262144 ≤ (n : Int) := by omega
  by_cases hbig : 262144 ≤ c * n ∨ 262144 ≤ n
  · rw [hR2 (hbigc hbig)]
    repeat' first
      | (simp (disch := omega) only [hw, hcm, hwc, hq', hwq, wkW, Int.reduceToNat, Int.reducePow])
      | (with_reducible first | refine PW.seq ?_ | refine PW.block ?_ | refine PW.fork ?_ | refine PW.skip ?_ | refine PW.exit ?_ | refine PW.ret ?_)
      | (with_reducible refine PW.region ttOk ?_ ?_
         · rfl)
      | (with_reducible refine PW.regionD ttOk mixed ?_ ?_ ?_
         · rfl
         · rfl)
      | (with_reducible refine ifW_dec (fun g => ?_) (fun g => ?_) <;> first | (exfalso; omega) | (simp -dsimp only [g, wkI]))
      | (with_reducible refine condE_dec (fun g => ?_) (fun g => ?_) <;> try (exfalso; omega))
      | (with_reducible refine condE_not (fun g => ?_) (fun g => ?_) <;> try (exfalso; omega))
      | (simp -dsimp only [↓wkA, ↓wkE, wkB, ↓tt, Nat.reduceBEq, Nat.reduceEqDiff, ↓reduceIte, Nat.reduceLT, Array.toList, Nat.reduceAdd, Nat.reduceMul, Int.reduceToNat, Int.reducePow, UInt8.reduceToNat])
      | (refine call_by hsm (views_data rfl) ⟨trivial, trivial, trivial⟩ rfl ?_)
      | (refine call_by hbl1 (views_data rfl) ⟨trivial, trivial⟩ rfl ?_)
      | (simp -dsimp (disch := first | assumption | omega) only [dec_t, dec_f])
      | (refine And.intro ?_ ?_
         · first | omega | decide | (simp (disch := omega) only [wkW, Int.reduceToNat, Int.reducePow] <;> omega) | (simp <;> omega))
      | (simp (disch := omega) only [wkW, Int.reduceToNat, Int.reducePow])
      | fail
  obtain ⟨L, hL, hL1, hL2⟩ := bitlen_spec h0
  rw [hL] at hbl
  have hL63 : L < 64 := by
    have h3 : 2 ^ L < 2 ^ 64 := Nat.lt_of_le_of_lt hL1 (by simp only [Nat.reducePow]; omega)
    exact (Nat.pow_lt_pow_iff_right (by decide)).1 h3
  repeat' first
    | (simp (disch := omega) only [hw, hcm, hwc, hq', hwq, wkW, Int.reduceToNat, Int.reducePow])
    | (with_reducible first | refine PW.seq ?_ | refine PW.block ?_ | refine PW.fork ?_ | refine PW.skip ?_ | refine PW.exit ?_ | refine PW.ret ?_)
    | (with_reducible refine PW.region ttOk ?_ ?_
       · rfl)
    | (with_reducible refine PW.regionD ttOk mixed ?_ ?_ ?_
       · rfl
       · rfl)
    | (with_reducible refine ifW_dec (fun g => ?_) (fun g => ?_) <;> first | (exfalso; omega) | (simp -dsimp only [g, wkI]))
    | (with_reducible refine condE_dec (fun g => ?_) (fun g => ?_) <;> try (exfalso; omega))
    | (with_reducible refine condE_not (fun g => ?_) (fun g => ?_) <;> try (exfalso; omega))
    | (simp -dsimp only [↓wkA, ↓wkE, wkB, ↓tt, Nat.reduceBEq, Nat.reduceEqDiff, ↓reduceIte, Nat.reduceLT, Array.toList, Nat.reduceAdd, Nat.reduceMul, Int.reduceToNat, Int.reducePow, UInt8.reduceToNat])
    | (refine call_by hsm (views_data rfl) ⟨trivial, trivial, trivial⟩ rfl ?_)
    | (refine call_by hbl1 (views_data rfl) ⟨trivial, trivial⟩ rfl ?_)
    | (refine call_by hbl (views_data rfl) ⟨trivial, trivial⟩ rfl ?_)
    | (simp -dsimp (disch := first | assumption | omega) only [dec_t, dec_f])
    | (refine And.intro ?_ ?_
       · first | omega | decide | (simp (disch := omega) only [wkW, Int.reduceToNat, Int.reducePow] <;> omega) | (simp <;> omega))
    | (simp (disch := omega) only [wkW, Int.reduceToNat, Int.reducePow])
    | fail
  have hten : natL (β ^ 0) = [1] := by rw [Nat.pow_zero]; exact natL_oneL
  refine PW.meetB (fun F H => β ^ n < NMax ∧ F = [(9, .ints .u64 (natL (β ^ n)))] ∧ H = ⟨1, [], [], []⟩) ?_ ?_
  · refine PW.loopA (fun i F H => i ≤ L + 1 ∧ β ^ (n / 2 ^ i) < NMax ∧ F = pwG β n (natL (β ^ (n / 2 ^ i))) i ∧ H = ⟨1, [], [], []⟩) (L + 1) (pwG β n (natL (β ^ (n / 2 ^ (L + 1)))) (L + 1)) ⟨1, [], [], []⟩ (Sub.trans (toData 9 0 0 1 true rfl (Nat.le_refl _)) (Sub.norm ⟨?_, ?_, rfl, rfl, trivial⟩ trivial (Nat.le_refl _) rfl rfl rfl rfl)) ⟨Nat.le_refl _, ?_, rfl, rfl⟩ ?_
    · simp (disch := omega) only [↓wkA, ↓wkE, wkB, ↓tt, Nat.reduceBEq, Nat.reduceEqDiff, ↓reduceIte, Nat.reduceLT, Array.toList, Nat.reduceAdd, Nat.reduceMul, Int.reduceToNat, Int.reducePow, UInt8.reduceToNat, wkW, Int.reduceToNat, Int.reducePow]
    · rw [Nat.div_eq_of_lt hL2, hten]; rfl
    · rw [Nat.div_eq_of_lt hL2]; exact h1
    rintro i F H ⟨hi, hlt, rfl, rfl⟩
    cases i with
    | zero =>
      rw [Nat.pow_zero, Nat.div_one] at hlt ⊢
      repeat' first
        | (with_reducible first | refine PW.seq ?_ | refine PW.block ?_ | refine PW.fork ?_ | refine PW.skip ?_ | refine PW.exit ?_ | refine PW.ret ?_)
        | (with_reducible refine PW.region ttOk ?_ ?_
           · rfl)
        | (with_reducible refine PW.regionD ttOk mixed ?_ ?_ ?_
           · rfl
           · rfl)
        | (with_reducible refine ifW_dec (fun g => ?_) (fun g => ?_) <;> first | (exfalso; omega) | (simp -dsimp only [g, wkI]))
        | (with_reducible refine condE_dec (fun g => ?_) (fun g => ?_) <;> try (exfalso; omega))
        | (with_reducible refine condE_not (fun g => ?_) (fun g => ?_) <;> try (exfalso; omega))
        | (simp -dsimp only [↓wkA, ↓wkE, wkB, ↓tt, Nat.reduceBEq, Nat.reduceEqDiff, ↓reduceIte, Nat.reduceLT, Array.toList, Nat.reduceAdd, Nat.reduceMul, Int.reduceToNat, Int.reducePow, UInt8.reduceToNat])
        | (simp -dsimp (disch := first | assumption | omega) only [dec_t, dec_f])
        | (refine And.intro ?_ ?_
           · first | omega | decide | (simp (disch := omega) only [wkW, Int.reduceToNat, Int.reducePow] <;> omega) | (simp <;> omega))
        | (simp (disch := omega) only [wkW, Int.reduceToNat, Int.reducePow])
        | fail
      exact Meet.mk [(9, .ints .u64 (natL (β ^ n)))] ⟨1, [], [], []⟩ (Sub.norm ⟨rfl, trivial⟩ trivial (Nat.le_refl _) rfl rfl rfl rfl) ⟨hlt, rfl, rfl⟩
    | succ i =>
      have e1 : (((i + 1 : Nat)) : Int) - 1 = (i : Int) := by omega
      simp only [pwG, e1]
      have hne : ∀ k, β ^ k ≠ 0 := fun k => Nat.ne_of_gt (Nat.pow_pos (by omega))
      have hstep : n / 2 ^ i = 2 * (n / 2 ^ (i + 1)) + n / 2 ^ i % 2 := by rw [Nat.pow_succ, ← Nat.div_div_eq_div_mul]; omega
      have hmono : ∀ k, k ≤ n / 2 ^ i → ¬ β ^ k < NMax → R = .tup [.nil, .int .i64 2] := fun k hk hb => hR2 fun h => hb (Nat.lt_of_le_of_lt (Nat.pow_le_pow_right (by omega) (Nat.le_trans hk (Nat.div_le_self _ _))) h)
      have hsq : β ^ (n / 2 ^ (i + 1)) * β ^ (n / 2 ^ (i + 1)) = β ^ (2 * (n / 2 ^ (i + 1))) := by rw [← Nat.pow_add]; congr 1; omega
      have hshr : ((n : Int)).fdiv (2 ^ min ((i : Int)).toNat 64) = ((n / 2 ^ i : Nat) : Int) := by
        rw [Int.toNat_natCast, Nat.min_eq_left (by omega), fdiv_pos (Int.le_of_lt (Int.pow_pos (by decide)))]
        simp
      have hwi : IntKind.wrap .u64 (i : Int) = (i : Int) := wrap_u64 (by omega)
      have hqn : n / 2 ^ i ≤ n := Nat.div_le_self _ _
      generalize n / 2 ^ (i + 1) = p at *
      generalize hqe : n / 2 ^ i = q at *
      have hand : ibits .and .i64 ((q : Nat) : Int) 1 = ((q % 2 : Nat) : Int) := by rw [and1_i64 (by omega)]; omega
      by_cases hs : β ^ (2 * p) < NMax
      · have hm1 := mul_nat (hne p) (hne p) hlt hlt (by rw [hsq]; exact hs)
        rw [hsq] at hm1
        by_cases hbit : q % 2 = 1
        · have hq : β ^ (2 * p) * β = β ^ q := by rw [← Nat.pow_succ]; congr 1; omega
          by_cases hs2 : β ^ q < NMax
          · have hm2 := mul_nat (hne (2 * p)) (show β ≠ 0 by omega) hs hβN (by rw [hq]; exact hs2)
            rw [hq, hnβ] at hm2
            repeat' first
              | (simp only [hwi, hshr, hand])
              | (with_reducible first | refine PW.seq ?_ | refine PW.block ?_ | refine PW.fork ?_ | refine PW.skip ?_ | refine PW.exit ?_ | refine PW.ret ?_)
              | (with_reducible refine PW.region ttOk ?_ ?_
                 · rfl)
              | (with_reducible refine PW.regionD ttOk mixed ?_ ?_ ?_
                 · rfl
                 · rfl)
              | (with_reducible refine ifW_dec (fun g => ?_) (fun g => ?_) <;> first | (exfalso; omega) | (simp -dsimp only [g, wkI]))
              | (with_reducible refine condE_dec (fun g => ?_) (fun g => ?_) <;> try (exfalso; omega))
              | (with_reducible refine condE_not (fun g => ?_) (fun g => ?_) <;> try (exfalso; omega))
              | (simp -dsimp only [↓wkA, ↓wkE, wkB, ↓tt, Nat.reduceBEq, Nat.reduceEqDiff, ↓reduceIte, Nat.reduceLT, Array.toList, Nat.reduceAdd, Nat.reduceMul, Int.reduceToNat, Int.reducePow, UInt8.reduceToNat])
              | (refine call_by hm1 (views_data rfl) ⟨trivial, trivial, trivial⟩ rfl ?_)
              | (refine call_by hm2 (views_data rfl) ⟨trivial, trivial, trivial⟩ rfl ?_)
              | (simp -dsimp (disch := first | assumption | omega) only [dec_t, dec_f])
              | (refine And.intro ?_ ?_
                 · first | omega | decide | (simp (disch := omega) only [wkW, Int.reduceToNat, Int.reducePow] <;> omega) | (simp <;> omega))
              | (simp (disch := omega) only [wkW, Int.reduceToNat, Int.reducePow])
              | fail
            exact Again.mk i (pwG β n (natL (β ^ q)) i) ⟨1, [], [], []⟩ (by omega) (Sub.norm ⟨rfl, rfl, rfl, rfl, trivial⟩ trivial (Nat.le_refl _) rfl rfl rfl rfl) ⟨by omega, by rw [hqe]; exact hs2, by rw [hqe], rfl⟩
          · have hm2 := mul_over (hne (2 * p)) (show β ≠ 0 by omega) hs hβN (by rw [hq]; exact hs2)
            rw [hnβ] at hm2
            rw [hmono q (Nat.le_refl _) hs2]
            repeat' first
              | (simp only [hwi, hshr, hand])
              | (with_reducible first | refine PW.seq ?_ | refine PW.block ?_ | refine PW.fork ?_ | refine PW.skip ?_ | refine PW.exit ?_ | refine PW.ret ?_)
              | (with_reducible refine PW.region ttOk ?_ ?_
                 · rfl)
              | (with_reducible refine PW.regionD ttOk mixed ?_ ?_ ?_
                 · rfl
                 · rfl)
              | (with_reducible refine ifW_dec (fun g => ?_) (fun g => ?_) <;> first | (exfalso; omega) | (simp -dsimp only [g, wkI]))
              | (with_reducible refine condE_dec (fun g => ?_) (fun g => ?_) <;> try (exfalso; omega))
              | (with_reducible refine condE_not (fun g => ?_) (fun g => ?_) <;> try (exfalso; omega))
              | (simp -dsimp only [↓wkA, ↓wkE, wkB, ↓tt, Nat.reduceBEq, Nat.reduceEqDiff, ↓reduceIte, Nat.reduceLT, Array.toList, Nat.reduceAdd, Nat.reduceMul, Int.reduceToNat, Int.reducePow, UInt8.reduceToNat])
              | (refine call_by hm1 (views_data rfl) ⟨trivial, trivial, trivial⟩ rfl ?_)
              | (refine call_by hm2 (views_data rfl) ⟨trivial, trivial, trivial⟩ rfl ?_)
              | (simp -dsimp (disch := first | assumption | omega) only [dec_t, dec_f])
              | (refine And.intro ?_ ?_
                 · first | omega | decide | (simp (disch := omega) only [wkW, Int.reduceToNat, Int.reducePow] <;> omega) | (simp <;> omega))
              | (simp (disch := omega) only [wkW, Int.reduceToNat, Int.reducePow])
              | fail
        · have hq : 2 * p = q := by omega
          rw [hq] at hm1 hs
          repeat' first
            | (simp only [hwi, hshr, hand])
            | (with_reducible first | refine PW.seq ?_ | refine PW.block ?_ | refine PW.fork ?_ | refine PW.skip ?_ | refine PW.exit ?_ | refine PW.ret ?_)
            | (with_reducible refine PW.region ttOk ?_ ?_
               · rfl)
            | (with_reducible refine PW.regionD ttOk mixed ?_ ?_ ?_
               · rfl
               · rfl)
            | (with_reducible refine ifW_dec (fun g => ?_) (fun g => ?_) <;> first | (exfalso; omega) | (simp -dsimp only [g, wkI]))
            | (with_reducible refine condE_dec (fun g => ?_) (fun g => ?_) <;> try (exfalso; omega))
            | (with_reducible refine condE_not (fun g => ?_) (fun g => ?_) <;> try (exfalso; omega))
            | (simp -dsimp only [↓wkA, ↓wkE, wkB, ↓tt, Nat.reduceBEq, Nat.reduceEqDiff, ↓reduceIte, Nat.reduceLT, Array.toList, Nat.reduceAdd, Nat.reduceMul, Int.reduceToNat, Int.reducePow, UInt8.reduceToNat])
            | (refine call_by hm1 (views_data rfl) ⟨trivial, trivial, trivial⟩ rfl ?_)
            | (simp -dsimp (disch := first | assumption | omega) only [dec_t, dec_f])
            | (refine And.intro ?_ ?_
               · first | omega | decide | (simp (disch := omega) only [wkW, Int.reduceToNat, Int.reducePow] <;> omega) | (simp <;> omega))
            | (simp (disch := omega) only [wkW, Int.reduceToNat, Int.reducePow])
            | fail
          exact Again.mk i (pwG β n (natL (β ^ q)) i) ⟨1, [], [], []⟩ (by omega) (Sub.norm ⟨rfl, rfl, rfl, rfl, trivial⟩ trivial (Nat.le_refl _) rfl rfl rfl rfl) ⟨by omega, by rw [hqe]; exact hs, by rw [hqe], rfl⟩
      · have hm1 := mul_over (hne p) (hne p) hlt hlt (by rw [hsq]; exact hs)
        rw [hmono (2 * p) (by omega) hs]
        repeat' first
          | (simp only [hwi, hshr, hand])
          | (with_reducible first | refine PW.seq ?_ | refine PW.block ?_ | refine PW.fork ?_ | refine PW.skip ?_ | refine PW.exit ?_ | refine PW.ret ?_)
          | (with_reducible refine PW.region ttOk ?_ ?_
             · rfl)
          | (with_reducible refine PW.regionD ttOk mixed ?_ ?_ ?_
             · rfl
             · rfl)
          | (with_reducible refine ifW_dec (fun g => ?_) (fun g => ?_) <;> first | (exfalso; omega) | (simp -dsimp only [g, wkI]))
          | (with_reducible refine condE_dec (fun g => ?_) (fun g => ?_) <;> try (exfalso; omega))
          | (with_reducible refine condE_not (fun g => ?_) (fun g => ?_) <;> try (exfalso; omega))
          | (simp -dsimp only [↓wkA, ↓wkE, wkB, ↓tt, Nat.reduceBEq, Nat.reduceEqDiff, ↓reduceIte, Nat.reduceLT, Array.toList, Nat.reduceAdd, Nat.reduceMul, Int.reduceToNat, Int.reducePow, UInt8.reduceToNat])
          | (refine call_by hm1 (views_data rfl) ⟨trivial, trivial, trivial⟩ rfl ?_)
          | (simp -dsimp (disch := first | assumption | omega) only [dec_t, dec_f])
          | (refine And.intro ?_ ?_
             · first | omega | decide | (simp (disch := omega) only [wkW, Int.reduceToNat, Int.reducePow] <;> omega) | (simp <;> omega))
          | (simp (disch := omega) only [wkW, Int.reduceToNat, Int.reducePow])
          | fail
  rintro F H ⟨hfin, rfl, rfl⟩
  rw [hR1 hfin]
  repeat' first
    | (with_reducible first | refine PW.seq ?_ | refine PW.block ?_ | refine PW.fork ?_ | refine PW.skip ?_ | refine PW.exit ?_ | refine PW.ret ?_)
    | (with_reducible refine PW.region ttOk ?_ ?_
       · rfl)
    | (with_reducible refine PW.regionD ttOk mixed ?_ ?_ ?_
       · rfl
       · rfl)
    | (with_reducible refine ifW_dec (fun g => ?_) (fun g => ?_) <;> first | (exfalso; omega) | (simp -dsimp only [g, wkI]))
    | (with_reducible refine condE_dec (fun g => ?_) (fun g => ?_) <;> try (exfalso; omega))
    | (with_reducible refine condE_not (fun g => ?_) (fun g => ?_) <;> try (exfalso; omega))
    | (simp -dsimp only [↓wkA, ↓wkE, wkB, ↓tt, Nat.reduceBEq, Nat.reduceEqDiff, ↓reduceIte, Nat.reduceLT, Array.toList, Nat.reduceAdd, Nat.reduceMul, Int.reduceToNat, Int.reducePow, UInt8.reduceToNat])
    | (simp -dsimp (disch := first | assumption | omega) only [dec_t, dec_f])
    | (refine And.intro ?_ ?_
       · first | omega | decide | (simp (disch := omega) only [wkW, Int.reduceToNat, Int.reducePow] <;> omega) | (simp <;> omega))
    | (simp (disch := omega) only [wkW, Int.reduceToNat, Int.reducePow])
    | fail

set_option exponentiation.threshold 300000 in
theorem pow5_ok (n : Nat) (hn : n < 9223372036854775807) (h : 5 ^ n < NMax) : Meets Tryd.prog 45 [.int .i64 (n : Int)] (.tup [.ints .u64 (natL (5 ^ n)), .int .i64 0]) := by
  have h1 := pow_gen 5 2 (by decide) (by decide) (by decide) n hn _ (fun _ => rfl) (fun h2 => absurd h h2)
  refine meets_by ttOk Tryd.func45 Tryd.ntmps45 Tryd.results45 (by kernel_rfl) (c := _) rfl rfl rfl fun E => ?_
  simp only [argsFrame]
  repeat' first
    | (with_reducible first | refine PW.seq ?_ | refine PW.block ?_ | refine PW.fork ?_ | refine PW.skip ?_ | refine PW.exit ?_ | refine PW.ret ?_)
    | (with_reducible refine PW.region ttOk ?_ ?_
       · rfl)
    | (with_reducible refine PW.regionD ttOk mixed ?_ ?_ ?_
       · rfl
       · rfl)
    | (with_reducible refine ifW_dec (fun g => ?_) (fun g => ?_) <;> first | (exfalso; omega) | (simp -dsimp only [g, wkI]))
    | (with_reducible refine condE_dec (fun g => ?_) (fun g => ?_) <;> try (exfalso; omega))
    | (with_reducible refine condE_not (fun g => ?_) (fun g => ?_) <;> try (exfalso; omega))
    | (simp -dsimp only [↓wkA, ↓wkE, wkB, ↓tt, Nat.reduceBEq, Nat.reduceEqDiff, ↓reduceIte, Nat.reduceLT, Array.toList, Nat.reduceAdd, Nat.reduceMul, Int.reduceToNat, Int.reducePow, UInt8.reduceToNat])
    | (refine call_drop (args' := [.ints .u64 [((5 : Nat) : Int)], .int .i64 (n : Int)]) rfl h1 (by simp -dsimp only [okViews, ↓wkA, ↓wkE, wkB, ↓tt, Nat.reduceBEq, Nat.reduceEqDiff, ↓reduceIte, Nat.reduceLT, Array.toList, Nat.reduceAdd, Nat.reduceMul, Int.reduceToNat, Int.reducePow, UInt8.reduceToNat]; decide) rfl ?_)
    | (simp -dsimp (disch := first | assumption | omega) only [dec_t, dec_f])
    | (refine And.intro ?_ ?_
       · first | omega | decide | (simp (disch := omega) only [wkW, Int.reduceToNat, Int.reducePow] <;> omega) | (simp <;> omega))
    | (simp (disch := omega) only [wkW, Int.reduceToNat, Int.reducePow])
    | fail
end Go.Proofs.YtjhkpjddcaglnaaDoor
set_option linter.unusedVariables false
set_option linter.unusedSimpArgs false
namespace Go.Proofs.YtjhkpjddcaglnaaDoor
open Go Go.PV

theorem pow64_two (k : Nat) : 18446744073709551616 ^ k = 2 ^ (64 * k) := by rw [Nat.pow_mul]
/-- Two ways to write a number as a power of two times an odd one are one. -/
theorem odd_unique {a b m n : Nat} (h : 2 ^ a * (2 * m + 1) = 2 ^ b * (2 * n + 1)) : a = b := by
  have key : ∀ a c m n : Nat, 2 ^ a * (2 * m + 1) = 2 ^ (a + c) * (2 * n + 1) → c = 0 := by
    intro a c m n h
    rw [Nat.pow_add, Nat.mul_assoc] at h
    have h2 := Nat.eq_of_mul_eq_mul_left (Nat.pow_pos (by decide)) h
    cases c with
    | zero => rfl
    | succ c =>
      rw [Nat.pow_succ, Nat.mul_comm (2 ^ c), Nat.mul_assoc] at h2
      omega
  rcases Nat.le_total a b with hab | hab
  · obtain ⟨c, rfl⟩ := Nat.le.dest hab
    have := key a c m n h; omega
  · obtain ⟨c, rfl⟩ := Nat.le.dest hab
    have := key b c n m h.symm; omega
/-- How often two divides it. -/
theorem odd_part {v : Nat} (h : v ≠ 0) : ∃ t m, v = 2 ^ t * (2 * m + 1) := by
  obtain ⟨m, h1, _⟩ := Lib.ctzFrom_spec v v (by omega) Nat.lt_two_pow_self
  exact ⟨_, m, h1⟩

theorem limb_zero {v i : Nat} (h : v % 18446744073709551616 ^ i = 0) (hx : v / 18446744073709551616 ^ i % 18446744073709551616 = 0) : v % 18446744073709551616 ^ (i + 1) = 0 := by
  rw [Nat.pow_succ, Nat.mod_mul, h, hx]; rfl

/-- nat.Trail. -/
theorem nat_trail {v t m : Nat} (hv : v < NMax) (hd : v = 2 ^ t * (2 * m + 1)) : Meets Tryd.prog 43 [.ints .u64 (natL v)] (.int .i64 (t : Int)) := by
  have hl := natL_small hv
  have hg := natL_getD v
  have hlt := natL_lt v
  have hv0 : v ≠ 0 := by rw [hd]; exact Nat.ne_of_gt (Nat.mul_pos (Nat.pow_pos (by decide)) (by omega))
  have hfin : v % 18446744073709551616 ^ (natL v).length ≠ 0 := by rw [Nat.mod_eq_of_lt hlt]; exact hv0
  have hhit : ∀ i, v % 18446744073709551616 ^ i = 0 → v / 18446744073709551616 ^ i % 18446744073709551616 ≠ 0 → t = 64 * i + Lib.ctz 64 (v / 18446744073709551616 ^ i % 18446744073709551616) ∧ Lib.ctz 64 (v / 18446744073709551616 ^ i % 18446744073709551616) < 64 := fun i h1 h2 => by
    obtain ⟨h3, k, h4⟩ := ctz_spec h2 (Nat.mod_lt _ (by decide))
    refine ⟨?_, h3⟩
    generalize Lib.ctz 64 (v / 18446744073709551616 ^ i % 18446744073709551616) = c at *
    have h5 := Nat.div_add_mod v (18446744073709551616 ^ i)
    rw [h1, Nat.add_zero] at h5
    have h6 := Nat.div_add_mod (v / 18446744073709551616 ^ i) 18446744073709551616
    rw [h4] at h6
    generalize v / 18446744073709551616 ^ i / 18446744073709551616 = r at *
    have h7 : (18446744073709551616 : Nat) = 2 ^ c * (2 * 2 ^ (63 - c)) := by
      rw [← Nat.pow_succ', ← Nat.pow_add, show c + (63 - c).succ = 64 by omega]
    have h8 : 18446744073709551616 * r = 2 ^ c * (2 * (2 ^ (63 - c) * r)) := by
      conv => lhs; rw [h7]
      rw [Nat.mul_assoc, Nat.mul_assoc]
    rw [h8, ← Nat.mul_add] at h6
    have h9 : v = 2 ^ (64 * i + c) * (2 * (2 ^ (63 - c) * r + k) + 1) := by
      rw [← h5, ← h6, pow64_two, ← Nat.mul_assoc, ← Nat.pow_add]
      congr 1
      omega
    exact odd_unique (hd.symm.trans h9)
  clear hlt
  refine meets_by ttOk Tryd.func43 Tryd.ntmps43 Tryd.results43 (by kernel_rfl) (c := _) rfl rfl rfl fun E => ?_
  simp only [argsFrame]
  repeat' first
    | (with_reducible first | refine PW.seq ?_ | refine PW.block ?_ | refine PW.fork ?_ | refine PW.skip ?_ | refine PW.exit ?_ | refine PW.ret ?_)
    | (with_reducible refine PW.region ttOk ?_ ?_
       · rfl)
    | (with_reducible refine PW.regionD ttOk mixed ?_ ?_ ?_
       · rfl
       · rfl)
    | (with_reducible refine ifW_dec (fun g => ?_) (fun g => ?_) <;> first | (exfalso; omega) | (simp -dsimp only [g, wkI]))
    | (with_reducible refine condE_dec (fun g => ?_) (fun g => ?_) <;> try (exfalso; omega))
    | (with_reducible refine condE_not (fun g => ?_) (fun g => ?_) <;> try (exfalso; omega))
    | (simp -dsimp only [↓wkA, ↓wkE, wkB, ↓tt, Nat.reduceBEq, Nat.reduceEqDiff, ↓reduceIte, Nat.reduceLT, Array.toList, Nat.reduceAdd, Nat.reduceMul, Int.reduceToNat, Int.reducePow, UInt8.reduceToNat])
    | (simp -dsimp (disch := first | assumption | omega) only [dec_t, dec_f])
    | (refine And.intro ?_ ?_
       · first | omega | decide | (simp (disch := omega) only [wkW, Int.reduceToNat, Int.reducePow] <;> omega) | (simp <;> omega))
    | (simp (disch := omega) only [wkW, Int.reduceToNat, Int.reducePow])
    | fail
  refine PW.loopA (fun n F H => ∃ i, i + n = (natL v).length ∧ v % 18446744073709551616 ^ i = 0 ∧ F = [(7, .int .i64 (i : Int)), (6, .int .i64 (natL v).length), (5, .ints .u64 (natL v))] ∧ H = ⟨0, [], [], []⟩) (natL v).length [(7, .int .i64 ((0 : Nat) : Int)), (6, .int .i64 (natL v).length), (5, .ints .u64 (natL v))] ⟨0, [], [], []⟩ (Sub.norm ⟨rfl, rfl, rfl, trivial⟩ trivial (Nat.le_refl _) rfl rfl rfl rfl) ⟨0, by omega, Nat.mod_one _, rfl, rfl⟩ ?_
  rintro n F H ⟨i, hi, hz, rfl, rfl⟩
  cases n with
  | zero =>
    obtain rfl : i = (natL v).length := by omega
    exact absurd hz hfin
  | succ n =>
    have hgi := hg i
    have hhi := hhit i hz
    have hlz := limb_zero hz
    have hxl := Nat.mod_lt (v / 18446744073709551616 ^ i) (show 18446744073709551616 > 0 by decide)
    clear hg hhit hfin hz hd
    generalize v / 18446744073709551616 ^ i % 18446744073709551616 = x at *
    have hil : i < (natL v).length := by omega
    by_cases hx : x = 0
    · subst hx
      have hz2 := hlz rfl
      clear hlz hhi
      have hx0 : ((0 : Nat) : Int) = 0 := rfl
      rw [hx0] at hgi
      repeat' first
        | (simp only [hgi, Int.toNat_natCast])
        | (with_reducible first | refine PW.seq ?_ | refine PW.block ?_ | refine PW.fork ?_ | refine PW.skip ?_ | refine PW.exit ?_ | refine PW.ret ?_)
        | (with_reducible refine PW.region ttOk ?_ ?_
           · rfl)
        | (with_reducible refine PW.regionD ttOk mixed ?_ ?_ ?_
           · rfl
           · rfl)
        | (with_reducible refine ifW_dec (fun g => ?_) (fun g => ?_) <;> first | (exfalso; omega) | (simp -dsimp only [g, wkI]))
        | (with_reducible refine condE_dec (fun g => ?_) (fun g => ?_) <;> try (exfalso; omega))
        | (with_reducible refine condE_not (fun g => ?_) (fun g => ?_) <;> try (exfalso; omega))
        | (simp -dsimp only [↓wkA, ↓wkE, wkB, ↓tt, Nat.reduceBEq, Nat.reduceEqDiff, ↓reduceIte, Nat.reduceLT, Array.toList, Nat.reduceAdd, Nat.reduceMul, Int.reduceToNat, Int.reducePow, UInt8.reduceToNat])
        | (simp -dsimp (disch := first | assumption | omega) only [dec_t, dec_f])
        | (refine And.intro ?_ ?_
           · first | omega | decide | (simp (disch := omega) only [wkW, Int.reduceToNat, Int.reducePow] <;> omega) | (simp <;> omega))
        | (simp (disch := omega) only [wkW, Int.reduceToNat, Int.reducePow])
        | fail
      exact Again.mk n [(7, .int .i64 ((i + 1 : Nat) : Int)), (6, .int .i64 (natL v).length), (5, .ints .u64 (natL v))] ⟨0, [], [], []⟩ (by omega) (Sub.norm ⟨rfl, rfl, rfl, trivial⟩ trivial (Nat.le_refl _) rfl rfl rfl rfl) ⟨i + 1, by omega, hz2, rfl, rfl⟩
    · obtain ⟨h1, h2⟩ := hhi hx
      have htr := trailing64 x hxl
      have hne : (x : Int) ≠ 0 := by omega
      have w1 : IntKind.wrap .i64 (64 * (i : Int)) = 64 * (i : Int) := wrap_i64 (by omega)
      have w2 : IntKind.wrap .i64 (64 * (i : Int) + ((Lib.ctz 64 x : Nat) : Int)) = (t : Int) := by rw [wrap_i64 (by omega)]; omega
      have hdec : decide ((x : Int) = 0) = false := decide_eq_false hne
      clear hlz h1 hhi
      generalize Lib.ctz 64 x = c at *
      repeat' first
        | (simp only [hgi, w1, w2, hdec, Int.toNat_natCast])
        | (with_reducible first | refine PW.seq ?_ | refine PW.block ?_ | refine PW.fork ?_ | refine PW.skip ?_ | refine PW.exit ?_ | refine PW.ret ?_)
        | (with_reducible refine PW.region ttOk ?_ ?_
           · rfl)
        | (with_reducible refine PW.regionD ttOk mixed ?_ ?_ ?_
           · rfl
           · rfl)
        | (with_reducible refine ifW_dec (fun g => ?_) (fun g => ?_) <;> first | (exfalso; omega) | (simp -dsimp only [g, wkI]))
        | (with_reducible refine condE_dec (fun g => ?_) (fun g => ?_) <;> try (exfalso; omega))
        | (with_reducible refine condE_not (fun g => ?_) (fun g => ?_) <;> try (exfalso; omega))
        | (simp -dsimp only [↓wkA, ↓wkE, wkB, ↓tt, Nat.reduceBEq, Nat.reduceEqDiff, ↓reduceIte, Nat.reduceLT, Array.toList, Nat.reduceAdd, Nat.reduceMul, Int.reduceToNat, Int.reducePow, UInt8.reduceToNat])
        | (refine call_by (htr) (views_data rfl) ⟨trivial, trivial⟩ rfl ?_)
        | (simp -dsimp (disch := first | assumption | omega) only [dec_t, dec_f])
        | (refine And.intro ?_ ?_
           · first | omega | decide | (simp (disch := omega) only [wkW, Int.reduceToNat, Int.reducePow] <;> omega) | (simp <;> omega))
        | (simp (disch := omega) only [wkW, Int.reduceToNat, Int.reducePow])
        | fail

/-- What is lost by a shift. -/
theorem lost_iff {u t m : Nat} (hd : u = 2 ^ t * (2 * m + 1)) (n : Nat) : t < n ↔ u % 2 ^ n ≠ 0 := by
  constructor
  · intro h h0
    obtain ⟨c, rfl⟩ : ∃ c, n = t + (c + 1) := ⟨n - t - 1, by omega⟩
    rw [hd, Nat.pow_add, Nat.mul_mod_mul_left] at h0
    have h1 : (2 * m + 1) % 2 ^ (c + 1) = 0 := by
      rcases Nat.mul_eq_zero.1 h0 with h | h
      · exact absurd h (Nat.ne_of_gt (Nat.pow_pos (by decide)))
      · exact h
    rw [Nat.pow_succ'] at h1
    have := Nat.mod_mul (x := 2 * m + 1) (a := 2) (b := 2 ^ c)
    omega
  · intro h
    refine Nat.lt_of_not_le fun hle => h ?_
    obtain ⟨c, rfl⟩ := Nat.le.dest hle
    rw [hd, Nat.pow_add, Nat.mul_assoc]
    exact Nat.mul_mod_right _ _

/-- A limb of what is shifted down. -/
theorem shr_limb (u q p j : Nat) (hp : p < 64) : u / 2 ^ (64 * q + p) / 18446744073709551616 ^ j % 18446744073709551616 =
    (u / 18446744073709551616 ^ (q + j) % 18446744073709551616) / 2 ^ p + (u / 18446744073709551616 ^ (q + j + 1) % 18446744073709551616) * 2 ^ (64 - p) % 18446744073709551616 := by
  rw [Nat.div_div_eq_div_mul, Nat.pow_add 2 (64 * q), ← pow64_two, Nat.mul_right_comm, ← Nat.pow_add, ← Nat.div_div_eq_div_mul, Nat.pow_succ, ← Nat.div_div_eq_div_mul]
  generalize u / 18446744073709551616 ^ (q + j) = w
  have e : (18446744073709551616 : Nat) = 2 ^ p * 2 ^ (64 - p) := by rw [← Nat.pow_add, show p + (64 - p) = 64 by omega]
  have hP : 0 < 2 ^ p := Nat.pow_pos (by decide)
  have hQ : 0 < 2 ^ (64 - p) := Nat.pow_pos (by decide)
  -- w = lo + B hi
  have h1 := Nat.div_add_mod w 18446744073709551616
  generalize w / 18446744073709551616 = h at *
  generalize hlo : w % 18446744073709551616 = lo at *
  have hlo2 : lo < 18446744073709551616 := by rw [← hlo]; exact Nat.mod_lt _ (by decide)
  have e1 : w / 2 ^ p = lo / 2 ^ p + h * 2 ^ (64 - p) := by
    rw [← h1]
    have : 18446744073709551616 * h + lo = lo + 2 ^ p * (h * 2 ^ (64 - p)) := by
      have e' : 18446744073709551616 * h = 2 ^ p * 2 ^ (64 - p) * h := by rw [← e]
      rw [e']; grind
    rw [this, Nat.add_mul_div_left _ _ hP]
  rw [e1]
  have h3 : lo / 2 ^ p < 2 ^ (64 - p) := by
    rw [Nat.div_lt_iff_lt_mul hP, Nat.mul_comm, ← e]; exact hlo2
  -- h * 2^(64-p) mod B is a multiple of 2^(64-p)
  have h4 : h * 2 ^ (64 - p) % 18446744073709551616 = h % 2 ^ p * 2 ^ (64 - p) := by
    rw [e, Nat.mul_mod_mul_right]
  have h5 : h % 18446744073709551616 * 2 ^ (64 - p) % 18446744073709551616 = h % 2 ^ p * 2 ^ (64 - p) := by
    rw [Nat.mod_mul_mod, h4]
  rw [h5, Nat.add_mod, h4]
  have h6 : lo / 2 ^ p + h % 2 ^ p * 2 ^ (64 - p) < 18446744073709551616 := by
    have h7 : h % 2 ^ p + 1 ≤ 2 ^ p := Nat.mod_lt _ hP
    have h8 := Nat.mul_le_mul_right (2 ^ (64 - p)) h7
    rw [← e, Nat.add_mul] at h8
    omega
  rw [Nat.mod_eq_of_lt (show lo / 2 ^ p < 18446744073709551616 from Nat.lt_of_le_of_lt (Nat.div_le_self _ _) hlo2), Nat.mod_eq_of_lt h6]
end Go.Proofs.YtjhkpjddcaglnaaDoor
set_option maxHeartbeats 4000000
set_option maxRecDepth 4000
set_option linter.unusedVariables false
set_option linter.unusedSimpArgs false
namespace Go.Proofs.YtjhkpjddcaglnaaDoor
open Go Go.PV

theorem or_nat {x y k : Nat} (hx : x < 2 ^ k) (hy : y % 2 ^ k = 0) (hy2 : y < 18446744073709551616) (hx2 : x < 18446744073709551616) : ibits .or .u64 (x : Int) (y : Int) = ((x + y : Nat) : Int) := by
  have h2 : ((2 : Int) ^ k) = ((2 ^ k : Nat) : Int) := by simp
  rw [or_apart k ⟨Int.natCast_nonneg _, by rw [h2]; exact Int.ofNat_lt.2 hx⟩ ⟨Int.natCast_nonneg _, by omega⟩ (by rw [h2, ← Int.natCast_emod, hy]; rfl) (by omega)]
  omega

abbrev srF (a : List Int) (q p N i : Nat) (b : Bool) : PV.Frame := [(50, .int .i64 (i : Int)), (49, .int .i64 (N : Int)), (10, .sl 0 0 N true), (9, .int .u64 (p : Int)), (8, .int .i64 (q : Int)), (7, .bool b), (0, .ints .u64 a)]

/-- nat.Shr: the code, over limbs. -/
theorem shr_list (a : List Int) (lim : Nat → Nat) (L n q p N : Nat) (hL : a.length = L) (hL2 : L ≤ 4096) (hsa : size a = a.length) (h0 : 0 < L) (hg : ∀ k, a.getD k 0 = (lim k : Int)) (hlim : ∀ k, lim k < 18446744073709551616) (htop : ∀ k, L ≤ k → lim k = 0) (hn : n ≤ 9223372036854775807) (hq : n / 64 = q) (hp : n % 64 = p) (hqL : q < L) (hN : N = L - q)
    (out : List Int) (hol : out.length = N) (ho : ∀ j, j < N → out.getD j 0 = ((lim (q + j) / 2 ^ p + lim (q + j + 1) * 2 ^ (64 - p) % 18446744073709551616 : Nat) : Int)) (t : Int) (b : Bool) (hb : decide (t < (n : Int)) = b) (htr : Meets Tryd.prog 43 [.ints .u64 a] (.int .i64 t)) (res : List Int) (hcut : Meets Tryd.prog 38 [.ints .u64 out] (.tup [.ints .u64 res, .int .i64 0])) :
    Meets Tryd.prog 44 [.ints .u64 a, .int .i64 (n : Int)] (.tup [.ints .u64 res, .bool b, .int .i64 0]) := by
  have hp64 : p < 64 := by omega
  have s1 := size_as (a := a) (by omega) hsa
  have b1 := big_as (a := a) (by omega) hsa
  rw [hL] at s1
  have e1 : ((n : Int)).tdiv 64 = (q : Int) := by rw [Int.tdiv_eq_ediv_of_nonneg (by omega)]; omega
  have e2 : ((n : Int)).tmod 64 = (p : Int) := by rw [Int.tmod_eq_emod_of_nonneg (by omega)]; omega
  have w1 : IntKind.wrap .i64 (q : Int) = (q : Int) := wrap_i64 (by omega)
  have w2 : IntKind.wrap .u64 (p : Int) = (p : Int) := wrap_u64 (by omega)
  have w3 : IntKind.wrap .i64 ((L : Int) - (q : Int)) = (N : Int) := by rw [wrap_i64 (by omega)]; omega
  have w4 : IntKind.wrap .i64 (64 * (L : Int)) = 64 * (L : Int) := wrap_i64 (by omega)
  have w5 : IntKind.wrap .u64 (64 - (p : Int)) = ((64 - p : Nat) : Int) := by rw [wrap_u64 (by omega)]; omega
  have hnl : (n : Int) < 64 * (L : Int) := by omega
  have hpos : decide ((0 : Int) < (L : Int)) = true := decide_eq_true (by omega)
  have htk : a.take L = a := List.take_of_length_le (by omega)
  clear hsa
  refine meets_by ttOk Tryd.func44 Tryd.ntmps44 Tryd.results44 (by kernel_rfl) (c := _) rfl rfl rfl fun E => ?_
  simp only [argsFrame]
  repeat' first
    | (simp only [htk, e1, e2, w1, w2, w3, w4, hb, hpos, hL])
    | (with_reducible first | refine PW.seq ?_ | refine PW.block ?_ | refine PW.fork ?_ | refine PW.skip ?_ | refine PW.exit ?_ | refine PW.ret ?_)
    | (with_reducible refine PW.region ttOk ?_ ?_
       · rfl)
    | (with_reducible refine PW.regionD ttOk mixed ?_ ?_ ?_
       · rfl
       · rfl)
    | (with_reducible refine ifW_dec (fun g => ?_) (fun g => ?_) <;> first | (exfalso; omega) | (simp -dsimp only [g, wkI]))
    | (with_reducible refine condE_dec (fun g => ?_) (fun g => ?_) <;> try (exfalso; omega))
    | (with_reducible refine condE_not (fun g => ?_) (fun g => ?_) <;> try (exfalso; omega))
    | (simp -dsimp only [↓wkA, ↓wkE, wkB, ↓tt, Nat.reduceBEq, Nat.reduceEqDiff, ↓reduceIte, Nat.reduceLT, Array.toList, Nat.reduceAdd, Nat.reduceMul, Int.reduceToNat, Int.reducePow, UInt8.reduceToNat])
    | (refine call_by (b1) (views_data rfl) ⟨trivial, trivial⟩ rfl ?_)
    | (refine call_by (s1) (views_data rfl) ⟨trivial, trivial⟩ rfl ?_)
    | (refine call_by (htr) (views_data rfl) ⟨trivial, trivial⟩ rfl ?_)
    | (simp -dsimp (disch := first | assumption | omega) only [dec_t, dec_f])
    | (refine And.intro ?_ ?_
       · first | omega | decide | (simp (disch := omega) only [wkW, Int.reduceToNat, Int.reducePow] <;> omega) | (simp <;> omega))
    | (simp (disch := omega) only [wkW, Int.reduceToNat, Int.reducePow])
    | fail
  refine PW.loopA (fun m F H => ∃ i o, i + m = N ∧ o.length = N ∧ (∀ j, j < i → o.getD j 0 = out.getD j 0) ∧ F = srF a q p N i b ∧ H = ⟨1, [(0, .ints .u64 o)], [], []⟩) N (srF a q p N 0 b) ⟨1, [(0, .ints .u64 (List.replicate N 0))], [], []⟩ (Sub.norm ⟨rfl, rfl, rfl, rfl, rfl, rfl, rfl, trivial⟩ ⟨rfl, trivial⟩ (by simp) rfl rfl rfl rfl) ⟨0, _, by omega, by simp, fun j hj => absurd hj (by omega), rfl, rfl⟩ ?_
  rintro m F H ⟨i, o, hi, hoL, hoj, rfl, rfl⟩
  cases m with
  | zero =>
    obtain rfl : i = N := by omega
    obtain rfl : o = out := list_ext (by omega) fun j hj => hoj j (by omega)
    repeat' first
      | (with_reducible first | refine PW.seq ?_ | refine PW.block ?_ | refine PW.fork ?_ | refine PW.skip ?_ | refine PW.exit ?_ | refine PW.ret ?_)
      | (with_reducible refine PW.region ttOk ?_ ?_
         · rfl)
      | (with_reducible refine PW.regionD ttOk mixed ?_ ?_ ?_
         · rfl
         · rfl)
      | (with_reducible refine ifW_dec (fun g => ?_) (fun g => ?_) <;> first | (exfalso; omega) | (simp -dsimp only [g, wkI]))
      | (with_reducible refine condE_dec (fun g => ?_) (fun g => ?_) <;> try (exfalso; omega))
      | (with_reducible refine condE_not (fun g => ?_) (fun g => ?_) <;> try (exfalso; omega))
      | (simp -dsimp only [↓wkA, ↓wkE, wkB, ↓tt, Nat.reduceBEq, Nat.reduceEqDiff, ↓reduceIte, Nat.reduceLT, Array.toList, Nat.reduceAdd, Nat.reduceMul, Int.reduceToNat, Int.reducePow, UInt8.reduceToNat])
      | (refine call_drop (args' := [.ints .u64 o]) (by simp -dsimp only [↓wkA, ↓wkE, wkB, ↓tt, Nat.reduceBEq, Nat.reduceEqDiff, ↓reduceIte, Nat.reduceLT, Array.toList, Nat.reduceAdd, Nat.reduceMul, Int.reduceToNat, Int.reducePow, UInt8.reduceToNat] <;> rw [List.take_of_length_le (by omega)]) hcut (by simp -dsimp only [okViews, ↓wkA, ↓wkE, wkB, ↓tt, Nat.reduceBEq, Nat.reduceEqDiff, ↓reduceIte, Nat.reduceLT, Array.toList, Nat.reduceAdd, Nat.reduceMul, Int.reduceToNat, Int.reducePow, UInt8.reduceToNat] <;> omega) rfl ?_)
      | (simp -dsimp (disch := first | assumption | omega) only [dec_t, dec_f])
      | (refine And.intro ?_ ?_
         · first | omega | decide | (simp (disch := omega) only [wkW, Int.reduceToNat, Int.reducePow] <;> omega) | (simp <;> omega))
      | (simp (disch := omega) only [wkW, Int.reduceToNat, Int.reducePow])
      | fail
  | succ m =>
    have hlo := hlim (q + i)
    have hhi := hlim (q + i + 1)
    have g1 := hg (q + i)
    have g2 := hg (q + i + 1)
    have hoi := ho i (by omega)
    have hP : 0 < 2 ^ p := Nat.pow_pos (by decide)
    have hQ : 0 < 2 ^ (64 - p) := Nat.pow_pos (by decide)
    have hPQ : (18446744073709551616 : Nat) = 2 ^ p * 2 ^ (64 - p) := by rw [← Nat.pow_add, show p + (64 - p) = 64 by omega]
    have w6 : IntKind.wrap .i64 ((q : Int) + (i : Int)) = ((q + i : Nat) : Int) := by rw [wrap_i64 (by omega)]; omega
    have w7 : IntKind.wrap .i64 (((q + i : Nat) : Int) + 1) = ((q + i + 1 : Nat) : Int) := by rw [wrap_i64 (by omega)]; omega
    have htopi := htop (q + i + 1)
    generalize lim (q + i) = lo at *
    generalize lim (q + i + 1) = hi' at *
    have e3 : ((lo : Int)).fdiv (2 ^ min p 64) = ((lo / 2 ^ p : Nat) : Int) := by
      rw [Nat.min_eq_left (by omega), Int.fdiv_eq_ediv_of_nonneg _ (by exact_mod_cast Nat.zero_le _)]
      simp
    have e4 : IntKind.wrap .u64 ((hi' : Int) * 2 ^ min (64 - p) 64) = ((hi' * 2 ^ (64 - p) % 18446744073709551616 : Nat) : Int) := by
      rw [wrap_u64', Nat.min_eq_left (by omega)]
      simp
    have hx1 : lo / 2 ^ p < 2 ^ (64 - p) := by
      rw [Nat.div_lt_iff_lt_mul hP, Nat.mul_comm, ← hPQ]; exact hlo
    have hx2 : hi' * 2 ^ (64 - p) % 18446744073709551616 % 2 ^ (64 - p) = 0 := by
      rw [hPQ, Nat.mul_mod_mul_right]
      exact Nat.mul_mod_left _ _
    have hy := Nat.mod_lt (hi' * 2 ^ (64 - p)) (show 18446744073709551616 > 0 by decide)
    have hlo1 : lo / 2 ^ p < 18446744073709551616 := Nat.lt_of_le_of_lt (Nat.div_le_self _ _) hlo
    have hor := or_nat hx1 hx2 hy hlo1
    have hzero : p = 0 → hi' * 2 ^ (64 - p) % 18446744073709551616 = 0 := fun h => by
      subst h
      exact Nat.mul_mod_left _ _
    have hzero2 : L ≤ q + i + 1 → hi' * 2 ^ (64 - p) % 18446744073709551616 = 0 := fun h => by
      rw [htopi h, Nat.zero_mul]
    clear hx1 hx2 hPQ hP hQ htopi
    generalize hi' * 2 ^ (64 - p) % 18446744073709551616 = y at *
    generalize lo / 2 ^ p = x at *
    have hnext : ∀ z : Int, z = ((x + y : Nat) : Int) → ∀ j, j < i + 1 → (o.set i z).getD j 0 = out.getD j 0 := fun z hz j hj => by
      rw [getD_set _ _ _ _ (by omega)]
      by_cases e : j = i
      · rw [if_pos e, e, hoi, hz]
      · rw [if_neg e]; exact hoj j (by omega)
    repeat' first
      | (simp only [e3, e4, w5, w6, w7, g1, g2, hor, hL, Int.toNat_natCast])
      | (with_reducible first | refine PW.seq ?_ | refine PW.block ?_ | refine PW.fork ?_ | refine PW.skip ?_ | refine PW.exit ?_ | refine PW.ret ?_)
      | (with_reducible refine PW.region ttOk ?_ ?_
         · rfl)
      | (with_reducible refine PW.regionD ttOk mixed ?_ ?_ ?_
         · rfl
         · rfl)
      | (with_reducible refine ifW_dec (fun g => ?_) (fun g => ?_) <;> first | (exfalso; omega) | (simp -dsimp only [g, wkI]))
      | (with_reducible refine condE_dec (fun g => ?_) (fun g => ?_) <;> try (exfalso; omega))
      | (with_reducible refine condE_not (fun g => ?_) (fun g => ?_) <;> try (exfalso; omega))
      | (simp -dsimp only [↓wkA, ↓wkE, wkB, ↓tt, Nat.reduceBEq, Nat.reduceEqDiff, ↓reduceIte, Nat.reduceLT, Array.toList, Nat.reduceAdd, Nat.reduceMul, Int.reduceToNat, Int.reducePow, UInt8.reduceToNat])
      | (simp -dsimp (disch := first | assumption | omega) only [dec_t, dec_f])
      | (refine And.intro ?_ ?_
         · first | omega | decide | (simp (disch := omega) only [wkW, Int.reduceToNat, Int.reducePow] <;> omega) | (simp <;> omega))
      | (simp (disch := omega) only [wkW, Int.reduceToNat, Int.reducePow])
      | fail
    all_goals exact Again.mk m (srF a q p N (i + 1) b) ⟨1, [(0, .ints .u64 _)], [], []⟩ (by omega) (Sub.norm ⟨rfl, rfl, rfl, rfl, rfl, rfl, rfl, trivial⟩ ⟨rfl, trivial⟩ (Nat.le_refl _) rfl rfl rfl rfl) ⟨i + 1, _, by omega, by simp [hoL], hnext _ (by omega), rfl, rfl⟩

theorem nat_shr {u n : Nat} (hu : u < NMax) (hn : n ≤ 9223372036854775807) : Meets Tryd.prog 44 [.ints .u64 (natL u), .int .i64 (n : Int)] (.tup [.ints .u64 (natL (u / 2 ^ n)), .bool (decide (u % 2 ^ n ≠ 0)), .int .i64 0]) := by
  have hl := natL_small hu
  by_cases h0 : u = 0
  · subst h0
    rw [Nat.zero_div, Nat.zero_mod, natL_zero]
    have s1 := size_as (a := []) (by decide) rfl
    have b1 := big_as (a := []) (by decide) rfl
    refine Meets.nil_head .u64 ?_
    refine meets_by ttOk Tryd.func44 Tryd.ntmps44 Tryd.results44 (by kernel_rfl) (c := _) rfl rfl rfl fun E => ?_
    simp only [argsFrame]
    have w0 : IntKind.wrap .i64 (64 * 0) = 0 := rfl
    have hd0 : decide ((0 : Nat) ≠ 0) = false := rfl
    rw [hd0]
    repeat' first
      | (simp only [w0])
      | (with_reducible first | refine PW.seq ?_ | refine PW.block ?_ | refine PW.fork ?_ | refine PW.skip ?_ | refine PW.exit ?_ | refine PW.ret ?_)
      | (with_reducible refine PW.region ttOk ?_ ?_
         · rfl)
      | (with_reducible refine PW.regionD ttOk mixed ?_ ?_ ?_
         · rfl
         · rfl)
      | (with_reducible refine ifW_dec (fun g => ?_) (fun g => ?_) <;> first | (exfalso; omega) | (simp -dsimp only [g, wkI]))
      | (with_reducible refine condE_dec (fun g => ?_) (fun g => ?_) <;> try (exfalso; omega))
      | (with_reducible refine condE_not (fun g => ?_) (fun g => ?_) <;> try (exfalso; omega))
      | (simp -dsimp only [↓wkA, ↓wkE, wkB, ↓tt, Nat.reduceBEq, Nat.reduceEqDiff, ↓reduceIte, Nat.reduceLT, Array.toList, Nat.reduceAdd, Nat.reduceMul, Int.reduceToNat, Int.reducePow, UInt8.reduceToNat])
      | (refine call_by (b1) (views_data rfl) ⟨trivial, trivial⟩ rfl ?_)
      | (refine call_by (s1) (views_data rfl) ⟨trivial, trivial⟩ rfl ?_)
      | (simp -dsimp (disch := first | assumption | omega) only [dec_t, dec_f])
      | (refine And.intro ?_ ?_
         · first | omega | decide | (simp (disch := omega) only [wkW, Int.reduceToNat, Int.reducePow] <;> omega) | (simp <;> omega))
      | (simp (disch := omega) only [wkW, Int.reduceToNat, Int.reducePow])
      | fail
  obtain ⟨t, m, hd⟩ := odd_part h0
  have htr := nat_trail hu hd
  have hlost : decide ((t : Int) < (n : Int)) = decide (u % 2 ^ n ≠ 0) := decide_eq_decide.2 (by rw [← lost_iff hd n]; omega)
  obtain ⟨h1, _⟩ := natL_ge h0
  have hlt := natL_lt u
  by_cases hbig : 64 * (natL u).length ≤ n
  · have hz : u / 2 ^ n = 0 := Nat.div_eq_of_lt (Nat.lt_of_lt_of_le hlt (by rw [pow64_two]; exact Nat.pow_le_pow_right (by decide) hbig))
    rw [hz, natL_zero]
    have s1 := size_as hl (size_natL u)
    have b1 := big_as hl (size_natL u)
    have w4 : IntKind.wrap .i64 (64 * ((natL u).length : Int)) = 64 * ((natL u).length : Int) := wrap_i64 (by omega)
    clear hlt hd hz
    obtain ⟨Qd, hQd⟩ : ∃ b, decide (u % 2 ^ n ≠ 0) = b := ⟨_, rfl⟩
    rw [hQd] at hlost ⊢
    generalize natL u = a at *
    refine Meets.nil_head .u64 ?_
    refine meets_by ttOk Tryd.func44 Tryd.ntmps44 Tryd.results44 (by kernel_rfl) (c := _) rfl rfl rfl fun E => ?_
    simp only [argsFrame]
    repeat' first
      | (simp only [w4, hlost])
      | (with_reducible first | refine PW.seq ?_ | refine PW.block ?_ | refine PW.fork ?_ | refine PW.skip ?_ | refine PW.exit ?_ | refine PW.ret ?_)
      | (with_reducible refine PW.region ttOk ?_ ?_
         · rfl)
      | (with_reducible refine PW.regionD ttOk mixed ?_ ?_ ?_
         · rfl
         · rfl)
      | (with_reducible refine ifW_dec (fun g => ?_) (fun g => ?_) <;> first | (exfalso; omega) | (simp -dsimp only [g, wkI]))
      | (with_reducible refine condE_dec (fun g => ?_) (fun g => ?_) <;> try (exfalso; omega))
      | (with_reducible refine condE_not (fun g => ?_) (fun g => ?_) <;> try (exfalso; omega))
      | (simp -dsimp only [↓wkA, ↓wkE, wkB, ↓tt, Nat.reduceBEq, Nat.reduceEqDiff, ↓reduceIte, Nat.reduceLT, Array.toList, Nat.reduceAdd, Nat.reduceMul, Int.reduceToNat, Int.reducePow, UInt8.reduceToNat])
      | (refine call_by (b1) (views_data rfl) ⟨trivial, trivial⟩ rfl ?_)
      | (refine call_by (s1) (views_data rfl) ⟨trivial, trivial⟩ rfl ?_)
      | (refine call_by (htr) (views_data rfl) ⟨trivial, trivial⟩ rfl ?_)
      | (simp -dsimp (disch := first | assumption | omega) only [dec_t, dec_f])
      | (refine And.intro ?_ ?_
         · first | omega | decide | (simp (disch := omega) only [wkW, Int.reduceToNat, Int.reducePow] <;> omega) | (simp <;> omega))
      | (simp (disch := omega) only [wkW, Int.reduceToNat, Int.reducePow])
      | fail
  · have hq : n / 64 < (natL u).length := by omega
    have hv : u / 2 ^ n < 18446744073709551616 ^ ((natL u).length - n / 64) := by
      rw [Nat.div_lt_iff_lt_mul (Nat.pow_pos (by decide)), pow64_two, ← Nat.pow_add]
      rw [pow64_two] at hlt
      exact Nat.lt_of_lt_of_le hlt (Nat.pow_le_pow_right (by decide) (by omega))
    have hvN : u / 2 ^ n < NMax := Nat.lt_of_le_of_lt (Nat.div_le_self _ _) hu
    refine shr_list (natL u) (fun k => u / 18446744073709551616 ^ k % 18446744073709551616) _ n _ _ _ rfl hl (size_natL u) h1 (natL_getD u) (fun k => Nat.mod_lt _ (by decide)) (fun k hk => ?_) hn rfl rfl hq rfl (limbsOf ((natL u).length - n / 64) (u / 2 ^ n)) (limbsOf_length _ _) (fun j hj => ?_) t _ hlost htr _ (cut_as (limbsOf_limbs _ _) (by rw [limbsOf_length]; omega) (limbsOf_val hv) hvN)
    · show u / 18446744073709551616 ^ k % 18446744073709551616 = 0
      rw [Nat.div_eq_of_lt (Nat.lt_of_lt_of_le hlt (Nat.pow_le_pow_right (by decide) hk))]
    · rw [limbsOf_getD hj]
      have := shr_limb u (n / 64) (n % 64) j (Nat.mod_lt _ (by decide))
      rw [show 64 * (n / 64) + n % 64 = n by omega] at this
      rw [this]
end Go.Proofs.YtjhkpjddcaglnaaDoor
set_option maxHeartbeats 4000000
set_option maxRecDepth 4000
set_option linter.unusedVariables false
set_option linter.unusedSimpArgs false
namespace Go.Proofs.YtjhkpjddcaglnaaDoor
open Go Go.PV

/-- The decimal digits, the lowest first, as the reference keeps them. -/
def decI (v : Nat) : List Int := (digs 10 v).map fun d : Nat => (d : Int)
theorem decI_zero : decI 0 = [] := by simp [decI, digs_zero]
theorem decI_step {v : Nat} (h : v ≠ 0) : decI v = ((v % 10 : Nat) : Int) :: decI (v / 10) := by simp [decI, digs_step (b := 10) (by decide) h]
theorem decI_len (v : Nat) : (decI v).length = ndig v := by simp [decI, ndig, text]
theorem decI_getD (v k : Nat) : (decI v).getD k 0 = ((v / 10 ^ k % 10 : Nat) : Int) := by
  have h := digs_getD (b := 10) (by decide) k v
  rw [← h]
  unfold decI
  rw [List.getD_eq_getElem?_getD, List.getElem?_map, List.getD_eq_getElem?_getD]
  cases (digs 10 v)[k]? <;> rfl
theorem ndig_div {v k : Nat} : v / 10 ^ k = 0 ↔ ndig v ≤ k := by
  constructor
  · intro h
    exact ndig_le (Nat.lt_of_div_eq_zero (Nat.pow_pos (by decide)) h)
  · intro h
    exact Nat.div_eq_of_lt (Nat.lt_of_lt_of_le (ndig_lt v) (Nat.pow_le_pow_right (by decide) h))
theorem dec_step {hi m c : Nat} (h : hi ≠ 0) (hm : 1 ≤ m) : decI (hi * m + c) = (((hi % 10 * m + c) % 10 : Nat) : Int) :: decI (hi / 10 * m + (hi % 10 * m + c) / 10) := by
  have e : hi * m + c = (hi % 10 * m + c) + 10 * (hi / 10 * m) := by
    have := Nat.mod_add_div hi 10
    calc hi * m + c = (hi % 10 + 10 * (hi / 10)) * m + c := by rw [this]
      _ = _ := by grind
  have h0 : hi * m ≠ 0 := Nat.mul_ne_zero h (by omega)
  rw [decI_step (by omega), e, Nat.add_mul_mod_self_left, Nat.add_mul_div_left _ _ (by omega), Nat.add_comm (_ / 10)]

theorem ref11_row (n : Nat) (hn : n < 18446744073709551616) : Meets Tryd.prog 66 [.int .u64 (n : Int)] (.ints .u64 (decI n)) := by
  refine meets_by ttOk Tryd.func66 Tryd.ntmps66 Tryd.results66 (by kernel_rfl) (c := _) rfl rfl rfl fun E => ?_
  simp only [argsFrame]
  repeat' first
    | (with_reducible first | refine PW.seq ?_ | refine PW.block ?_ | refine PW.fork ?_ | refine PW.skip ?_ | refine PW.exit ?_ | refine PW.ret ?_)
    | (with_reducible refine PW.region ttOk ?_ ?_
       · rfl)
    | (with_reducible refine PW.regionD ttOk mixed ?_ ?_ ?_
       · rfl
       · rfl)
    | (with_reducible refine ifW_dec (fun g => ?_) (fun g => ?_) <;> first | (exfalso; omega) | (simp -dsimp only [g, wkI]))
    | (with_reducible refine condE_dec (fun g => ?_) (fun g => ?_) <;> try (exfalso; omega))
    | (with_reducible refine condE_not (fun g => ?_) (fun g => ?_) <;> try (exfalso; omega))
    | (simp -dsimp only [↓wkA, ↓wkE, wkB, ↓tt, Nat.reduceBEq, Nat.reduceEqDiff, ↓reduceIte, Nat.reduceLT, Array.toList, Nat.reduceAdd, Nat.reduceMul, Int.reduceToNat, Int.reducePow, UInt8.reduceToNat])
    | (simp -dsimp (disch := first | assumption | omega) only [dec_t, dec_f])
    | (refine And.intro ?_ ?_
       · first | omega | decide | (simp (disch := omega) only [wkW, Int.reduceToNat, Int.reducePow] <;> omega) | (simp <;> omega))
    | (simp (disch := omega) only [wkW, Int.reduceToNat, Int.reducePow])
    | fail
  refine PW.loopA (fun m F H => ∃ done : List Int, done.length + ndig m ≤ 20 ∧ done ++ decI m = decI n ∧ m < 18446744073709551616 ∧ F = [(0, .int .u64 (m : Int)), (3, .sl 0 0 done.length true)] ∧ H = ⟨1, [(0, .ints .u64 done)], [], []⟩) n [(0, .int .u64 (n : Int)), (3, .sl 0 0 ([] : List Int).length true)] ⟨1, [(0, .ints .u64 [])], [], []⟩ (Sub.trans (Sub.nilVar 3 38 .u64 rfl) (Sub.norm ⟨rfl, rfl, trivial⟩ ⟨rfl, trivial⟩ (Nat.le_refl _) rfl rfl rfl rfl)) ⟨[], ?_, rfl, hn, rfl, rfl⟩ ?_
  · have := ndig_le (v := n) (k := 20) (Nat.lt_trans hn (by decide)); simp; omega
  rintro m F H ⟨done, hl, hd, hm, rfl, rfl⟩
  by_cases h0 : m = 0
  · subst h0
    rw [decI_zero, List.append_nil] at hd
    subst hd
    repeat' first
      | (with_reducible first | refine PW.seq ?_ | refine PW.block ?_ | refine PW.fork ?_ | refine PW.skip ?_ | refine PW.exit ?_ | refine PW.ret ?_)
      | (with_reducible refine PW.region ttOk ?_ ?_
         · rfl)
      | (with_reducible refine PW.regionD ttOk mixed ?_ ?_ ?_
         · rfl
         · rfl)
      | (with_reducible refine ifW_dec (fun g => ?_) (fun g => ?_) <;> first | (exfalso; omega) | (simp -dsimp only [g, wkI]))
      | (with_reducible refine condE_dec (fun g => ?_) (fun g => ?_) <;> try (exfalso; omega))
      | (with_reducible refine condE_not (fun g => ?_) (fun g => ?_) <;> try (exfalso; omega))
      | (simp -dsimp only [↓wkA, ↓wkE, wkB, ↓tt, Nat.reduceBEq, Nat.reduceEqDiff, ↓reduceIte, Nat.reduceLT, Array.toList, Nat.reduceAdd, Nat.reduceMul, Int.reduceToNat, Int.reducePow, UInt8.reduceToNat])
      | (simp -dsimp (disch := first | assumption | omega) only [dec_t, dec_f])
      | (refine And.intro ?_ ?_
         · first | omega | decide | (simp (disch := omega) only [wkW, Int.reduceToNat, Int.reducePow] <;> omega) | (simp <;> omega))
      | (simp (disch := omega) only [wkW, Int.reduceToNat, Int.reducePow])
      | fail
    exact Nat.le_refl _
  · rw [decI_step h0] at hd
    have hx1 : (m : Int) % 10 = ((m % 10 : Nat) : Int) := by omega
    have hq1 : (m : Int) / 10 = ((m / 10 : Nat) : Int) := by omega
    have hnd : ndig (m / 10) + 1 = ndig m := by rw [← decI_len, ← decI_len, decI_step h0]; rfl
    have hlt : m / 10 < m := by omega
    have hlt2 : m / 10 < 18446744073709551616 := by omega
    generalize m % 10 = x at *
    generalize m / 10 = q at *
    have hw : IntKind.wrap .u64 (q : Int) = (q : Int) := wrap_u64 (by omega)
    have hl1 : (done ++ [(x : Int)]).length = done.length + 1 := by simp
    repeat' first
      | (simp only [hx1, hq1, hw])
      | (with_reducible first | refine PW.seq ?_ | refine PW.block ?_ | refine PW.fork ?_ | refine PW.skip ?_ | refine PW.exit ?_ | refine PW.ret ?_)
      | (with_reducible refine PW.region ttOk ?_ ?_
         · rfl)
      | (with_reducible refine PW.regionD ttOk mixed ?_ ?_ ?_
         · rfl
         · rfl)
      | (with_reducible refine ifW_dec (fun g => ?_) (fun g => ?_) <;> first | (exfalso; omega) | (simp -dsimp only [g, wkI]))
      | (with_reducible refine condE_dec (fun g => ?_) (fun g => ?_) <;> try (exfalso; omega))
      | (with_reducible refine condE_not (fun g => ?_) (fun g => ?_) <;> try (exfalso; omega))
      | (simp -dsimp only [↓wkA, ↓wkE, wkB, ↓tt, Nat.reduceBEq, Nat.reduceEqDiff, ↓reduceIte, Nat.reduceLT, Array.toList, Nat.reduceAdd, Nat.reduceMul, Int.reduceToNat, Int.reducePow, UInt8.reduceToNat])
      | (simp -dsimp (disch := first | assumption | omega) only [dec_t, dec_f])
      | (refine And.intro ?_ ?_
         · first | omega | decide | (simp (disch := omega) only [wkW, Int.reduceToNat, Int.reducePow] <;> omega) | (simp <;> omega))
      | (simp (disch := omega) only [wkW, Int.reduceToNat, Int.reducePow])
      | fail
    exact Again.mk q [(0, .int .u64 (q : Int)), (3, .sl 0 0 (done ++ [(x : Int)]).length true)] ⟨1, [(0, .ints .u64 (done ++ [(x : Int)]))], [], []⟩ hlt (Sub.norm ⟨rfl, congrArg (fun n => PV.sl 0 0 n true) hl1.symm, trivial⟩ ⟨rfl, trivial⟩ (by simp) rfl rfl rfl rfl) ⟨_, by rw [hl1]; omega, by rw [← hd]; simp, hlt2, rfl, rfl⟩

set_option exponentiation.threshold 300000 in
theorem ref11_times (V m : Nat) (hm : 1 ≤ m ∧ m ≤ 4294967296) (hV : ndig V ≤ 100000) : Meets Tryd.prog 88 [.ints .u64 (decI V), .int .u64 (m : Int)] (.ints .u64 (decI (V * m))) := by
  have hL := decI_len V
  have hg := decI_getD V
  obtain ⟨R, hR⟩ : ∃ R, decI (V * m) = R := ⟨_, rfl⟩
  have hRl : R.length ≤ 100010 := by
    rw [← hR, decI_len]
    refine ndig_le ?_
    have h1 := ndig_lt V
    have h2 : V * m < 10 ^ ndig V * 10 ^ 10 := by
      have : V * m ≤ V * 10 ^ 10 := Nat.mul_le_mul_left V (Nat.le_trans hm.2 (by decide))
      have h3 : V * 10 ^ 10 < 10 ^ ndig V * 10 ^ 10 := Nat.mul_lt_mul_of_pos_right h1 (by decide)
      omega
    rw [← Nat.pow_add] at h2
    exact Nat.lt_of_lt_of_le h2 (Nat.pow_le_pow_right (by decide) (by omega))
  have hdv := @ndig_div V
  rw [hR]
  refine meets_by ttOk Tryd.func88 Tryd.ntmps88 Tryd.results88 (by kernel_rfl) (c := _) rfl rfl rfl fun E => ?_
  simp only [argsFrame]
  generalize hl : decI V = l at *
  generalize ndig V = L at *
  repeat' first
    | (with_reducible first | refine PW.seq ?_ | refine PW.block ?_ | refine PW.fork ?_ | refine PW.skip ?_ | refine PW.exit ?_ | refine PW.ret ?_)
    | (with_reducible refine PW.region ttOk ?_ ?_
       · rfl)
    | (with_reducible refine PW.regionD ttOk mixed ?_ ?_ ?_
       · rfl
       · rfl)
    | (with_reducible refine ifW_dec (fun g => ?_) (fun g => ?_) <;> first | (exfalso; omega) | (simp -dsimp only [g, wkI]))
    | (with_reducible refine condE_dec (fun g => ?_) (fun g => ?_) <;> try (exfalso; omega))
    | (with_reducible refine condE_not (fun g => ?_) (fun g => ?_) <;> try (exfalso; omega))
    | (simp -dsimp only [↓wkA, ↓wkE, wkB, ↓tt, Nat.reduceBEq, Nat.reduceEqDiff, ↓reduceIte, Nat.reduceLT, Array.toList, Nat.reduceAdd, Nat.reduceMul, Int.reduceToNat, Int.reducePow, UInt8.reduceToNat])
    | (simp -dsimp (disch := first | assumption | omega) only [dec_t, dec_f])
    | (refine And.intro ?_ ?_
       · first | omega | decide | (simp (disch := omega) only [wkW, Int.reduceToNat, Int.reducePow] <;> omega) | (simp <;> omega))
    | (simp (disch := omega) only [wkW, Int.reduceToNat, Int.reducePow])
    | fail
  refine PW.meetB (fun F H => ∃ (c : Nat) (done : List Int), done ++ decI c = R ∧ c < 42949672970 ∧ F = [(6, .int .u64 (c : Int)), (5, .sl 0 0 done.length true)] ∧ H = ⟨1, [(0, .ints .u64 done)], [], []⟩) ?_ ?_
  · refine PW.loopA (fun k F H => ∃ (i c : Nat) (done : List Int), i + k = L ∧ done.length = i ∧ done ++ decI (V / 10 ^ i * m + c) = R ∧ c < 4294967297 ∧ F = [(7, .int .i64 (i : Int)), (6, .int .u64 (c : Int)), (5, .sl 0 0 L true), (0, .ints .u64 l), (1, .int .u64 (m : Int))] ∧ H = ⟨1, [(0, .ints .u64 (done ++ List.replicate k 0))], [], []⟩) L [(7, .int .i64 ((0 : Nat) : Int)), (6, .int .u64 ((0 : Nat) : Int)), (5, .sl 0 0 L true), (0, .ints .u64 l), (1, .int .u64 (m : Int))] ⟨1, [(0, .ints .u64 ([] ++ List.replicate L 0))], [], []⟩ (Sub.norm ⟨rfl, rfl, ?_, rfl, rfl, trivial⟩ ⟨?_, trivial⟩ (by simp) rfl rfl rfl rfl) ⟨0, 0, [], by omega, rfl, by rw [List.nil_append, Nat.pow_zero, Nat.div_one, Nat.add_zero]; exact hR, by omega, rfl, rfl⟩ ?_
    · simp -dsimp only [↓wkA, ↓wkE, wkB, ↓tt, Nat.reduceBEq, Nat.reduceEqDiff, ↓reduceIte, Nat.reduceLT, Array.toList, Nat.reduceAdd, Nat.reduceMul, Int.reduceToNat, Int.reducePow, UInt8.reduceToNat, hL]
    · rw [← hL]; rfl
    rintro k F H ⟨i, c, done, hi, hdl, hd, hc, rfl, rfl⟩
    cases k with
    | zero =>
      obtain rfl : i = L := by omega
      rw [(hdv (k := i)).2 (Nat.le_refl _), Nat.zero_mul, Nat.zero_add] at hd
      have e0 : done ++ List.replicate 0 (0 : Int) = done := by simp
      rw [e0]
      repeat' first
        | (simp only [hL])
        | (with_reducible first | refine PW.seq ?_ | refine PW.block ?_ | refine PW.fork ?_ | refine PW.skip ?_ | refine PW.exit ?_ | refine PW.ret ?_)
        | (with_reducible refine PW.region ttOk ?_ ?_
           · rfl)
        | (with_reducible refine PW.regionD ttOk mixed ?_ ?_ ?_
           · rfl
           · rfl)
        | (with_reducible refine ifW_dec (fun g => ?_) (fun g => ?_) <;> first | (exfalso; omega) | (simp -dsimp only [g, wkI]))
        | (with_reducible refine condE_dec (fun g => ?_) (fun g => ?_) <;> try (exfalso; omega))
        | (with_reducible refine condE_not (fun g => ?_) (fun g => ?_) <;> try (exfalso; omega))
        | (simp -dsimp only [↓wkA, ↓wkE, wkB, ↓tt, Nat.reduceBEq, Nat.reduceEqDiff, ↓reduceIte, Nat.reduceLT, Array.toList, Nat.reduceAdd, Nat.reduceMul, Int.reduceToNat, Int.reducePow, UInt8.reduceToNat])
        | (simp -dsimp (disch := first | assumption | omega) only [dec_t, dec_f])
        | (refine And.intro ?_ ?_
           · first | omega | decide | (simp (disch := omega) only [wkW, Int.reduceToNat, Int.reducePow] <;> omega) | (simp <;> omega))
        | (simp (disch := omega) only [wkW, Int.reduceToNat, Int.reducePow])
        | fail
      exact Meet.mk [(6, .int .u64 (c : Int)), (5, .sl 0 0 done.length true)] ⟨1, [(0, .ints .u64 done)], [], []⟩ (Sub.norm ⟨rfl, congrArg (fun n => PV.sl 0 0 n true) hdl.symm, trivial⟩ ⟨rfl, trivial⟩ (Nat.le_refl _) rfl rfl rfl rfl) ⟨c, done, hd, by omega, rfl, rfl⟩
    | succ k =>
      have hne : V / 10 ^ i ≠ 0 := fun h => by have := (hdv (k := i)).1 h; omega
      rw [dec_step hne hm.1, Nat.div_div_eq_div_mul, ← Nat.pow_succ] at hd
      have hgi := hg i
      have hx9 := Nat.mod_lt (V / 10 ^ i) (show 10 > 0 by decide)
      generalize V / 10 ^ i % 10 = x at *
      have hxm : x * m ≤ 9 * 4294967296 := Nat.mul_le_mul (by omega) hm.2
      have ht : ((x : Int) * (m : Int)) = ((x * m : Nat) : Int) := by simp
      obtain ⟨t, htt⟩ : ∃ t, x * m + c = t := ⟨_, rfl⟩
      rw [htt] at hd
      have w1 : IntKind.wrap .u64 ((x * m : Nat) : Int) = ((x * m : Nat) : Int) := wrap_u64 (by omega)
      have w2 : IntKind.wrap .u64 (((x * m : Nat) : Int) + (c : Int)) = (t : Int) := by rw [wrap_u64 (by omega)]; omega
      have ht2 : (t : Int) % 10 = ((t % 10 : Nat) : Int) := by omega
      have ht3 : (t : Int) / 10 = ((t / 10 : Nat) : Int) := by omega
      have w3 : IntKind.wrap .u64 ((t / 10 : Nat) : Int) = ((t / 10 : Nat) : Int) := wrap_u64 (by omega)
      have hset : (done ++ List.replicate (k + 1) (0 : Int)).set i ((t % 10 : Nat) : Int) = (done ++ [((t % 10 : Nat) : Int)]) ++ List.replicate k 0 := by
        rw [List.replicate_succ, ← hdl, List.set_append]; simp
      have hset2 : done ++ ((t % 10 : Nat) : Int) :: List.replicate k 0 = (done ++ [((t % 10 : Nat) : Int)]) ++ List.replicate k 0 := by simp
      have hlen : (done ++ List.replicate (k + 1) (0 : Int)).length = L := by simp; omega
      have hL3 : L ≤ 100010 := by omega
      generalize done ++ List.replicate (k + 1) (0 : Int) = row at *
      repeat' first
        | (simp only [hL, hgi, ht, w1, w2, ht2, ht3, w3, hset, Int.toNat_natCast])
        | (with_reducible first | refine PW.seq ?_ | refine PW.block ?_ | refine PW.fork ?_ | refine PW.skip ?_ | refine PW.exit ?_ | refine PW.ret ?_)
        | (with_reducible refine PW.region ttOk ?_ ?_
           · rfl)
        | (with_reducible refine PW.regionD ttOk mixed ?_ ?_ ?_
           · rfl
           · rfl)
        | (with_reducible refine ifW_dec (fun g => ?_) (fun g => ?_) <;> first | (exfalso; omega) | (simp -dsimp only [g, wkI]))
        | (with_reducible refine condE_dec (fun g => ?_) (fun g => ?_) <;> try (exfalso; omega))
        | (with_reducible refine condE_not (fun g => ?_) (fun g => ?_) <;> try (exfalso; omega))
        | (simp -dsimp only [↓wkA, ↓wkE, wkB, ↓tt, Nat.reduceBEq, Nat.reduceEqDiff, ↓reduceIte, Nat.reduceLT, Array.toList, Nat.reduceAdd, Nat.reduceMul, Int.reduceToNat, Int.reducePow, UInt8.reduceToNat])
        | (simp -dsimp (disch := first | assumption | omega) only [dec_t, dec_f])
        | (refine And.intro ?_ ?_
           · first | omega | decide | (simp (disch := omega) only [wkW, Int.reduceToNat, Int.reducePow] <;> omega) | (simp <;> omega))
        | (simp (disch := omega) only [wkW, Int.reduceToNat, Int.reducePow])
        | fail
      exact Again.mk k [(7, .int .i64 ((i + 1 : Nat) : Int)), (6, .int .u64 ((t / 10 : Nat) : Int)), (5, .sl 0 0 L true), (0, .ints .u64 l), (1, .int .u64 (m : Int))] ⟨1, [(0, .ints .u64 ((done ++ [((t % 10 : Nat) : Int)]) ++ List.replicate k 0))], [], []⟩ (by omega) (Sub.norm ⟨rfl, rfl, rfl, rfl, rfl, trivial⟩ ⟨congrArg (fun l => some (PV.Row.ints .u64 l)) hset2, trivial⟩ (Nat.le_refl _) rfl rfl rfl rfl) ⟨i + 1, _, _, by omega, by simp [hdl], by rw [← hd]; simp, by omega, rfl, rfl⟩
  · rintro F H ⟨c, done, hd, hc, rfl, rfl⟩
    repeat' first
      | (with_reducible first | refine PW.seq ?_ | refine PW.block ?_ | refine PW.fork ?_ | refine PW.skip ?_ | refine PW.exit ?_ | refine PW.ret ?_)
      | (with_reducible refine PW.region ttOk ?_ ?_
         · rfl)
      | (with_reducible refine PW.regionD ttOk mixed ?_ ?_ ?_
         · rfl
         · rfl)
      | (with_reducible refine ifW_dec (fun g => ?_) (fun g => ?_) <;> first | (exfalso; omega) | (simp -dsimp only [g, wkI]))
      | (with_reducible refine condE_dec (fun g => ?_) (fun g => ?_) <;> try (exfalso; omega))
      | (with_reducible refine condE_not (fun g => ?_) (fun g => ?_) <;> try (exfalso; omega))
      | (simp -dsimp only [↓wkA, ↓wkE, wkB, ↓tt, Nat.reduceBEq, Nat.reduceEqDiff, ↓reduceIte, Nat.reduceLT, Array.toList, Nat.reduceAdd, Nat.reduceMul, Int.reduceToNat, Int.reducePow, UInt8.reduceToNat])
      | (simp -dsimp (disch := first | assumption | omega) only [dec_t, dec_f])
      | (refine And.intro ?_ ?_
         · first | omega | decide | (simp (disch := omega) only [wkW, Int.reduceToNat, Int.reducePow] <;> omega) | (simp <;> omega))
      | (simp (disch := omega) only [wkW, Int.reduceToNat, Int.reducePow])
      | fail
    refine PW.loopA (fun c F H => ∃ done : List Int, done ++ decI c = R ∧ c < 42949672970 ∧ F = [(6, .int .u64 (c : Int)), (5, .sl 0 0 done.length true)] ∧ H = ⟨1, [(0, .ints .u64 done)], [], []⟩) c [(6, .int .u64 (c : Int)), (5, .sl 0 0 done.length true)] ⟨1, [(0, .ints .u64 done)], [], []⟩ (Sub.refl _ _ _ _) ⟨done, hd, hc, rfl, rfl⟩ ?_
    clear hd hc
    rintro c F H ⟨done, hd, hc, rfl, rfl⟩
    have hdl : done.length ≤ 100010 := by rw [← hd, List.length_append] at hRl; omega
    by_cases h0 : c = 0
    · subst h0
      rw [decI_zero, List.append_nil] at hd
      subst hd
      repeat' first
        | (with_reducible first | refine PW.seq ?_ | refine PW.block ?_ | refine PW.fork ?_ | refine PW.skip ?_ | refine PW.exit ?_ | refine PW.ret ?_)
        | (with_reducible refine PW.region ttOk ?_ ?_
           · rfl)
        | (with_reducible refine PW.regionD ttOk mixed ?_ ?_ ?_
           · rfl
           · rfl)
        | (with_reducible refine ifW_dec (fun g => ?_) (fun g => ?_) <;> first | (exfalso; omega) | (simp -dsimp only [g, wkI]))
        | (with_reducible refine condE_dec (fun g => ?_) (fun g => ?_) <;> try (exfalso; omega))
        | (with_reducible refine condE_not (fun g => ?_) (fun g => ?_) <;> try (exfalso; omega))
        | (simp -dsimp only [↓wkA, ↓wkE, wkB, ↓tt, Nat.reduceBEq, Nat.reduceEqDiff, ↓reduceIte, Nat.reduceLT, Array.toList, Nat.reduceAdd, Nat.reduceMul, Int.reduceToNat, Int.reducePow, UInt8.reduceToNat])
        | (simp -dsimp (disch := first | assumption | omega) only [dec_t, dec_f])
        | (refine And.intro ?_ ?_
           · first | omega | decide | (simp (disch := omega) only [wkW, Int.reduceToNat, Int.reducePow] <;> omega) | (simp <;> omega))
        | (simp (disch := omega) only [wkW, Int.reduceToNat, Int.reducePow])
        | fail
      exact Nat.le_refl _
    · rw [decI_step h0] at hd
      have hx1 : (c : Int) % 10 = ((c % 10 : Nat) : Int) := by omega
      have hq1 : (c : Int) / 10 = ((c / 10 : Nat) : Int) := by omega
      have hlt : c / 10 < c := by omega
      generalize c % 10 = x at *
      generalize c / 10 = q at *
      have hw : IntKind.wrap .u64 (q : Int) = (q : Int) := wrap_u64 (by omega)
      have hl1 : (done ++ [(x : Int)]).length = done.length + 1 := by simp
      repeat' first
        | (simp only [hx1, hq1, hw])
        | (with_reducible first | refine PW.seq ?_ | refine PW.block ?_ | refine PW.fork ?_ | refine PW.skip ?_ | refine PW.exit ?_ | refine PW.ret ?_)
        | (with_reducible refine PW.region ttOk ?_ ?_
           · rfl)
        | (with_reducible refine PW.regionD ttOk mixed ?_ ?_ ?_
           · rfl
           · rfl)
        | (with_reducible refine ifW_dec (fun g => ?_) (fun g => ?_) <;> first | (exfalso; omega) | (simp -dsimp only [g, wkI]))
        | (with_reducible refine condE_dec (fun g => ?_) (fun g => ?_) <;> try (exfalso; omega))
        | (with_reducible refine condE_not (fun g => ?_) (fun g => ?_) <;> try (exfalso; omega))
        | (simp -dsimp only [↓wkA, ↓wkE, wkB, ↓tt, Nat.reduceBEq, Nat.reduceEqDiff, ↓reduceIte, Nat.reduceLT, Array.toList, Nat.reduceAdd, Nat.reduceMul, Int.reduceToNat, Int.reducePow, UInt8.reduceToNat])
        | (simp -dsimp (disch := first | assumption | omega) only [dec_t, dec_f])
        | (refine And.intro ?_ ?_
           · first | omega | decide | (simp (disch := omega) only [wkW, Int.reduceToNat, Int.reducePow] <;> omega) | (simp <;> omega))
        | (simp (disch := omega) only [wkW, Int.reduceToNat, Int.reducePow])
        | fail
      exact Again.mk q [(6, .int .u64 (q : Int)), (5, .sl 0 0 (done ++ [(x : Int)]).length true)] ⟨1, [(0, .ints .u64 (done ++ [(x : Int)]))], [], []⟩ hlt (Sub.norm ⟨rfl, congrArg (fun n => PV.sl 0 0 n true) hl1.symm, trivial⟩ ⟨rfl, trivial⟩ (by simp) rfl rfl rfl rfl) ⟨_, by rw [← hd]; simp, by omega, rfl, rfl⟩

theorem ref11_raised (V m k : Nat) (hm : 1 ≤ m ∧ m ≤ 5) (hk : k ≤ 2000) (hV : ndig V + k ≤ 50000) : Meets Tryd.prog 67 [.ints .u64 (decI V), .int .u64 (m : Int), .int .i64 (k : Int)] (.ints .u64 (decI (V * m ^ k))) := by
  have hnd : ∀ j, j ≤ k → ndig (V * m ^ j) ≤ 100000 := fun j hj => by
    have h1 : V * m ^ j < 10 ^ (ndig V + j) := by
      rw [Nat.pow_add]
      have h2 : m ^ j ≤ 10 ^ j := Nat.pow_le_pow_left (by omega) j
      have h3 := ndig_lt V
      exact Nat.lt_of_le_of_lt (Nat.mul_le_mul_left V h2) (Nat.mul_lt_mul_of_pos_right h3 (Nat.pow_pos (by decide)))
    have := ndig_le h1
    omega
  refine meets_by ttOk Tryd.func67 Tryd.ntmps67 Tryd.results67 (by kernel_rfl) (c := _) rfl rfl rfl fun E => ?_
  simp only [argsFrame]
  repeat' first
    | (with_reducible first | refine PW.seq ?_ | refine PW.block ?_ | refine PW.fork ?_ | refine PW.skip ?_ | refine PW.exit ?_ | refine PW.ret ?_)
    | (with_reducible refine PW.region ttOk ?_ ?_
       · rfl)
    | (with_reducible refine PW.regionD ttOk mixed ?_ ?_ ?_
       · rfl
       · rfl)
    | (with_reducible refine ifW_dec (fun g => ?_) (fun g => ?_) <;> first | (exfalso; omega) | (simp -dsimp only [g, wkI]))
    | (with_reducible refine condE_dec (fun g => ?_) (fun g => ?_) <;> try (exfalso; omega))
    | (with_reducible refine condE_not (fun g => ?_) (fun g => ?_) <;> try (exfalso; omega))
    | (simp -dsimp only [↓wkA, ↓wkE, wkB, ↓tt, Nat.reduceBEq, Nat.reduceEqDiff, ↓reduceIte, Nat.reduceLT, Array.toList, Nat.reduceAdd, Nat.reduceMul, Int.reduceToNat, Int.reducePow, UInt8.reduceToNat])
    | (simp -dsimp (disch := first | assumption | omega) only [dec_t, dec_f])
    | (refine And.intro ?_ ?_
       · first | omega | decide | (simp (disch := omega) only [wkW, Int.reduceToNat, Int.reducePow] <;> omega) | (simp <;> omega))
    | (simp (disch := omega) only [wkW, Int.reduceToNat, Int.reducePow])
    | fail
  refine PW.loopA (fun r F H => r ≤ k ∧ F = [(2, .int .i64 (r : Int)), (0, .ints .u64 (decI (V * m ^ (k - r)))), (1, .int .u64 (m : Int))] ∧ H = ⟨0, [], [], []⟩) k [(2, .int .i64 (k : Int)), (0, .ints .u64 (decI (V * m ^ (k - k)))), (1, .int .u64 (m : Int))] ⟨0, [], [], []⟩ (Sub.norm ⟨rfl, by rw [Nat.sub_self, Nat.pow_zero, Nat.mul_one]; rfl, rfl, trivial⟩ trivial (Nat.le_refl _) rfl rfl rfl rfl) ⟨Nat.le_refl _, rfl, rfl⟩ ?_
  rintro r F H ⟨hr, rfl, rfl⟩
  by_cases h0 : r = 0
  · subst h0
    rw [Nat.sub_zero]
    repeat' first
      | (with_reducible first | refine PW.seq ?_ | refine PW.block ?_ | refine PW.fork ?_ | refine PW.skip ?_ | refine PW.exit ?_ | refine PW.ret ?_)
      | (with_reducible refine PW.region ttOk ?_ ?_
         · rfl)
      | (with_reducible refine PW.regionD ttOk mixed ?_ ?_ ?_
         · rfl
         · rfl)
      | (with_reducible refine ifW_dec (fun g => ?_) (fun g => ?_) <;> first | (exfalso; omega) | (simp -dsimp only [g, wkI]))
      | (with_reducible refine condE_dec (fun g => ?_) (fun g => ?_) <;> try (exfalso; omega))
      | (with_reducible refine condE_not (fun g => ?_) (fun g => ?_) <;> try (exfalso; omega))
      | (simp -dsimp only [↓wkA, ↓wkE, wkB, ↓tt, Nat.reduceBEq, Nat.reduceEqDiff, ↓reduceIte, Nat.reduceLT, Array.toList, Nat.reduceAdd, Nat.reduceMul, Int.reduceToNat, Int.reducePow, UInt8.reduceToNat])
      | (simp -dsimp (disch := first | assumption | omega) only [dec_t, dec_f])
      | (refine And.intro ?_ ?_
         · first | omega | decide | (simp (disch := omega) only [wkW, Int.reduceToNat, Int.reducePow] <;> omega) | (simp <;> omega))
      | (simp (disch := omega) only [wkW, Int.reduceToNat, Int.reducePow])
      | fail
  have hnd1 := hnd (k - r) (by omega)
  obtain ⟨j, hj⟩ : ∃ j, k - r = j := ⟨_, rfl⟩
  rw [hj] at hnd1 ⊢
  repeat' first
    | (with_reducible first | refine PW.seq ?_ | refine PW.block ?_ | refine PW.fork ?_ | refine PW.skip ?_ | refine PW.exit ?_ | refine PW.ret ?_)
    | (with_reducible refine PW.region ttOk ?_ ?_
       · rfl)
    | (with_reducible refine PW.regionD ttOk mixed ?_ ?_ ?_
       · rfl
       · rfl)
    | (with_reducible refine ifW_dec (fun g => ?_) (fun g => ?_) <;> first | (exfalso; omega) | (simp -dsimp only [g, wkI]))
    | (with_reducible refine condE_dec (fun g => ?_) (fun g => ?_) <;> try (exfalso; omega))
    | (with_reducible refine condE_not (fun g => ?_) (fun g => ?_) <;> try (exfalso; omega))
    | (simp -dsimp only [↓wkA, ↓wkE, wkB, ↓tt, Nat.reduceBEq, Nat.reduceEqDiff, ↓reduceIte, Nat.reduceLT, Array.toList, Nat.reduceAdd, Nat.reduceMul, Int.reduceToNat, Int.reducePow, UInt8.reduceToNat])
    | (simp -dsimp (disch := first | assumption | omega) only [dec_t, dec_f])
    | (refine And.intro ?_ ?_
       · first | omega | decide | (simp (disch := omega) only [wkW, Int.reduceToNat, Int.reducePow] <;> omega) | (simp <;> omega))
    | (simp (disch := omega) only [wkW, Int.reduceToNat, Int.reducePow])
    | fail
  refine PW.meetB (fun F H => ∃ i, 1 ≤ i ∧ i ≤ 13 ∧ i ≤ r ∧ F = [(7, .int .u64 ((m ^ i : Nat) : Int)), (2, .int .i64 ((r - i : Nat) : Int)), (0, .ints .u64 (decI (V * m ^ j))), (1, .int .u64 (m : Int))] ∧ H = ⟨0, [], [], []⟩) ?_ ?_
  · refine PW.loopA (fun n F H => ∃ i, i + n = 13 ∧ i ≤ r ∧ F = [(8, .int .i64 (i : Int)), (7, .int .u64 ((m ^ i : Nat) : Int)), (2, .int .i64 ((r - i : Nat) : Int)), (0, .ints .u64 (decI (V * m ^ j))), (1, .int .u64 (m : Int))] ∧ H = ⟨0, [], [], []⟩) 13 [(8, .int .i64 ((0 : Nat) : Int)), (7, .int .u64 ((m ^ 0 : Nat) : Int)), (2, .int .i64 ((r - 0 : Nat) : Int)), (0, .ints .u64 (decI (V * m ^ j))), (1, .int .u64 (m : Int))] ⟨0, [], [], []⟩ (Sub.norm ⟨rfl, rfl, rfl, rfl, rfl, trivial⟩ trivial (Nat.le_refl _) rfl rfl rfl rfl) ⟨0, rfl, by omega, rfl, rfl⟩ ?_
    rintro n F H ⟨i, hi, hir, rfl, rfl⟩
    have hp5 : m ^ i ≤ 5 ^ i := Nat.pow_le_pow_left hm.2 i
    have hp13 : 5 ^ i ≤ 5 ^ 13 := Nat.pow_le_pow_right (by decide) (by omega)
    have h513 : 5 ^ 13 = 1220703125 := by decide
    generalize decI (V * m ^ j) = l at *
    by_cases hgo : n ≠ 0 ∧ i < r
    · have hmul : ((m ^ i : Nat) : Int) * (m : Int) = ((m ^ (i + 1) : Nat) : Int) := by rw [Nat.pow_succ]; simp
      have hm1 : m ^ (i + 1) ≤ 6103515625 := by
        rw [Nat.pow_succ]
        have := Nat.mul_le_mul (Nat.le_trans hp5 hp13) hm.2
        omega
      have w1 : IntKind.wrap .u64 ((m ^ (i + 1) : Nat) : Int) = ((m ^ (i + 1) : Nat) : Int) := wrap_u64 (by omega)
      have w2 : IntKind.wrap .i64 (((r - i : Nat) : Int) - 1) = ((r - (i + 1) : Nat) : Int) := by rw [wrap_i64 (by omega)]; omega
      clear hp5 hp13 h513
      generalize m ^ i = P at *
      generalize hP2 : m ^ (i + 1) = P2 at *
      obtain ⟨n, rfl⟩ : ∃ n', n = n' + 1 := ⟨n - 1, by omega⟩
      obtain ⟨ri, hri⟩ : ∃ ri, r - i = ri := ⟨_, rfl⟩
      rw [hri] at w2 ⊢
      repeat' first
        | (simp only [hmul, w1, w2])
        | (with_reducible first | refine PW.seq ?_ | refine PW.block ?_ | refine PW.fork ?_ | refine PW.skip ?_ | refine PW.exit ?_ | refine PW.ret ?_)
        | (with_reducible refine PW.region ttOk ?_ ?_
           · rfl)
        | (with_reducible refine PW.regionD ttOk mixed ?_ ?_ ?_
           · rfl
           · rfl)
        | (with_reducible refine ifW_dec (fun g => ?_) (fun g => ?_) <;> first | (exfalso; omega) | (simp -dsimp only [g, wkI]))
        | (with_reducible refine condE_dec (fun g => ?_) (fun g => ?_) <;> try (exfalso; omega))
        | (with_reducible refine condE_not (fun g => ?_) (fun g => ?_) <;> try (exfalso; omega))
        | (simp -dsimp only [↓wkA, ↓wkE, wkB, ↓tt, Nat.reduceBEq, Nat.reduceEqDiff, ↓reduceIte, Nat.reduceLT, Array.toList, Nat.reduceAdd, Nat.reduceMul, Int.reduceToNat, Int.reducePow, UInt8.reduceToNat])
        | (simp -dsimp (disch := first | assumption | omega) only [dec_t, dec_f])
        | (refine And.intro ?_ ?_
           · first | omega | decide | (simp (disch := omega) only [wkW, Int.reduceToNat, Int.reducePow] <;> omega) | (simp <;> omega))
        | (simp (disch := omega) only [wkW, Int.reduceToNat, Int.reducePow])
        | fail
      exact Again.mk n [(8, .int .i64 ((i + 1 : Nat) : Int)), (7, .int .u64 (P2 : Int)), (2, .int .i64 ((r - (i + 1) : Nat) : Int)), (0, .ints .u64 l), (1, .int .u64 (m : Int))] ⟨0, [], [], []⟩ (by omega) (Sub.norm ⟨rfl, rfl, rfl, rfl, rfl, trivial⟩ trivial (Nat.le_refl _) rfl rfl rfl rfl) ⟨i + 1, by omega, by omega, by rw [hP2], rfl⟩
    · generalize hP : m ^ i = P at *
      obtain ⟨ri, hri⟩ : ∃ ri, r - i = ri := ⟨_, rfl⟩
      rw [hri]
      repeat' first
        | (with_reducible first | refine PW.seq ?_ | refine PW.block ?_ | refine PW.fork ?_ | refine PW.skip ?_ | refine PW.exit ?_ | refine PW.ret ?_)
        | (with_reducible refine PW.region ttOk ?_ ?_
           · rfl)
        | (with_reducible refine PW.regionD ttOk mixed ?_ ?_ ?_
           · rfl
           · rfl)
        | (with_reducible refine ifW_dec (fun g => ?_) (fun g => ?_) <;> first | (exfalso; omega) | (simp -dsimp only [g, wkI]))
        | (with_reducible refine condE_dec (fun g => ?_) (fun g => ?_) <;> try (exfalso; omega))
        | (with_reducible refine condE_not (fun g => ?_) (fun g => ?_) <;> try (exfalso; omega))
        | (simp -dsimp only [↓wkA, ↓wkE, wkB, ↓tt, Nat.reduceBEq, Nat.reduceEqDiff, ↓reduceIte, Nat.reduceLT, Array.toList, Nat.reduceAdd, Nat.reduceMul, Int.reduceToNat, Int.reducePow, UInt8.reduceToNat])
        | (simp -dsimp (disch := first | assumption | omega) only [dec_t, dec_f])
        | (refine And.intro ?_ ?_
           · first | omega | decide | (simp (disch := omega) only [wkW, Int.reduceToNat, Int.reducePow] <;> omega) | (simp <;> omega))
        | (simp (disch := omega) only [wkW, Int.reduceToNat, Int.reducePow])
        | fail
      all_goals exact Meet.mk [(7, .int .u64 (P : Int)), (2, .int .i64 (ri : Int)), (0, .ints .u64 l), (1, .int .u64 (m : Int))] ⟨0, [], [], []⟩ (Sub.norm ⟨rfl, rfl, rfl, rfl, trivial⟩ trivial (Nat.le_refl _) rfl rfl rfl rfl) ⟨i, by omega, by omega, by omega, by rw [hP, hri], rfl⟩
  · rintro F H ⟨i, hi1, hi13, hir, rfl, rfl⟩
    have hp5 : m ^ i ≤ 5 ^ i := Nat.pow_le_pow_left hm.2 i
    have hp13 : 5 ^ i ≤ 5 ^ 13 := Nat.pow_le_pow_right (by decide) hi13
    have h513 : 5 ^ 13 = 1220703125 := by decide
    have ht := ref11_times (V * m ^ j) (m ^ i) ⟨Nat.pow_pos hm.1, by omega⟩ hnd1
    rw [Nat.mul_assoc, ← Nat.pow_add] at ht
    clear hnd1 hnd
    have hkj : k - (r - i) = j + i := by omega
    generalize hl : decI (V * m ^ j) = l at *
    generalize hl2 : decI (V * m ^ (j + i)) = l2 at *
    generalize m ^ i = P at *
    repeat' first
      | (with_reducible first | refine PW.seq ?_ | refine PW.block ?_ | refine PW.fork ?_ | refine PW.skip ?_ | refine PW.exit ?_ | refine PW.ret ?_)
      | (with_reducible refine PW.region ttOk ?_ ?_
         · rfl)
      | (with_reducible refine PW.regionD ttOk mixed ?_ ?_ ?_
         · rfl
         · rfl)
      | (with_reducible refine ifW_dec (fun g => ?_) (fun g => ?_) <;> first | (exfalso; omega) | (simp -dsimp only [g, wkI]))
      | (with_reducible refine condE_dec (fun g => ?_) (fun g => ?_) <;> try (exfalso; omega))
      | (with_reducible refine condE_not (fun g => ?_) (fun g => ?_) <;> try (exfalso; omega))
      | (simp -dsimp only [↓wkA, ↓wkE, wkB, ↓tt, Nat.reduceBEq, Nat.reduceEqDiff, ↓reduceIte, Nat.reduceLT, Array.toList, Nat.reduceAdd, Nat.reduceMul, Int.reduceToNat, Int.reducePow, UInt8.reduceToNat])
      | (refine call_by (ht) (views_data rfl) ⟨trivial, trivial, trivial⟩ rfl ?_)
      | (simp -dsimp (disch := first | assumption | omega) only [dec_t, dec_f])
      | (refine And.intro ?_ ?_
         · first | omega | decide | (simp (disch := omega) only [wkW, Int.reduceToNat, Int.reducePow] <;> omega) | (simp <;> omega))
      | (simp (disch := omega) only [wkW, Int.reduceToNat, Int.reducePow])
      | fail
    exact Again.mk (r - i) [(2, .int .i64 ((r - i : Nat) : Int)), (0, .ints .u64 l2), (1, .int .u64 (m : Int))] ⟨0, [], [], []⟩ (by omega) (Sub.norm ⟨rfl, rfl, rfl, trivial⟩ trivial (Nat.le_refl _) rfl rfl rfl rfl) ⟨by omega, by rw [hkj, hl2], rfl⟩

/-- The digits as a text. -/
theorem ref11_text (V : Nat) (hV : ndig V ≤ 1000000) : Meets Tryd.prog 68 [.ints .u64 (decI V)] (.str (text 10 false V)) := by
  have hL := decI_len V
  have hg := decI_getD V
  have htx := text_digL V
  rw [htx]
  clear htx
  refine meets_by ttOk Tryd.func68 Tryd.ntmps68 Tryd.results68 (by kernel_rfl) (c := _) rfl rfl rfl fun E => ?_
  simp only [argsFrame]
  generalize hl : decI V = l at *
  generalize ndig V = L at *
  repeat' first
    | (simp only [hL])
    | (with_reducible first | refine PW.seq ?_ | refine PW.block ?_ | refine PW.fork ?_ | refine PW.skip ?_ | refine PW.exit ?_ | refine PW.ret ?_)
    | (with_reducible refine PW.region ttOk ?_ ?_
       · rfl)
    | (with_reducible refine PW.regionD ttOk mixed ?_ ?_ ?_
       · rfl
       · rfl)
    | (with_reducible refine ifW_dec (fun g => ?_) (fun g => ?_) <;> first | (exfalso; omega) | (simp -dsimp only [g, wkI]))
    | (with_reducible refine condE_dec (fun g => ?_) (fun g => ?_) <;> try (exfalso; omega))
    | (with_reducible refine condE_not (fun g => ?_) (fun g => ?_) <;> try (exfalso; omega))
    | (simp -dsimp only [↓wkA, ↓wkE, wkB, ↓tt, Nat.reduceBEq, Nat.reduceEqDiff, ↓reduceIte, Nat.reduceLT, Array.toList, Nat.reduceAdd, Nat.reduceMul, Int.reduceToNat, Int.reducePow, UInt8.reduceToNat])
    | (simp -dsimp (disch := first | assumption | omega) only [dec_t, dec_f])
    | (refine And.intro ?_ ?_
       · first | omega | decide | (simp (disch := omega) only [wkW, Int.reduceToNat, Int.reducePow] <;> omega) | (simp <;> omega))
    | (simp (disch := omega) only [wkW, Int.reduceToNat, Int.reducePow])
    | fail
  refine PW.loopA (fun n F H => ∃ i, i + n = L ∧ F = [(4, .int .i64 (i : Int)), (3, .sl 0 0 L true), (0, .ints .u64 l)] ∧ H = ⟨1, [(0, .ints .u8 (List.replicate n 0 ++ digL i V))], [], []⟩) L [(4, .int .i64 ((0 : Nat) : Int)), (3, .sl 0 0 L true), (0, .ints .u64 l)] ⟨1, [(0, .ints .u8 (List.replicate L 0 ++ digL 0 V))], [], []⟩ (Sub.norm ⟨rfl, rfl, rfl, trivial⟩ ⟨congrArg (fun l => some (PV.Row.ints .u8 l)) (List.append_nil _).symm, trivial⟩ (by simp) rfl rfl rfl rfl) ⟨0, by omega, rfl, rfl⟩ ?_
  rintro n F H ⟨i, hi, rfl, rfl⟩
  cases n with
  | zero =>
    obtain rfl : i = L := by omega
    have hd := digL_len i V
    have hb := digs_bytes (digL_digs i V)
    have e0 : List.replicate 0 (0 : Int) ++ digL i V = digL i V := by simp
    rw [e0]
    have hby := byteOf_list hb
    generalize digL i V = t at *
    repeat' first
      | (simp only [hL, hd, hby, List.take_of_length_le (Nat.le_of_eq hd)])
      | (with_reducible first | refine PW.seq ?_ | refine PW.block ?_ | refine PW.fork ?_ | refine PW.skip ?_ | refine PW.exit ?_ | refine PW.ret ?_)
      | (with_reducible refine PW.region ttOk ?_ ?_
         · rfl)
      | (with_reducible refine PW.regionD ttOk mixed ?_ ?_ ?_
         · rfl
         · rfl)
      | (with_reducible refine ifW_dec (fun g => ?_) (fun g => ?_) <;> first | (exfalso; omega) | (simp -dsimp only [g, wkI]))
      | (with_reducible refine condE_dec (fun g => ?_) (fun g => ?_) <;> try (exfalso; omega))
      | (with_reducible refine condE_not (fun g => ?_) (fun g => ?_) <;> try (exfalso; omega))
      | (simp -dsimp only [↓wkA, ↓wkE, wkB, ↓tt, Nat.reduceBEq, Nat.reduceEqDiff, ↓reduceIte, Nat.reduceLT, Array.toList, Nat.reduceAdd, Nat.reduceMul, Int.reduceToNat, Int.reducePow, UInt8.reduceToNat])
      | (simp -dsimp (disch := first | assumption | omega) only [dec_t, dec_f])
      | (refine And.intro ?_ ?_
         · first | omega | decide | (simp (disch := omega) only [wkW, Int.reduceToNat, Int.reducePow] <;> omega) | (simp <;> omega))
      | (simp (disch := omega) only [wkW, Int.reduceToNat, Int.reducePow])
      | fail
  | succ n =>
    have hgi := hg i
    have hx9 := Nat.mod_lt (V / 10 ^ i) (show 10 > 0 by decide)
    have hdl : digL (i + 1) V = (48 + ((V / 10 ^ i % 10 : Nat) : Int)) :: digL i V := by
      rw [Nat.add_comm i 1, digL_add]; rfl
    generalize V / 10 ^ i % 10 = x at *
    have w0 : IntKind.wrap .i64 ((L : Int) - 1) = ((L - 1 : Nat) : Int) := by rw [wrap_i64 (by omega)]; omega
    have w1 : IntKind.wrap .i64 (((L - 1 : Nat) : Int) - (i : Int)) = (n : Int) := by rw [wrap_i64 (by omega)]; omega
    have w2 : IntKind.wrap .u64 (48 + (x : Int)) = 48 + (x : Int) := wrap_u64 (by omega)
    have w3 : IntKind.wrap .u8 (48 + (x : Int)) = 48 + (x : Int) := wrap_u8 (by omega)
    have hset : (List.replicate (n + 1) (0 : Int) ++ digL i V).set n (48 + (x : Int)) = List.replicate n 0 ++ digL (i + 1) V := by
      rw [hdl, List.replicate_succ', List.append_assoc, List.set_append]; simp
    have hlen : (List.replicate (n + 1) (0 : Int) ++ digL i V).length = L := by simp [digL_len]; omega
    generalize List.replicate (n + 1) (0 : Int) ++ digL i V = row at *
    repeat' first
      | (simp only [hL, hgi, w0, w1, w2, w3, hset, Int.toNat_natCast])
      | (with_reducible first | refine PW.seq ?_ | refine PW.block ?_ | refine PW.fork ?_ | refine PW.skip ?_ | refine PW.exit ?_ | refine PW.ret ?_)
      | (with_reducible refine PW.region ttOk ?_ ?_
         · rfl)
      | (with_reducible refine PW.regionD ttOk mixed ?_ ?_ ?_
         · rfl
         · rfl)
      | (with_reducible refine ifW_dec (fun g => ?_) (fun g => ?_) <;> first | (exfalso; omega) | (simp -dsimp only [g, wkI]))
      | (with_reducible refine condE_dec (fun g => ?_) (fun g => ?_) <;> try (exfalso; omega))
      | (with_reducible refine condE_not (fun g => ?_) (fun g => ?_) <;> try (exfalso; omega))
      | (simp -dsimp only [↓wkA, ↓wkE, wkB, ↓tt, Nat.reduceBEq, Nat.reduceEqDiff, ↓reduceIte, Nat.reduceLT, Array.toList, Nat.reduceAdd, Nat.reduceMul, Int.reduceToNat, Int.reducePow, UInt8.reduceToNat])
      | (simp -dsimp (disch := first | assumption | omega) only [dec_t, dec_f])
      | (refine And.intro ?_ ?_
         · first | omega | decide | (simp (disch := omega) only [wkW, Int.reduceToNat, Int.reducePow] <;> omega) | (simp <;> omega))
      | (simp (disch := omega) only [wkW, Int.reduceToNat, Int.reducePow])
      | fail
    exact Again.mk n [(4, .int .i64 ((i + 1 : Nat) : Int)), (3, .sl 0 0 L true), (0, .ints .u64 l)] ⟨1, [(0, .ints .u8 (List.replicate n 0 ++ digL (i + 1) V))], [], []⟩ (by omega) (Sub.norm ⟨rfl, rfl, rfl, trivial⟩ ⟨rfl, trivial⟩ (Nat.le_refl _) rfl rfl rfl rfl) ⟨i + 1, by omega, rfl, rfl⟩

end Go.Proofs.YtjhkpjddcaglnaaDoor
set_option maxHeartbeats 4000000
set_option maxRecDepth 4000
set_option linter.unusedVariables false
set_option linter.unusedSimpArgs false
namespace Go.Proofs.YtjhkpjddcaglnaaDoor
open Go Go.PV

theorem ref11_zeros (n : Nat) (hn : n ≤ 1000000) : Meets Tryd.prog 72 [.int .i64 (n : Int)] (.str (List.replicate n 48)) := by
  have hb : (List.replicate n (48 : Int)).map PV.byteOf = List.replicate n 48 := byteOf_list (digs_bytes (digs_zeros n))
  refine meets_by ttOk Tryd.func72 Tryd.ntmps72 Tryd.results72 (by kernel_rfl) (c := _) rfl rfl rfl fun E => ?_
  simp only [argsFrame]
  repeat' first
    | (with_reducible first | refine PW.seq ?_ | refine PW.block ?_ | refine PW.fork ?_ | refine PW.skip ?_ | refine PW.exit ?_ | refine PW.ret ?_)
    | (with_reducible refine PW.region ttOk ?_ ?_
       · rfl)
    | (with_reducible refine PW.regionD ttOk mixed ?_ ?_ ?_
       · rfl
       · rfl)
    | (with_reducible refine ifW_dec (fun g => ?_) (fun g => ?_) <;> first | (exfalso; omega) | (simp -dsimp only [g, wkI]))
    | (with_reducible refine condE_dec (fun g => ?_) (fun g => ?_) <;> try (exfalso; omega))
    | (with_reducible refine condE_not (fun g => ?_) (fun g => ?_) <;> try (exfalso; omega))
    | (simp -dsimp only [↓wkA, ↓wkE, wkB, ↓tt, Nat.reduceBEq, Nat.reduceEqDiff, ↓reduceIte, Nat.reduceLT, Array.toList, Nat.reduceAdd, Nat.reduceMul, Int.reduceToNat, Int.reducePow, UInt8.reduceToNat])
    | (simp -dsimp (disch := first | assumption | omega) only [dec_t, dec_f])
    | (refine And.intro ?_ ?_
       · first | omega | decide | (simp (disch := omega) only [wkW, Int.reduceToNat, Int.reducePow] <;> omega) | (simp <;> omega))
    | (simp (disch := omega) only [wkW, Int.reduceToNat, Int.reducePow])
    | fail
  refine PW.loopA (fun k F H => ∃ i, i + k = n ∧ F = [(4, .int .i64 (i : Int)), (3, .sl 0 0 n true), (0, .int .i64 (n : Int))] ∧ H = ⟨1, [(0, .ints .u8 (List.replicate i 48 ++ List.replicate k 0))], [], []⟩) n [(4, .int .i64 ((0 : Nat) : Int)), (3, .sl 0 0 n true), (0, .int .i64 (n : Int))] ⟨1, [(0, .ints .u8 (List.replicate 0 48 ++ List.replicate n 0))], [], []⟩ (Sub.norm ⟨rfl, rfl, rfl, trivial⟩ ⟨rfl, trivial⟩ (by simp) rfl rfl rfl rfl) ⟨0, by omega, rfl, rfl⟩ ?_
  rintro k F H ⟨i, hi, rfl, rfl⟩
  cases k with
  | zero =>
    obtain rfl : i = n := by omega
    have e0 : List.replicate i (48 : Int) ++ List.replicate 0 0 = List.replicate i 48 := by simp
    rw [e0]
    have hl : (List.replicate i (48 : Int)).length = i := List.length_replicate
    generalize List.replicate i (48 : Int) = row at *
    repeat' first
      | (simp only [hb, List.take_of_length_le (Nat.le_of_eq hl)])
      | (with_reducible first | refine PW.seq ?_ | refine PW.block ?_ | refine PW.fork ?_ | refine PW.skip ?_ | refine PW.exit ?_ | refine PW.ret ?_)
      | (with_reducible refine PW.region ttOk ?_ ?_
         · rfl)
      | (with_reducible refine PW.regionD ttOk mixed ?_ ?_ ?_
         · rfl
         · rfl)
      | (with_reducible refine ifW_dec (fun g => ?_) (fun g => ?_) <;> first | (exfalso; omega) | (simp -dsimp only [g, wkI]))
      | (with_reducible refine condE_dec (fun g => ?_) (fun g => ?_) <;> try (exfalso; omega))
      | (with_reducible refine condE_not (fun g => ?_) (fun g => ?_) <;> try (exfalso; omega))
      | (simp -dsimp only [↓wkA, ↓wkE, wkB, ↓tt, Nat.reduceBEq, Nat.reduceEqDiff, ↓reduceIte, Nat.reduceLT, Array.toList, Nat.reduceAdd, Nat.reduceMul, Int.reduceToNat, Int.reducePow, UInt8.reduceToNat])
      | (simp -dsimp (disch := first | assumption | omega) only [dec_t, dec_f])
      | (refine And.intro ?_ ?_
         · first | omega | decide | (simp (disch := omega) only [wkW, Int.reduceToNat, Int.reducePow] <;> omega) | (simp <;> omega))
      | (simp (disch := omega) only [wkW, Int.reduceToNat, Int.reducePow])
      | fail
    all_goals omega
  | succ k =>
    have hset : (List.replicate i (48 : Int) ++ List.replicate (k + 1) 0).set i 48 = List.replicate (i + 1) 48 ++ List.replicate k 0 := by
      rw [List.set_append, List.length_replicate, if_neg (by omega), Nat.sub_self, List.replicate_succ, List.set_cons_zero, List.replicate_succ']; simp
    have hlen : (List.replicate i (48 : Int) ++ List.replicate (k + 1) 0).length = n := by simp; omega
    generalize List.replicate i (48 : Int) ++ List.replicate (k + 1) 0 = row at *
    repeat' first
      | (simp only [hset, Int.toNat_natCast])
      | (with_reducible first | refine PW.seq ?_ | refine PW.block ?_ | refine PW.fork ?_ | refine PW.skip ?_ | refine PW.exit ?_ | refine PW.ret ?_)
      | (with_reducible refine PW.region ttOk ?_ ?_
         · rfl)
      | (with_reducible refine PW.regionD ttOk mixed ?_ ?_ ?_
         · rfl
         · rfl)
      | (with_reducible refine ifW_dec (fun g => ?_) (fun g => ?_) <;> first | (exfalso; omega) | (simp -dsimp only [g, wkI]))
      | (with_reducible refine condE_dec (fun g => ?_) (fun g => ?_) <;> try (exfalso; omega))
      | (with_reducible refine condE_not (fun g => ?_) (fun g => ?_) <;> try (exfalso; omega))
      | (simp -dsimp only [↓wkA, ↓wkE, wkB, ↓tt, Nat.reduceBEq, Nat.reduceEqDiff, ↓reduceIte, Nat.reduceLT, Array.toList, Nat.reduceAdd, Nat.reduceMul, Int.reduceToNat, Int.reducePow, UInt8.reduceToNat])
      | (simp -dsimp (disch := first | assumption | omega) only [dec_t, dec_f])
      | (refine And.intro ?_ ?_
         · first | omega | decide | (simp (disch := omega) only [wkW, Int.reduceToNat, Int.reducePow] <;> omega) | (simp <;> omega))
      | (simp (disch := omega) only [wkW, Int.reduceToNat, Int.reducePow])
      | fail
    exact Again.mk k [(4, .int .i64 ((i + 1 : Nat) : Int)), (3, .sl 0 0 n true), (0, .int .i64 (n : Int))] ⟨1, [(0, .ints .u8 (List.replicate (i + 1) 48 ++ List.replicate k 0))], [], []⟩ (by omega) (Sub.norm ⟨rfl, rfl, rfl, trivial⟩ ⟨rfl, trivial⟩ (Nat.le_refl _) rfl rfl rfl rfl) ⟨i + 1, by omega, rfl, rfl⟩

theorem law11_zeros (n : Nat) (hn : n ≤ 1000000) : Meets Tryd.prog 28 [.int .i64 (n : Int)] (.str (List.replicate n 48)) := by
  have hb : (List.replicate n (48 : Int)).map PV.byteOf = List.replicate n 48 := byteOf_list (digs_bytes (digs_zeros n))
  refine meets_by ttOk Tryd.func28 Tryd.ntmps28 Tryd.results28 (by kernel_rfl) (c := _) rfl rfl rfl fun E => ?_
  simp only [argsFrame]
  repeat' first
    | (with_reducible first | refine PW.seq ?_ | refine PW.block ?_ | refine PW.fork ?_ | refine PW.skip ?_ | refine PW.exit ?_ | refine PW.ret ?_)
    | (with_reducible refine PW.region ttOk ?_ ?_
       · rfl)
    | (with_reducible refine PW.regionD ttOk mixed ?_ ?_ ?_
       · rfl
       · rfl)
    | (with_reducible refine ifW_dec (fun g => ?_) (fun g => ?_) <;> first | (exfalso; omega) | (simp -dsimp only [g, wkI]))
    | (with_reducible refine condE_dec (fun g => ?_) (fun g => ?_) <;> try (exfalso; omega))
    | (with_reducible refine condE_not (fun g => ?_) (fun g => ?_) <;> try (exfalso; omega))
    | (simp -dsimp only [↓wkA, ↓wkE, wkB, ↓tt, Nat.reduceBEq, Nat.reduceEqDiff, ↓reduceIte, Nat.reduceLT, Array.toList, Nat.reduceAdd, Nat.reduceMul, Int.reduceToNat, Int.reducePow, UInt8.reduceToNat])
    | (simp -dsimp (disch := first | assumption | omega) only [dec_t, dec_f])
    | (refine And.intro ?_ ?_
       · first | omega | decide | (simp (disch := omega) only [wkW, Int.reduceToNat, Int.reducePow] <;> omega) | (simp <;> omega))
    | (simp (disch := omega) only [wkW, Int.reduceToNat, Int.reducePow])
    | fail
  refine PW.loopA (fun k F H => ∃ i, i + k = n ∧ F = [(4, .int .i64 (i : Int)), (3, .sl 0 0 n true), (0, .int .i64 (n : Int))] ∧ H = ⟨1, [(0, .ints .u8 (List.replicate i 48 ++ List.replicate k 0))], [], []⟩) n [(4, .int .i64 ((0 : Nat) : Int)), (3, .sl 0 0 n true), (0, .int .i64 (n : Int))] ⟨1, [(0, .ints .u8 (List.replicate 0 48 ++ List.replicate n 0))], [], []⟩ (Sub.norm ⟨rfl, rfl, rfl, trivial⟩ ⟨rfl, trivial⟩ (by simp) rfl rfl rfl rfl) ⟨0, by omega, rfl, rfl⟩ ?_
  rintro k F H ⟨i, hi, rfl, rfl⟩
  cases k with
  | zero =>
    obtain rfl : i = n := by omega
    have e0 : List.replicate i (48 : Int) ++ List.replicate 0 0 = List.replicate i 48 := by simp
    rw [e0]
    have hl : (List.replicate i (48 : Int)).length = i := List.length_replicate
    generalize List.replicate i (48 : Int) = row at *
    repeat' first
      | (simp only [hb, List.take_of_length_le (Nat.le_of_eq hl)])
      | (with_reducible first | refine PW.seq ?_ | refine PW.block ?_ | refine PW.fork ?_ | refine PW.skip ?_ | refine PW.exit ?_ | refine PW.ret ?_)
      | (with_reducible refine PW.region ttOk ?_ ?_
         · rfl)
      | (with_reducible refine PW.regionD ttOk mixed ?_ ?_ ?_
         · rfl
         · rfl)
      | (with_reducible refine ifW_dec (fun g => ?_) (fun g => ?_) <;> first | (exfalso; omega) | (simp -dsimp only [g, wkI]))
      | (with_reducible refine condE_dec (fun g => ?_) (fun g => ?_) <;> try (exfalso; omega))
      | (with_reducible refine condE_not (fun g => ?_) (fun g => ?_) <;> try (exfalso; omega))
      | (simp -dsimp only [↓wkA, ↓wkE, wkB, ↓tt, Nat.reduceBEq, Nat.reduceEqDiff, ↓reduceIte, Nat.reduceLT, Array.toList, Nat.reduceAdd, Nat.reduceMul, Int.reduceToNat, Int.reducePow, UInt8.reduceToNat])
      | (simp -dsimp (disch := first | assumption | omega) only [dec_t, dec_f])
      | (refine And.intro ?_ ?_
         · first | omega | decide | (simp (disch := omega) only [wkW, Int.reduceToNat, Int.reducePow] <;> omega) | (simp <;> omega))
      | (simp (disch := omega) only [wkW, Int.reduceToNat, Int.reducePow])
      | fail
    all_goals omega
  | succ k =>
    have hset : (List.replicate i (48 : Int) ++ List.replicate (k + 1) 0).set i 48 = List.replicate (i + 1) 48 ++ List.replicate k 0 := by
      rw [List.set_append, List.length_replicate, if_neg (by omega), Nat.sub_self, List.replicate_succ, List.set_cons_zero, List.replicate_succ']; simp
    have hlen : (List.replicate i (48 : Int) ++ List.replicate (k + 1) 0).length = n := by simp; omega
    generalize List.replicate i (48 : Int) ++ List.replicate (k + 1) 0 = row at *
    repeat' first
      | (simp only [hset, Int.toNat_natCast])
      | (with_reducible first | refine PW.seq ?_ | refine PW.block ?_ | refine PW.fork ?_ | refine PW.skip ?_ | refine PW.exit ?_ | refine PW.ret ?_)
      | (with_reducible refine PW.region ttOk ?_ ?_
         · rfl)
      | (with_reducible refine PW.regionD ttOk mixed ?_ ?_ ?_
         · rfl
         · rfl)
      | (with_reducible refine ifW_dec (fun g => ?_) (fun g => ?_) <;> first | (exfalso; omega) | (simp -dsimp only [g, wkI]))
      | (with_reducible refine condE_dec (fun g => ?_) (fun g => ?_) <;> try (exfalso; omega))
      | (with_reducible refine condE_not (fun g => ?_) (fun g => ?_) <;> try (exfalso; omega))
      | (simp -dsimp only [↓wkA, ↓wkE, wkB, ↓tt, Nat.reduceBEq, Nat.reduceEqDiff, ↓reduceIte, Nat.reduceLT, Array.toList, Nat.reduceAdd, Nat.reduceMul, Int.reduceToNat, Int.reducePow, UInt8.reduceToNat])
      | (simp -dsimp (disch := first | assumption | omega) only [dec_t, dec_f])
      | (refine And.intro ?_ ?_
         · first | omega | decide | (simp (disch := omega) only [wkW, Int.reduceToNat, Int.reducePow] <;> omega) | (simp <;> omega))
      | (simp (disch := omega) only [wkW, Int.reduceToNat, Int.reducePow])
      | fail
    exact Again.mk k [(4, .int .i64 ((i + 1 : Nat) : Int)), (3, .sl 0 0 n true), (0, .int .i64 (n : Int))] ⟨1, [(0, .ints .u8 (List.replicate (i + 1) 48 ++ List.replicate k 0))], [], []⟩ (by omega) (Sub.norm ⟨rfl, rfl, rfl, trivial⟩ ⟨rfl, trivial⟩ (Nat.le_refl _) rfl rfl rfl rfl) ⟨i + 1, by omega, rfl, rfl⟩


theorem trim_right_zero (s : List Int) (hsl : s.length ≤ 1000000000000000) : Meets Tryd.prog 47 [.str s, .str [48]] (.str (s.take (endN s 48 s.length))) := by
  have h1 := trim_right s 48 hsl
  refine meets_by ttOk Tryd.func47 Tryd.ntmps47 Tryd.results47 (by kernel_rfl) (c := _) rfl rfl rfl fun E => ?_
  simp only [argsFrame]
  by_cases hs : s = []
  · subst hs
    repeat' first
      | (simp only [eq_self, decide_true])
      | (with_reducible first | refine PW.seq ?_ | refine PW.block ?_ | refine PW.fork ?_ | refine PW.skip ?_ | refine PW.exit ?_ | refine PW.ret ?_)
      | (with_reducible refine PW.region ttOk ?_ ?_
         · rfl)
      | (with_reducible refine PW.regionD ttOk mixed ?_ ?_ ?_
         · rfl
         · rfl)
      | (with_reducible refine ifW_dec (fun g => ?_) (fun g => ?_) <;> first | (exfalso; omega) | (simp -dsimp only [g, wkI]))
      | (with_reducible refine condE_dec (fun g => ?_) (fun g => ?_) <;> try (exfalso; omega))
      | (with_reducible refine condE_not (fun g => ?_) (fun g => ?_) <;> try (exfalso; omega))
      | (simp -dsimp only [↓wkA, ↓wkE, wkB, ↓tt, Nat.reduceBEq, Nat.reduceEqDiff, ↓reduceIte, Nat.reduceLT, Array.toList, Nat.reduceAdd, Nat.reduceMul, Int.reduceToNat, Int.reducePow, UInt8.reduceToNat])
      | (simp -dsimp (disch := first | assumption | omega) only [dec_t, dec_f])
      | (refine And.intro ?_ ?_
         · first | omega | decide | (simp (disch := omega) only [wkW, Int.reduceToNat, Int.reducePow] <;> omega) | (simp <;> omega))
      | (simp (disch := omega) only [wkW, Int.reduceToNat, Int.reducePow])
      | fail
    all_goals rfl
  · have hd : decide (s = []) = false := decide_eq_false hs
    repeat' first
      | (simp only [hd, reduceCtorEq, decide_false])
      | (with_reducible first | refine PW.seq ?_ | refine PW.block ?_ | refine PW.fork ?_ | refine PW.skip ?_ | refine PW.exit ?_ | refine PW.ret ?_)
      | (with_reducible refine PW.region ttOk ?_ ?_
         · rfl)
      | (with_reducible refine PW.regionD ttOk mixed ?_ ?_ ?_
         · rfl
         · rfl)
      | (with_reducible refine ifW_dec (fun g => ?_) (fun g => ?_) <;> first | (exfalso; omega) | (simp -dsimp only [g, wkI]))
      | (with_reducible refine condE_dec (fun g => ?_) (fun g => ?_) <;> try (exfalso; omega))
      | (with_reducible refine condE_not (fun g => ?_) (fun g => ?_) <;> try (exfalso; omega))
      | (simp -dsimp only [↓wkA, ↓wkE, wkB, ↓tt, Nat.reduceBEq, Nat.reduceEqDiff, ↓reduceIte, Nat.reduceLT, Array.toList, Nat.reduceAdd, Nat.reduceMul, Int.reduceToNat, Int.reducePow, UInt8.reduceToNat])
      | (refine call_by (h1) (views_data rfl) ⟨trivial, trivial, trivial⟩ rfl ?_)
      | (refine callD_by (h1) (views_data rfl) ⟨trivial, trivial, trivial⟩ rfl ?_)
      | (simp -dsimp (disch := first | assumption | omega) only [dec_t, dec_f])
      | (refine And.intro ?_ ?_
         · first | omega | decide | (simp (disch := omega) only [wkW, Int.reduceToNat, Int.reducePow] <;> omega) | (simp <;> omega))
      | (simp (disch := omega) only [wkW, Int.reduceToNat, Int.reducePow])
      | fail

set_option exponentiation.threshold 300000 in
theorem digits_nat {v : Nat} (hv : v < NMax) : Meets Tryd.prog 46 [.ints .u64 (natL v)] (.tup [.str (written 10 false v), .int .i64 0]) :=
  digits_of _ _ _ (forth_in (b := 10) (by decide) (by rw [nmax_int]; exact_mod_cast hv))

/-- A number without its zeros at the end, and how many they are. -/
def tz10 (N : Nat) : Nat := ndig N - endN (text 10 false N) 48 (ndig N)
def core10 (N : Nat) : Nat := num 10 ((text 10 false N).take (endN (text 10 false N) 48 (ndig N)))
theorem core_spec {N : Nat} (h : N ≠ 0) : N = core10 N * 10 ^ tz10 N ∧ core10 N % 10 ≠ 0 := by
  have h1 := endN_split (s := text 10 false N) text_digs (by rw [num_text (by decide)]; exact h)
  rw [num_text (by decide)] at h1
  exact ⟨h1.2.1, h1.2.2⟩
theorem core_ne {N : Nat} (h : N ≠ 0) : core10 N ≠ 0 := fun e => (core_spec h).2 (by rw [e])
theorem tz10_le (N : Nat) : tz10 N ≤ ndig N := Nat.sub_le _ _
/-- .. as texts. -/
theorem core_text {N : Nat} (h : N ≠ 0) : (text 10 false N).take (endN (text 10 false N) 48 (text 10 false N).length) = text 10 false (core10 N) ∧ (ndig (core10 N) : Int) = ndig N - tz10 N := by
  have hpos := (endN_split (s := text 10 false N) text_digs (by rw [num_text (by decide)]; exact h)).1
  have hle := endN_le (text 10 false N) 48 (ndig N)
  have hd := digs_take (text_digs (v := N)) (endN (text 10 false N) 48 (ndig N))
  have hl : ((text 10 false N).take (endN (text 10 false N) 48 (ndig N))).length = endN (text 10 false N) 48 (ndig N) := by rw [List.length_take]; exact Nat.min_eq_left hle
  have ht := digs_text hd (fun e => by rw [e] at hl; have : 0 < endN (text 10 false N) 48 (ndig N) := hpos; simp at hl; omega) (by
    have h0 := text_head (b := 10) (by decide) false N h
    rw [getD_take' (show 0 < endN (text 10 false N) 48 (ndig N) from hpos)]
    exact h0)
  refine ⟨ht.1, ?_⟩
  have : ndig (core10 N) = endN (text 10 false N) 48 (ndig N) := by
    rw [ndig, show core10 N = num 10 _ from rfl, ← ht.1, hl]
  rw [this]
  unfold tz10
  omega

theorem dec_of {m N c : Nat} {e : Int} (h0 : N ≠ 0) (h : N * 2 ^ (-e).toNat = m * 2 ^ e.toNat * 10 ^ c) : DecIs m e (core10 N) ((tz10 N : Int) - (c : Int)) := by
  obtain ⟨h1, h2⟩ := core_spec h0
  refine ⟨h2, ?_⟩
  generalize core10 N = D at *
  generalize tz10 N = z at *
  subst h1
  rcases Nat.le_total c z with hc | hc
  · obtain ⟨x, rfl⟩ := Nat.le.dest hc
    rw [show (((c + x : Nat) : Int) - (c : Int)).toNat = x by omega, show (-(((c + x : Nat) : Int) - (c : Int))).toNat = 0 by omega, Nat.pow_zero, Nat.mul_one]
    rw [Nat.pow_add] at h
    refine Nat.eq_of_mul_eq_mul_right (Nat.pow_pos (n := c) (show 0 < 10 by decide)) ?_
    rw [← h]
    grind
  · obtain ⟨x, rfl⟩ := Nat.le.dest hc
    rw [show ((z : Int) - ((z + x : Nat) : Int)).toNat = 0 by omega, show (-((z : Int) - ((z + x : Nat) : Int))).toNat = x by omega, Nat.pow_zero, Nat.mul_one]
    rw [Nat.pow_add] at h
    refine Nat.eq_of_mul_eq_mul_right (Nat.pow_pos (n := z) (show 0 < 10 by decide)) ?_
    have e1 : D * 2 ^ (-e).toNat * 10 ^ z = D * 10 ^ z * 2 ^ (-e).toNat := by grind
    rw [e1, h]
    grind
end Go.Proofs.YtjhkpjddcaglnaaDoor
set_option maxHeartbeats 4000000
set_option maxRecDepth 4000
set_option linter.unusedVariables false
set_option linter.unusedSimpArgs false
namespace Go.Proofs.YtjhkpjddcaglnaaDoor
open Go Go.PV

/-- A double's digits: the whole number that they are cut from, the digits, the power of ten. -/
def allN (d : Nat) : Nat := if 0 ≤ expD d then mantD d * 2 ^ (expD d).toNat else mantD d * 5 ^ (-expD d).toNat
def allD (d : Nat) : Nat := core10 (allN d)
def allX (d : Nat) : Int := min (expD d) 0 + tz10 (allN d)
def decP (d : Nat) : PV := .agg [.bool (negD d), .str (text 10 false (allD d)), .int .i64 (allX d)]
def allP (d : Nat) : PV := if finD d then (if absD d = 0 then .tup [.agg [.bool (negD d), .str [48], .int .i64 0], .int .i64 0] else .tup [decP d, .int .i64 0]) else .tup [.agg [.bool false, .str [], .int .i64 0], .int .i64 5]

theorem allN_ne {d : Nat} (h : absD d ≠ 0) : allN d ≠ 0 := by
  have hm : mantD d ≠ 0 := fun e => h (mantD_zero.1 e)
  unfold allN
  split <;> exact Nat.mul_ne_zero hm (Nat.ne_of_gt (Nat.pow_pos (by decide)))
theorem allN_dec {d : Nat} (h : absD d ≠ 0) : DecIs (mantD d) (expD d) (allD d) (allX d) := by
  by_cases he : 0 ≤ expD d
  · have h1 : allN d = mantD d * 2 ^ (expD d).toNat := if_pos he
    have h2 := dec_of (m := mantD d) (N := allN d) (c := 0) (e := expD d) (allN_ne h) (by rw [h1, show (-expD d).toNat = 0 by omega])
    rw [show allX d = (tz10 (allN d) : Int) - ((0 : Nat) : Int) by unfold allX; omega]
    exact h2
  · have h1 : allN d = mantD d * 5 ^ (-expD d).toNat := if_neg he
    have h2 := dec_of (m := mantD d) (N := allN d) (c := (-expD d).toNat) (e := expD d) (allN_ne h) (by
      rw [h1, show (expD d).toNat = 0 by omega, Nat.pow_zero, Nat.mul_one, Nat.mul_assoc, ← Nat.mul_pow])
    rw [show allX d = (tz10 (allN d) : Int) - (((-expD d).toNat : Nat) : Int) by unfold allX; omega]
    exact h2
theorem pow5_le (k : Nat) : 5 ^ k ≤ 2 ^ (3 * k) := by rw [Nat.pow_mul]; exact Nat.pow_le_pow_left (by decide) k
set_option exponentiation.threshold 300000 in
theorem allN_lt {d : Nat} (h : finD d) : allN d < 2 ^ 3300 := by
  have hm := mantD_lt d
  have h1 := expD_ge d
  have h2 := expD_le h
  have hm2 : mantD d < 2 ^ 53 := by simpa using hm
  unfold allN
  split
  · have h3 : 2 ^ (expD d).toNat ≤ 2 ^ 971 := Nat.pow_le_pow_right (by decide) (by omega)
    have h4 : mantD d * 2 ^ (expD d).toNat ≤ 2 ^ 53 * 2 ^ 971 := Nat.mul_le_mul (Nat.le_of_lt hm2) h3
    rw [← Nat.pow_add] at h4
    exact Nat.lt_of_le_of_lt h4 (Nat.pow_lt_pow_right (by decide) (by decide))
  · have h3 : 2 ^ (3 * (-expD d).toNat) ≤ 2 ^ (3 * 1074) := Nat.pow_le_pow_right (by decide) (by omega)
    have h4 : mantD d * 5 ^ (-expD d).toNat ≤ 2 ^ 53 * 2 ^ (3 * 1074) := Nat.mul_le_mul (Nat.le_of_lt hm2) (Nat.le_trans (pow5_le _) h3)
    rw [← Nat.pow_add] at h4
    exact Nat.lt_of_le_of_lt h4 (Nat.pow_lt_pow_right (by decide) (by decide))
theorem ndig_two {v k : Nat} (h : v < 2 ^ k) : ndig v ≤ k := ndig_le (Nat.lt_of_lt_of_le h (Nat.pow_le_pow_left (by decide) k))
set_option exponentiation.threshold 300000 in
theorem nmax_of {v k : Nat} (h : v < 2 ^ k) (hk : k ≤ 100000) : v < NMax := by
  rw [nmax_two]
  exact Nat.lt_of_lt_of_le h (Nat.pow_le_pow_right (by decide) (by omega))

/-- fixed.All of what is finite and no zero: the code. -/
theorem fixed_all_up (d : Int) (ng : Bool) (c : Int) (m E N D z : Nat) (hc : 1 ≤ c ∧ c ≤ 2) (hE : E ≤ 971) (hm : m < 9007199254740992)
    (hdec : Meets Tryd.prog 41 [.int .u64 d] (.agg [.bool ng, .int .i64 c, .int .u64 (m : Int), .int .i64 (E : Int)]))
    (hfrom : Meets Tryd.prog 42 [.int .u64 (m : Int)] (.ints .u64 (natL m))) (hshl : Meets Tryd.prog 17 [.ints .u64 (natL m), .int .i64 (E : Int)] (.tup [.ints .u64 (natL N), .int .i64 0]))
    (s t : List Int) (hs : Meets Tryd.prog 46 [.ints .u64 (natL N)] (.tup [.str s, .int .i64 0])) (ht : Meets Tryd.prog 47 [.str s, .str [48]] (.str t)) (hsl : s.length ≤ 10000) (htl : t.length ≤ s.length) (hz : (s.length : Int) - (t.length : Int) = (z : Int)) :
    Meets Tryd.prog 20 [.int .u64 d] (.tup [.agg [.bool ng, .str t, .int .i64 (z : Int)], .int .i64 0]) := by
  generalize natL m = a at *
  generalize natL N = b at *
  have w1 : IntKind.wrap .i64 (0 + (s.length : Int)) = (s.length : Int) := by rw [wrap_i64 (by omega)]; omega
  have w2 : IntKind.wrap .i64 ((s.length : Int) - (t.length : Int)) = (z : Int) := by rw [wrap_i64 (by omega)]; exact hz
  refine meets_by ttOk Tryd.func20 Tryd.ntmps20 Tryd.results20 (by kernel_rfl) (c := _) rfl rfl rfl fun E => ?_
  simp only [argsFrame]
  repeat' first
    | (simp only [w1, w2])
    | (with_reducible first | refine PW.seq ?_ | refine PW.block ?_ | refine PW.fork ?_ | refine PW.skip ?_ | refine PW.exit ?_ | refine PW.ret ?_)
    | (with_reducible refine PW.region ttOk ?_ ?_
       · rfl)
    | (with_reducible refine PW.regionD ttOk mixed ?_ ?_ ?_
       · rfl
       · rfl)
    | (with_reducible refine ifW_dec (fun g => ?_) (fun g => ?_) <;> first | (exfalso; omega) | (simp -dsimp only [g, wkI]))
    | (with_reducible refine condE_dec (fun g => ?_) (fun g => ?_) <;> try (exfalso; omega))
    | (with_reducible refine condE_not (fun g => ?_) (fun g => ?_) <;> try (exfalso; omega))
    | (simp -dsimp only [↓wkA, ↓wkE, wkB, ↓tt, Nat.reduceBEq, Nat.reduceEqDiff, ↓reduceIte, Nat.reduceLT, Array.toList, Nat.reduceAdd, Nat.reduceMul, Int.reduceToNat, Int.reducePow, UInt8.reduceToNat])
    | (refine call_by (hdec) (views_data rfl) ⟨trivial, trivial⟩ rfl ?_)
    | (refine call_by (hfrom) (views_data rfl) ⟨trivial, trivial⟩ rfl ?_)
    | (refine call_by (hshl) (views_data rfl) ⟨trivial, trivial, trivial⟩ rfl ?_)
    | (refine call_by (hs) (views_data rfl) ⟨trivial, trivial⟩ rfl ?_)
    | (refine call_by (ht) (views_data rfl) ⟨trivial, trivial, trivial⟩ rfl ?_)
    | (simp -dsimp (disch := first | assumption | omega) only [dec_t, dec_f])
    | (refine And.intro ?_ ?_
       · first | omega | decide | (simp (disch := omega) only [wkW, Int.reduceToNat, Int.reducePow] <;> omega) | (simp <;> omega))
    | (simp (disch := omega) only [wkW, Int.reduceToNat, Int.reducePow])
    | fail

theorem fixed_all_down (d : Int) (ng : Bool) (c e : Int) (m tr k sh m2 N : Nat) (x : Int) (hc : 1 ≤ c ∧ c ≤ 2) (he : -1074 ≤ e ∧ e < 0) (hm : m < 9007199254740992) (htr64 : tr < 64)
    (hk : (if (0 : Int) > -e - (tr : Int) then 0 else -e - (tr : Int)) = (k : Int)) (hsh : -e - (k : Int) = (sh : Int))
    (hdec : Meets Tryd.prog 41 [.int .u64 d] (.agg [.bool ng, .int .i64 c, .int .u64 (m : Int), .int .i64 e]))
    (hfrom : Meets Tryd.prog 42 [.int .u64 (m : Int)] (.ints .u64 (natL m))) (htrail : Meets Tryd.prog 43 [.ints .u64 (natL m)] (.int .i64 (tr : Int))) (lost : Bool)
    (hshr : Meets Tryd.prog 44 [.ints .u64 (natL m), .int .i64 (sh : Int)] (.tup [.ints .u64 (natL m2), .bool lost, .int .i64 0]))
    (five : List Int) (hpow : Meets Tryd.prog 45 [.int .i64 (k : Int)] (.tup [.ints .u64 five, .int .i64 0])) (hmul : Meets Tryd.prog 14 [.ints .u64 (natL m2), .ints .u64 five] (.tup [.ints .u64 (natL N), .int .i64 0]))
    (s t : List Int) (hs : Meets Tryd.prog 46 [.ints .u64 (natL N)] (.tup [.str s, .int .i64 0])) (ht : Meets Tryd.prog 47 [.str s, .str [48]] (.str t)) (hsl : s.length ≤ 10000) (htl : t.length ≤ s.length) (hx : (s.length : Int) - (t.length : Int) - (k : Int) = x) :
    Meets Tryd.prog 20 [.int .u64 d] (.tup [.agg [.bool ng, .str t, .int .i64 x], .int .i64 0]) := by
  generalize natL m = a at *
  generalize natL m2 = a2 at *
  generalize natL N = b at *
  have hk2 : (k : Int) ≤ 1074 := by rw [← hk]; split <;> omega
  have w0 : IntKind.wrap .i64 (-e) = -e := wrap_i64 (by omega)
  have w3 : IntKind.wrap .i64 (-e - (tr : Int)) = -e - (tr : Int) := wrap_i64 (by omega)
  have w4 : IntKind.wrap .i64 (-e - (k : Int)) = (sh : Int) := by rw [wrap_i64 (by omega)]; exact hsh
  have w5 : IntKind.wrap .i64 (-(k : Int)) = -(k : Int) := wrap_i64 (by omega)
  have w1 : IntKind.wrap .i64 (-(k : Int) + (s.length : Int)) = -(k : Int) + (s.length : Int) := wrap_i64 (by omega)
  have w2 : IntKind.wrap .i64 (-(k : Int) + (s.length : Int) - (t.length : Int)) = x := by rw [wrap_i64 (by omega)]; omega
  refine meets_by ttOk Tryd.func20 Tryd.ntmps20 Tryd.results20 (by kernel_rfl) (c := _) rfl rfl rfl fun E => ?_
  simp only [argsFrame]
  repeat' first
    | (simp only [Int.zero_sub, w0, w3, hk, w4, w5, w1, w2])
    | (with_reducible first | refine PW.seq ?_ | refine PW.block ?_ | refine PW.fork ?_ | refine PW.skip ?_ | refine PW.exit ?_ | refine PW.ret ?_)
    | (with_reducible refine PW.region ttOk ?_ ?_
       · rfl)
    | (with_reducible refine PW.regionD ttOk mixed ?_ ?_ ?_
       · rfl
       · rfl)
    | (with_reducible refine ifW_dec (fun g => ?_) (fun g => ?_) <;> first | (exfalso; omega) | (simp -dsimp only [g, wkI]))
    | (with_reducible refine condE_dec (fun g => ?_) (fun g => ?_) <;> try (exfalso; omega))
    | (with_reducible refine condE_not (fun g => ?_) (fun g => ?_) <;> try (exfalso; omega))
    | (simp -dsimp only [↓wkA, ↓wkE, wkB, ↓tt, Nat.reduceBEq, Nat.reduceEqDiff, ↓reduceIte, Nat.reduceLT, Array.toList, Nat.reduceAdd, Nat.reduceMul, Int.reduceToNat, Int.reducePow, UInt8.reduceToNat])
    | (refine call_by (hdec) (views_data rfl) ⟨trivial, trivial⟩ rfl ?_)
    | (refine call_by (hfrom) (views_data rfl) ⟨trivial, trivial⟩ rfl ?_)
    | (refine callD_by (htrail) (views_data rfl) ⟨trivial, trivial⟩ rfl ?_)
    | (refine call_by (hshr) (views_data rfl) ⟨trivial, trivial, trivial⟩ rfl ?_)
    | (refine call_by (hpow) (views_data rfl) ⟨trivial, trivial⟩ rfl ?_)
    | (refine call_by (hmul) (views_data rfl) ⟨trivial, trivial, trivial⟩ rfl ?_)
    | (refine call_by (hs) (views_data rfl) ⟨trivial, trivial⟩ rfl ?_)
    | (refine call_by (ht) (views_data rfl) ⟨trivial, trivial, trivial⟩ rfl ?_)
    | (simp -dsimp (disch := first | assumption | omega) only [dec_t, dec_f])
    | (refine And.intro ?_ ?_
       · first | omega | decide | (simp (disch := omega) only [wkW, Int.reduceToNat, Int.reducePow] <;> omega) | (simp <;> omega))
    | (simp (disch := omega) only [wkW, Int.reduceToNat, Int.reducePow])
    | fail

theorem fixed_all_none (d : Int) (ng : Bool) (c m e : Int) (hdec : Meets Tryd.prog 41 [.int .u64 d] (.agg [.bool ng, .int .i64 c, .int .u64 m, .int .i64 e])) (hc : 0 ≤ c ∧ c ≤ 4 ∧ (3 ≤ c ∨ c = 0)) :
    Meets Tryd.prog 20 [.int .u64 d] (if c = 0 then .tup [.agg [.bool ng, .str [48], .int .i64 0], .int .i64 0] else .tup [.agg [.bool false, .str [], .int .i64 0], .int .i64 5]) := by
  rcases hc with ⟨h1, h2, h3 | rfl⟩
  · rw [if_neg (by omega)]
    refine meets_by ttOk Tryd.func20 Tryd.ntmps20 Tryd.results20 (by kernel_rfl) (c := _) rfl rfl rfl fun E => ?_
    simp only [argsFrame]
    repeat' first
      | (with_reducible first | refine PW.seq ?_ | refine PW.block ?_ | refine PW.fork ?_ | refine PW.skip ?_ | refine PW.exit ?_ | refine PW.ret ?_)
      | (with_reducible refine PW.region ttOk ?_ ?_
         · rfl)
      | (with_reducible refine PW.regionD ttOk mixed ?_ ?_ ?_
         · rfl
         · rfl)
      | (with_reducible refine ifW_dec (fun g => ?_) (fun g => ?_) <;> first | (exfalso; omega) | (simp -dsimp only [g, wkI]))
      | (with_reducible refine condE_dec (fun g => ?_) (fun g => ?_) <;> try (exfalso; omega))
      | (with_reducible refine condE_not (fun g => ?_) (fun g => ?_) <;> try (exfalso; omega))
      | (simp -dsimp only [↓wkA, ↓wkE, wkB, ↓tt, Nat.reduceBEq, Nat.reduceEqDiff, ↓reduceIte, Nat.reduceLT, Array.toList, Nat.reduceAdd, Nat.reduceMul, Int.reduceToNat, Int.reducePow, UInt8.reduceToNat])
      | (refine call_by (hdec) (views_data rfl) ⟨trivial, trivial⟩ rfl ?_)
      | (simp -dsimp (disch := first | assumption | omega) only [dec_t, dec_f])
      | (refine And.intro ?_ ?_
         · first | omega | decide | (simp (disch := omega) only [wkW, Int.reduceToNat, Int.reducePow] <;> omega) | (simp <;> omega))
      | (simp (disch := omega) only [wkW, Int.reduceToNat, Int.reducePow])
      | fail
  · rw [if_pos rfl]
    refine meets_by ttOk Tryd.func20 Tryd.ntmps20 Tryd.results20 (by kernel_rfl) (c := _) rfl rfl rfl fun E => ?_
    simp only [argsFrame]
    repeat' first
      | (with_reducible first | refine PW.seq ?_ | refine PW.block ?_ | refine PW.fork ?_ | refine PW.skip ?_ | refine PW.exit ?_ | refine PW.ret ?_)
      | (with_reducible refine PW.region ttOk ?_ ?_
         · rfl)
      | (with_reducible refine PW.regionD ttOk mixed ?_ ?_ ?_
         · rfl
         · rfl)
      | (with_reducible refine ifW_dec (fun g => ?_) (fun g => ?_) <;> first | (exfalso; omega) | (simp -dsimp only [g, wkI]))
      | (with_reducible refine condE_dec (fun g => ?_) (fun g => ?_) <;> try (exfalso; omega))
      | (with_reducible refine condE_not (fun g => ?_) (fun g => ?_) <;> try (exfalso; omega))
      | (simp -dsimp only [↓wkA, ↓wkE, wkB, ↓tt, Nat.reduceBEq, Nat.reduceEqDiff, ↓reduceIte, Nat.reduceLT, Array.toList, Nat.reduceAdd, Nat.reduceMul, Int.reduceToNat, Int.reducePow, UInt8.reduceToNat])
      | (refine call_by (hdec) (views_data rfl) ⟨trivial, trivial⟩ rfl ?_)
      | (simp -dsimp (disch := first | assumption | omega) only [dec_t, dec_f])
      | (refine And.intro ?_ ?_
         · first | omega | decide | (simp (disch := omega) only [wkW, Int.reduceToNat, Int.reducePow] <;> omega) | (simp <;> omega))
      | (simp (disch := omega) only [wkW, Int.reduceToNat, Int.reducePow])
      | fail
end Go.Proofs.YtjhkpjddcaglnaaDoor
set_option maxHeartbeats 4000000
set_option maxRecDepth 4000
set_option linter.unusedVariables false
set_option linter.unusedSimpArgs false
namespace Go.Proofs.YtjhkpjddcaglnaaDoor
open Go Go.PV

theorem written_pos {v : Nat} (h : v ≠ 0) : written 10 false v = text 10 false v := if_neg h

set_option exponentiation.threshold 300000 in
theorem fixed_all (d : Nat) (hd : d < 18446744073709551616) : Meets Tryd.prog 20 [.int .u64 (d : Int)] (allP d) := by
  have hdec := ieee_decode d hd
  have hcl := classD_le d
  unfold partsP at hdec
  unfold allP
  by_cases hf : finD d
  case neg =>
    have h3 := fixed_all_none _ _ _ _ _ hdec ⟨hcl.1, hcl.2, .inl (by have := (not_congr (fin_class (d := d))).1 hf; omega)⟩
    rw [if_neg (by have := (not_congr (fin_class (d := d))).1 hf; omega)] at h3
    rw [if_neg hf]
    exact h3
  rw [if_pos hf]
  by_cases h0 : absD d = 0
  · have hc0 := class_zero.2 h0
    have h3 := fixed_all_none _ _ _ _ _ hdec ⟨hcl.1, hcl.2, .inr hc0⟩
    rw [if_pos hc0] at h3
    rw [if_pos h0]
    exact h3
  rw [if_neg h0]
  obtain ⟨hM, hE⟩ := parts_fin hf h0
  rw [hM, hE] at hdec
  have hc1 : 1 ≤ classD d ∧ classD d ≤ 2 := by have := fin_class.1 hf; have := mt class_zero.1 h0; omega
  have hm := mantD_lt d
  have hm0 : mantD d ≠ 0 := fun e => h0 (mantD_zero.1 e)
  have hfrom := from_uint (mantD d) (by omega)
  have hmN : mantD d < NMax := nmax_of (k := 53) (by simpa using hm) (by decide)
  have hge := expD_ge d
  have hle := expD_le hf
  unfold decP
  by_cases he : 0 ≤ expD d
  · obtain ⟨E, hE2⟩ := Int.eq_ofNat_of_zero_le he
    have hN : allN d = mantD d * 2 ^ E := by unfold allN; rw [if_pos he, hE2]; rfl
    have hlt := allN_lt hf
    rw [hE2] at hdec
    have hNN := nmax_of hlt (by decide)
    rw [hN] at hNN
    have hshl := shl_nat (u := mantD d) (n := E) hmN (by omega) hNN
    rw [← hN] at hshl hNN
    have hN0 := allN_ne h0
    have hs := digits_nat hNN
    rw [written_pos hN0] at hs
    have hnd : ndig (allN d) ≤ 3300 := ndig_two hlt
    have hnd2 : (text 10 false (allN d)).length = ndig (allN d) := rfl
    obtain ⟨ht1, ht2⟩ := core_text hN0
    have ht := trim_right_zero (text 10 false (allN d)) (by omega)
    rw [ht1] at ht
    have hz := tz10_le (allN d)
    have hnd3 : (text 10 false (core10 (allN d))).length = ndig (core10 (allN d)) := rfl
    have h := fixed_all_up (d : Int) (negD d) (classD d) (mantD d) E (allN d) (allD d) (tz10 (allN d)) hc1 (by omega) hm hdec hfrom hshl _ _ hs ht (by omega) (by omega) (by omega)
    rw [show allX d = (tz10 (allN d) : Int) by unfold allX; omega]
    exact h
  · obtain ⟨t, m', hodd⟩ := odd_part hm0
    have ht64 : t < 64 := by
      refine Nat.lt_of_not_le fun hle => ?_
      have h1 : 2 ^ 64 ≤ 2 ^ t := Nat.pow_le_pow_right (by decide) hle
      have h2 : 2 ^ t ≤ mantD d := by rw [hodd]; exact Nat.le_mul_of_pos_right _ (by omega)
      omega
    have htrail := nat_trail hmN hodd
    obtain ⟨k, hk⟩ : ∃ k : Nat, (if (0 : Int) > -expD d - (t : Int) then 0 else -expD d - (t : Int)) = (k : Int) := by
      split
      · exact ⟨0, rfl⟩
      · exact ⟨(-expD d - (t : Int)).toNat, by omega⟩
    obtain ⟨sh, hsh⟩ : ∃ sh : Nat, -expD d - (k : Int) = (sh : Int) := ⟨(-expD d - (k : Int)).toNat, by rw [← hk]; split <;> omega⟩
    have hsht : sh ≤ t := by split at hk <;> omega
    obtain ⟨r, rfl⟩ := Nat.le.dest hsht
    have hdiv : mantD d / 2 ^ sh = 2 ^ r * (2 * m' + 1) := by
      rw [hodd, Nat.pow_add, Nat.mul_assoc, Nat.mul_div_cancel_left _ (Nat.pow_pos (by decide))]
    have hback : mantD d = 2 ^ sh * (mantD d / 2 ^ sh) := by rw [hdiv, ← Nat.mul_assoc, ← Nat.pow_add]; exact hodd
    have hshr := nat_shr (u := mantD d) (n := sh) hmN (by omega)
    have hm2 : mantD d / 2 ^ sh < 2 ^ 53 := Nat.lt_of_le_of_lt (Nat.div_le_self _ _) (by simpa using hm)
    have hm20 : mantD d / 2 ^ sh ≠ 0 := fun e => hm0 (by rw [hback, e, Nat.mul_zero])
    have hk2 : k ≤ 1074 := by split at hk <;> omega
    have h5 : 5 ^ k ≤ 2 ^ 3222 := Nat.le_trans (pow5_le k) (Nat.pow_le_pow_right (by decide) (by omega))
    have hpow := pow5_ok k (by omega) (nmax_of (k := 3223) (Nat.lt_of_le_of_lt h5 (Nat.pow_lt_pow_right (by decide) (by decide))) (by decide))
    have hNlt : mantD d / 2 ^ sh * 5 ^ k < 2 ^ 3300 := by
      have h6 := Nat.mul_le_mul (Nat.le_of_lt hm2) h5
      rw [← Nat.pow_add] at h6
      exact Nat.lt_of_le_of_lt h6 (Nat.pow_lt_pow_right (by decide) (by decide))
    have hN0 : mantD d / 2 ^ sh * 5 ^ k ≠ 0 := Nat.mul_ne_zero hm20 (Nat.ne_of_gt (Nat.pow_pos (by decide)))
    have hdecN : (mantD d / 2 ^ sh * 5 ^ k) * 2 ^ (-expD d).toNat = mantD d * 2 ^ (expD d).toNat * 10 ^ k := by
      rw [show (expD d).toNat = 0 by omega, show (-expD d).toNat = sh + k by omega, Nat.pow_zero, Nat.mul_one]
      conv => rhs; rw [hback]
      rw [show (10 : Nat) = 2 * 5 from rfl, Nat.mul_pow, Nat.pow_add]
      generalize mantD d / 2 ^ sh = q
      grind
    have hdecI := dec_of hN0 hdecN
    obtain ⟨u1, u2⟩ := decIs_unique hm0 hdecI (allN_dec h0)
    clear hdecI hdecN hback hdiv hodd
    have hmul := mul_nat0 (u := mantD d / 2 ^ sh) (v := 5 ^ k) (nmax_of hm2 (by decide)) (nmax_of (k := 3223) (Nat.lt_of_le_of_lt h5 (Nat.pow_lt_pow_right (by decide) (by decide))) (by decide)) (nmax_of hNlt (by decide))
    generalize mantD d / 2 ^ sh * 5 ^ k = N at *
    have hs := digits_nat (nmax_of hNlt (by decide))
    rw [written_pos hN0] at hs
    have hnd : ndig N ≤ 3300 := ndig_two hNlt
    have hnd2 : (text 10 false N).length = ndig N := rfl
    obtain ⟨ht1, ht2⟩ := core_text hN0
    have ht := trim_right_zero (text 10 false N) (by omega)
    rw [ht1] at ht
    have hz := tz10_le N
    have hnd3 : (text 10 false (core10 N)).length = ndig (core10 N) := rfl
    rw [← u1]
    exact fixed_all_down (d : Int) (negD d) (classD d) (expD d) (mantD d) (sh + r) k sh (mantD d / 2 ^ sh) N (allX d) hc1 ⟨hge, by omega⟩ hm ht64 hk hsh hdec hfrom htrail _ hshr _ hpow hmul _ _ hs ht (by omega) (by omega) (by omega)
end Go.Proofs.YtjhkpjddcaglnaaDoor
set_option linter.unusedVariables false
set_option linter.unusedSimpArgs false
namespace Go.Proofs.YtjhkpjddcaglnaaDoor
open Go Go.PV

section
variable {P : Program} {tt : Tab}
theorem opsE_nil {all : List Oper} {F : PV.Frame} {H H1 : PV.Heap} {K : PV.Frame → PV.Heap → Prop} : opsE P tt all [] F H H1 K = K F H1 := rfl
theorem opsE_cons {all : List Oper} {o : Oper} {rest : List Oper} {F : PV.Frame} {H H1 : PV.Heap} {K : PV.Frame → PV.Heap → Prop} : opsE P tt all (o :: rest) F H H1 K = match o.op with
    | .store t p v => storeW tt t (ev F.get p) (ev F.get v) H fun H' => opsE P tt all rest (F.put o.dst (.tup [])) H H' K
    | _ => wantW all F o (stepD P tt o (ev F.get) H fun q => opsE P tt all rest (F.put o.dst q) H H1 K) (opsE P tt all rest (F.put o.dst (.tup [])) H H1 K) := by
  obtain ⟨d, op, _, _, _, _⟩ := o
  cases op <;> rfl
theorem opsX_nil {all : List Oper} {F : PV.Frame} {H : PV.Heap} {K : PV.Frame → Prop} : opsX P tt all [] F H K = K F := rfl
theorem opsX_cons {all : List Oper} {o : Oper} {rest : List Oper} {F : PV.Frame} {H : PV.Heap} {K : PV.Frame → Prop} : opsX P tt all (o :: rest) F H K = match o.op with
    | .store t p v => opsX P tt all rest (F.put o.dst (.tup [])) H K
    | _ => wantW all F o (stepD P tt o (ev F.get) H fun q => opsX P tt all rest (F.put o.dst q) H K) (opsX P tt all rest (F.put o.dst (.tup [])) H K) := by
  obtain ⟨d, op, _, _, _, _⟩ := o
  cases op <;> rfl
end
end Go.Proofs.YtjhkpjddcaglnaaDoor

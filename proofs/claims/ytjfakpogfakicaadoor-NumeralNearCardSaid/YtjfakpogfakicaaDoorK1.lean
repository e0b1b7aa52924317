import Derived.Test.YtjfakpogfakicaaDoorL5
set_option linter.unusedVariables false
set_option linter.unusedSimpArgs false
namespace Go.Proofs.YtjfakpogfakicaaDoor
open Go Go.PV

/-- A list of limbs without high zeros is the number's own. -/
theorem trim_limbsOf {n v : Nat} (h : v < 18446744073709551616 ^ n) : trim (limbsOf n v) = natL v := by
  rw [trim_eq (limbsOf_limbs n v), limbsOf_val h, Int.toNat_natCast]

theorem trim_natL (v : Nat) : trim (natL v) = natL v := by rw [trim_eq (natL_limbs v), val_natL, Int.toNat_natCast]

theorem size_natL (v : Nat) : size (natL v) = (natL v).length := by
  have := trim_len (natL v)
  rw [trim_natL] at this
  exact this.symm

theorem natL_nrm (v : Nat) : Nrm (natL v) := by
  have := nrm_trim (natL_limbs v)
  rwa [trim_natL] at this

theorem natL_lt (v : Nat) : v < 18446744073709551616 ^ (natL v).length := by
  have h := vt_bound (natL_limbs v) (natL v).length
  have h2 : vt (natL v) (natL v).length = (v : Int) := val_natL v
  rw [h2] at h
  have e : B64 ^ (natL v).length = ((18446744073709551616 ^ (natL v).length : Nat) : Int) := by rw [Int.natCast_pow]; rfl
  rw [e] at h
  omega

theorem natL_ge {v : Nat} (h : v ≠ 0) : 0 < (natL v).length ∧ 18446744073709551616 ^ ((natL v).length - 1) ≤ v := by
  have hpos : 0 < (natL v).length := by
    unfold natL
    rw [digs_step (b := 18446744073709551616) (by decide) h]; simp
  have := natL_nrm v (by omega)
  rw [val_natL] at this
  have e : B64 ^ ((natL v).length - 1) = ((18446744073709551616 ^ ((natL v).length - 1) : Nat) : Int) := by rw [Int.natCast_pow]; rfl
  rw [e] at this
  exact ⟨hpos, by omega⟩

/-- The limit of the naturals. -/
abbrev NMax : Nat := 18446744073709551616 ^ 4096
set_option exponentiation.threshold 300000 in
theorem nmax_int : B64 ^ 4096 = ((NMax : Nat) : Int) := by rw [Int.natCast_pow]; rfl

theorem natL_small {v : Nat} (h : v < NMax) : (natL v).length ≤ 4096 := by
  have := natL_size (v := v) (by rw [nmax_int]; omega)
  rwa [size_natL] at this

theorem pow64_mono {m n : Nat} (h : m ≤ n) : 18446744073709551616 ^ m ≤ 18446744073709551616 ^ n := Nat.pow_le_pow_right (by decide) h

/-- nat.Mul, told by numbers. -/
theorem mul_nat {u v : Nat} (hu : u ≠ 0) (hv : v ≠ 0) (hul : u < NMax) (hvl : v < NMax) (h : u * v < NMax) : Meets Tryd.prog 8 [.ints .u64 (natL u), .ints .u64 (natL v)] (.tup [.ints .u64 (natL (u * v)), .int .i64 0]) := by
  have h1 := natL_small hul
  have h2 := natL_small hvl
  have g1 := natL_ge hu
  have g2 := natL_ge hv
  have hlt : u * v < 18446744073709551616 ^ ((natL u).length + (natL v).length) := by
    rw [Nat.pow_add]
    exact Nat.mul_lt_mul_of_lt_of_le (natL_lt u) (Nat.le_of_lt (natL_lt v)) (Nat.pow_pos (by decide))
  have hsum : (natL u).length + (natL v).length ≤ 4097 := by
    rcases Nat.lt_or_ge 4097 ((natL u).length + (natL v).length) with h3 | h3
    · exfalso
      have h4 : 18446744073709551616 ^ (((natL u).length - 1) + ((natL v).length - 1)) ≤ u * v := by
        rw [Nat.pow_add]; exact Nat.mul_le_mul g1.2 g2.2
      have h5 := pow64_mono (show 4096 ≤ ((natL u).length - 1) + ((natL v).length - 1) by omega)
      unfold NMax at h
      omega
    · exact h3
  have hval : (val (natL u) * val (natL v)).toNat = u * v := by
    rw [val_natL, val_natL]
    have : ((u : Int) * (v : Int)) = ((u * v : Nat) : Int) := by simp
    rw [this, Int.toNat_natCast]
  have hm := nat_mul (natL u) (natL v) (natL_limbs u) (natL_limbs v) (by omega) (by omega) (by rw [size_natL]; exact h1) (by rw [size_natL]; exact h2) (by rw [size_natL]; exact g1.1) (by rw [size_natL]; exact g2.1) (by rw [size_natL, size_natL]; exact hsum) _ rfl
  rw [hval, size_natL, size_natL] at hm
  have htr := trim_limbsOf hlt
  have hsz : size (limbsOf ((natL u).length + (natL v).length) (u * v)) = (natL (u * v)).length := by
    have := trim_len (limbsOf ((natL u).length + (natL v).length) (u * v))
    rw [htr] at this
    exact this.symm
  rw [hsz, if_neg (by have := natL_small h; omega), htr] at hm
  exact hm

theorem mul_long (a0 b0 : List Int) (hla : a0.length ≤ 9223372036854775807) (hlb : b0.length ≤ 9223372036854775807) (hsa : size a0 ≤ 4096) (hsb : size b0 ≤ 4096) (h0a : 0 < size a0) (h0b : 0 < size b0) (hsum : 4097 < size a0 + size b0) : Meets Tryd.prog 8 [.ints .u64 a0, .ints .u64 b0] (.tup [.nil, .int .i64 2]) := by
  refine meets_by ttOk Tryd.func8 Tryd.ntmps8 Tryd.results8 (by kernel_rfl) (c := _) rfl rfl rfl fun E => ?_
  simp only [argsFrame]
  have hsa' := size_le a0
  have hsb' := size_le b0
  have hba : decide (4096 < size a0) = false := by simp; omega
  have hbb : decide (4096 < size b0) = false := by simp; omega
  have hal : (List.take (size a0) a0).length = size a0 := by simp; omega
  have hbl : (List.take (size b0) b0).length = size b0 := by simp; omega
  repeat' first
    | (with_reducible first | refine PW.seq ?_ | refine PW.block ?_ | refine PW.fork ?_ | refine PW.skip ?_ | refine PW.exit ?_ | refine PW.ret ?_)
    | (with_reducible refine PW.region ttOk ?_ ?_
       · rfl)
    | (with_reducible refine PW.regionD ttOk mixed ?_ ?_ ?_
       · rfl
       · rfl)
    | (with_reducible refine ifW_dec (fun g => ?_) (fun g => ?_) <;> first | (exfalso; omega) | (simp -dsimp only [g, wkI]))
    | (with_reducible refine condE_dec (fun g => ?_) (fun g => ?_) <;> try (exfalso; omega))
    | (with_reducible refine condE_not (fun g => ?_) (fun g => ?_) <;> try (exfalso; omega))
    | (simp -dsimp only [↓wkA, wkB, ↓tt, Nat.reduceBEq, Nat.reduceEqDiff, ↓reduceIte, Nat.reduceLT, Array.toList, Nat.reduceAdd, Nat.reduceMul, Int.reduceToNat, Int.reducePow, UInt8.reduceToNat])
    | (refine call_by (nat_big _ (by first | assumption | omega)) (views_data rfl) ⟨trivial, trivial⟩ rfl ?_)
    | (refine callD_by (nat_size _ (by first | assumption | omega)) (views_data rfl) ⟨trivial, trivial⟩ rfl ?_)
    | (simp only [hal, hbl])
    | (simp -dsimp only [hba, hbb])
    | (simp -dsimp (disch := first | assumption | omega) only [dec_t, dec_f])
    | (refine And.intro ?_ ?_
       · first | omega | decide | (simp (disch := omega) only [wkW, Int.reduceToNat, Int.reducePow] <;> omega) | (simp <;> omega))
    | (simp (disch := omega) only [wkW, Int.reduceToNat, Int.reducePow])
    | fail
  exfalso
  simp (disch := omega) only [hal, hbl, wkW, Int.reduceToNat, Int.reducePow] at g
  omega

set_option exponentiation.threshold 300000 in
theorem mul_over {u v : Nat} (hu : u ≠ 0) (hv : v ≠ 0) (hul : u < NMax) (hvl : v < NMax) (h : ¬ u * v < NMax) : Meets Tryd.prog 8 [.ints .u64 (natL u), .ints .u64 (natL v)] (.tup [.nil, .int .i64 2]) := by
  have h1 := natL_small hul
  have h2 := natL_small hvl
  have g1 := natL_ge hu
  have g2 := natL_ge hv
  by_cases hsum : 4097 < (natL u).length + (natL v).length
  · exact mul_long _ _ (by omega) (by omega) (by rw [size_natL]; exact h1) (by rw [size_natL]; exact h2) (by rw [size_natL]; exact g1.1) (by rw [size_natL]; exact g2.1) (by rw [size_natL, size_natL]; exact hsum)
  have hlt : u * v < 18446744073709551616 ^ ((natL u).length + (natL v).length) := by
    rw [Nat.pow_add]
    exact Nat.mul_lt_mul_of_lt_of_le (natL_lt u) (Nat.le_of_lt (natL_lt v)) (Nat.pow_pos (by decide))
  have hval : (val (natL u) * val (natL v)).toNat = u * v := by
    rw [val_natL, val_natL]
    have : ((u : Int) * (v : Int)) = ((u * v : Nat) : Int) := by simp
    rw [this, Int.toNat_natCast]
  have hm := nat_mul (natL u) (natL v) (natL_limbs u) (natL_limbs v) (by omega) (by omega) (by rw [size_natL]; exact h1) (by rw [size_natL]; exact h2) (by rw [size_natL]; exact g1.1) (by rw [size_natL]; exact g2.1) (by rw [size_natL, size_natL]; omega) _ rfl
  rw [hval, size_natL, size_natL] at hm
  have htr := trim_limbsOf hlt
  have hsz : size (limbsOf ((natL u).length + (natL v).length) (u * v)) = (natL (u * v)).length := by
    have := trim_len (limbsOf ((natL u).length + (natL v).length) (u * v))
    rw [htr] at this
    exact this.symm
  have hbig : 4096 < (natL (u * v)).length := by
    rcases Nat.lt_or_ge 4096 (natL (u * v)).length with h3 | h3
    · exact h3
    · exfalso
      have h4 := natL_lt (u * v)
      have h5 := pow64_mono h3
      exact h (Nat.lt_of_lt_of_le h4 h5)
  rw [hsz, if_pos hbig] at hm
  exact hm
end Go.Proofs.YtjfakpogfakicaaDoor


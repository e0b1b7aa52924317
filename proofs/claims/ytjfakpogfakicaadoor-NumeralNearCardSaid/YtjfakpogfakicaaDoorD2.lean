import Derived.Test.YtjfakpogfakicaaDoorD1
set_option linter.unusedVariables false
set_option linter.unusedSimpArgs false
namespace Go.Proofs.YtjfakpogfakicaaDoor
open Go Go.PV

/-- One half of the division: u over y1 * 2^32 + y0, with m behind it; the estimate q, its rest r. -/
structure Half (u y1 y0 m : Int) : Prop where
  hy1 : 2147483648 ≤ y1 ∧ y1 < 4294967296
  hy0 : 0 ≤ y0 ∧ y0 < 4294967296
  hm : 0 ≤ m ∧ m < 4294967296
  hu : 0 ≤ u ∧ u < y1 * 4294967296 + y0

abbrev halfQ (u y1 y0 m : Int) : Int := (u * 4294967296 + m) / (y1 * 4294967296 + y0)

structure Est (u y1 y0 m q r : Int) : Prop where
  he : q * y1 + r = u
  hr : 0 ≤ r
  lo : halfQ u y1 y0 m ≤ q
  hi : q ≤ 4294967297
  q0 : 0 ≤ q

section
variable {u y1 y0 m q r : Int}

theorem half_ring (q y1 y0 : Int) : q * (y1 * 4294967296 + y0) = (q * y1) * 4294967296 + q * y0 := by grind

theorem half_le (h : Half u y1 y0 m) (he : q * y1 + r = u) (hq : q * y0 ≤ r * 4294967296 + m) : q ≤ halfQ u y1 y0 m := by
  have := h.hy1; have := h.hy0
  rw [halfQ, Int.le_ediv_iff_mul_le (by omega), half_ring]
  omega

theorem half_lt (h : Half u y1 y0 m) (he : q * y1 + r = u) (hq : r * 4294967296 + m < q * y0) : halfQ u y1 y0 m < q := by
  have := h.hy1; have := h.hy0
  rw [halfQ, Int.ediv_lt_iff_lt_mul (by omega), half_ring]
  omega

theorem half_top (h : Half u y1 y0 m) : halfQ u y1 y0 m < 4294967296 := by
  have := h.hy1; have := h.hy0; have := h.hm; have := h.hu
  rw [halfQ, Int.ediv_lt_iff_lt_mul (by omega)]
  omega

theorem half_nonneg (h : Half u y1 y0 m) : 0 ≤ halfQ u y1 y0 m := by
  have := h.hy1; have := h.hy0; have := h.hm; have := h.hu
  exact Int.ediv_nonneg (by omega) (by omega)

theorem est_init (h : Half u y1 y0 m) : Est u y1 y0 m (u / y1) (u - u / y1 * y1) ∧ u - u / y1 * y1 < y1 := by
  have h1 := h.hy1; have h2 := h.hy0; have h3 := h.hm; have h4 := h.hu
  have e := Int.emod_add_mul_ediv u y1
  have e1 := Int.emod_nonneg u (show y1 ≠ 0 by omega)
  have e2 := Int.emod_lt_of_pos u (show 0 < y1 by omega)
  have e3 : y1 * (u / y1) = u / y1 * y1 := Int.mul_comm _ _
  refine ⟨⟨by omega, by omega, ?_, ?_, Int.ediv_nonneg (by omega) (by omega)⟩, by omega⟩
  · rw [Int.le_ediv_iff_mul_le (by omega)]
    have h5 := Int.ediv_mul_le (u * 4294967296 + m) (show y1 * 4294967296 + y0 ≠ 0 by omega)
    rw [half_ring] at h5
    have h6 : 0 ≤ halfQ u y1 y0 m * y0 := Int.mul_nonneg (half_nonneg h) h2.1
    simp only [halfQ] at h6 ⊢
    omega
  · have : u / y1 < 4294967298 := by
      rw [Int.ediv_lt_iff_lt_mul (by omega)]
      omega
    omega

/-- The products stay in their bounds. -/
theorem est_prod (h : Half u y1 y0 m) (e : Est u y1 y0 m q r) : 0 ≤ q * y0 ∧ q * y0 ≤ 18446744078004518911 ∧ (q ≤ 4294967296 → q * y0 ≤ 18446744069414584320) ∧ (q < 4294967296 → q * y0 ≤ 18446744065119617025) := by
  have h2 := h.hy0
  refine ⟨Int.mul_nonneg e.q0 h2.1, ?_, fun hq => ?_, fun hq => ?_⟩
  · exact Int.le_trans (Int.mul_le_mul e.hi (show y0 ≤ 4294967295 by omega) h2.1 (by omega)) (by decide)
  · exact Int.le_trans (Int.mul_le_mul hq (show y0 ≤ 4294967295 by omega) h2.1 (by omega)) (by decide)
  · exact Int.le_trans (Int.mul_le_mul (show q ≤ 4294967295 by omega) (show y0 ≤ 4294967295 by omega) h2.1 (by omega)) (by decide)

theorem est_dec (h : Half u y1 y0 m) (e : Est u y1 y0 m q r) (hc : 4294967296 ≤ q ∨ r * 4294967296 + m < q * y0) : Est u y1 y0 m (q - 1) (r + y1) ∧ 1 ≤ q := by
  have h1 := h.hy1
  have hlt : halfQ u y1 y0 m < q := by
    rcases hc with hc | hc
    · have := half_top h; omega
    · exact half_lt h e.he hc
  have := half_nonneg h
  have e1 := e.he; have e2 := e.hr; have e3 := e.hi
  exact ⟨⟨by rw [Int.sub_mul]; omega, by omega, by omega, by omega, by omega⟩, by omega⟩

theorem est_stop (h : Half u y1 y0 m) (e : Est u y1 y0 m q r) (hc : q * y0 ≤ r * 4294967296 + m) : q = halfQ u y1 y0 m := by
  have := half_le h e.he hc
  have := e.lo
  omega

theorem est_over (h : Half u y1 y0 m) (e : Est u y1 y0 m q r) (hq : q ≤ 4294967296) (hr : 4294967296 ≤ r) : q = halfQ u y1 y0 m := by
  refine est_stop h e ?_
  have := (est_prod h e).2.2.1 hq
  have := h.hm
  omega
end

theorem or_low (x z : Int) (s : Nat) (hx : 0 ≤ x) (hz : 0 ≤ z ∧ z < 2 ^ s) (hs : x * 2 ^ s + z ≤ 18446744073709551615) : ibits .or .u64 (x * 2 ^ s) z = x * 2 ^ s + z := by
  obtain ⟨a, rfl⟩ := Int.eq_ofNat_of_zero_le hx
  obtain ⟨c, rfl⟩ := Int.eq_ofNat_of_zero_le hz.1
  have e1 : ((a : Int) * 2 ^ s) = ((a * 2 ^ s : Nat) : Int) := by simp
  have hc : c < 2 ^ s := by
    have : (c : Int) < ((2 ^ s : Nat) : Int) := by simpa using hz.2
    omega
  rw [e1] at hs ⊢
  change IntKind.wrap .u64 (((BitVec.ofInt 64 ((a * 2 ^ s : Nat) : Int) ||| BitVec.ofInt 64 (c : Int)).toNat : Nat) : Int) = _
  rw [BitVec.toNat_or, BitVec.toNat_ofInt, BitVec.toNat_ofInt]
  have e2 : ((((a * 2 ^ s : Nat) : Int)) % ((2 ^ 64 : Nat) : Int)).toNat = a * 2 ^ s := by rw [Int.emod_eq_of_lt (by omega) (by simp only [Nat.reducePow]; omega), Int.toNat_natCast]
  have e3 : ((c : Int) % ((2 ^ 64 : Nat) : Int)).toNat = c := by rw [Int.emod_eq_of_lt (by omega) (by simp only [Nat.reducePow]; omega), Int.toNat_natCast]
  rw [e2, e3]
  have e4 : a * 2 ^ s ||| c = a * 2 ^ s + c := by
    rw [← Nat.shiftLeft_eq, ← Nat.shiftLeft_add_eq_or_of_lt hc]
  rw [e4, wrap_u64 (by omega)]
  simp

theorem and32' {a : Int} (ha : 0 ≤ a ∧ a ≤ 18446744073709551615) : ibits .and .u64 a 4294967295 = a % 4294967296 := and32 ha
end Go.Proofs.YtjfakpogfakicaaDoor


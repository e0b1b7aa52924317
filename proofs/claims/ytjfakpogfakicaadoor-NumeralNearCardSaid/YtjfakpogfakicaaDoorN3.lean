import Derived.Test.YtjfakpogfakicaaDoorN2
set_option linter.unusedVariables false
set_option linter.unusedSimpArgs false
namespace Go.Proofs.YtjfakpogfakicaaDoor
open Go Go.PV

theorem and32 {a : Int} (ha : 0 ≤ a ∧ a ≤ 18446744073709551615) : ibits .and .u64 a 4294967295 = a % 4294967296 := by
  rw [ibits_and_u64 ha (by omega)]
  have h := and_mask (a := a.toNat) 32
  simp only [Nat.reducePow, Nat.reduceSub] at h
  rw [show (4294967295 : Int).toNat = 4294967295 from rfl, h]
  omega

theorem fdiv32 (a : Int) : a.fdiv (2 ^ min 32 64) = a / 4294967296 := by
  have : (2 : Int) ^ min 32 64 = 4294967296 := by decide
  rw [this]; exact fdiv_pos (by decide)

theorem mul64 (x y : Int) (hx : 0 ≤ x ∧ x < B64) (hy : 0 ≤ y ∧ y < B64) : Meets Tryd.prog 18 [.int .u64 x, .int .u64 y] (.tup [.int .u64 (x * y / B64), .int .u64 (x * y % B64)]) := by
  refine meets_by ttOk Tryd.func18 Tryd.ntmps18 Tryd.results18 (by kernel_rfl) (c := _) rfl rfl rfl fun E => ?_
  simp only [argsFrame]
  repeat' first
    | (with_reducible first | refine PW.seq ?_ | refine PW.block ?_ | refine PW.fork ?_ | refine PW.skip ?_ | refine PW.exit ?_ | refine PW.ret ?_)
    | (with_reducible refine PW.region ttOk ?_ ?_
       · rfl)
    | (with_reducible refine PW.regionD ttOk mixed ?_ ?_ ?_
       · rfl
       · rfl)
    | (with_reducible refine ifW_dec (fun g => ?_) (fun g => ?_) <;> first | (exfalso; omega) | (simp -dsimp only [g, wkI]))
    | (with_reducible refine condE_dec (fun g => ?_) (fun g => ?_) <;> try (exfalso; omega))
    | (with_reducible refine condE_not (fun g => ?_) (fun g => ?_) <;> try (exfalso; omega))
    | (simp -dsimp only [↓wkA, wkB, ↓tt, Nat.reduceBEq, Nat.reduceEqDiff, ↓reduceIte, Nat.reduceLT, Array.toList, Nat.reduceAdd, Nat.reduceMul, Int.reduceToNat, Int.reducePow, UInt8.reduceToNat])
    | (simp -dsimp (disch := first | assumption | omega) only [dec_t, dec_f])
    | (refine And.intro ?_ ?_
       · first | omega | decide | (simp (disch := omega) only [wkW, Int.reduceToNat, Int.reducePow] <;> omega) | (simp <;> omega))
    | (simp (disch := omega) only [wkW, Int.reduceToNat, Int.reducePow])
    | fail
  have hx0 : 0 ≤ x % 4294967296 ∧ x % 4294967296 ≤ 4294967295 := by omega
  have hx1 : 0 ≤ x / 4294967296 ∧ x / 4294967296 ≤ 4294967295 := by simp only [B64] at hx; omega
  have hy0 : 0 ≤ y % 4294967296 ∧ y % 4294967296 ≤ 4294967295 := by omega
  have hy1 : 0 ≤ y / 4294967296 ∧ y / 4294967296 ≤ 4294967295 := by simp only [B64] at hy; omega
  have ex : x = 4294967296 * (x / 4294967296) + x % 4294967296 := by omega
  have ey : y = 4294967296 * (y / 4294967296) + y % 4294967296 := by omega
  simp only [fdiv32, and32 (a := x) (by simp only [B64] at hx; omega), and32 (a := y) (by simp only [B64] at hy; omega)]
  generalize x % 4294967296 = x0 at *
  generalize x / 4294967296 = x1 at *
  generalize y % 4294967296 = y0 at *
  generalize y / 4294967296 = y1 at *
  have hm : x * y = 18446744073709551616 * (x1 * y1) + 4294967296 * (x1 * y0) + 4294967296 * (x0 * y1) + x0 * y0 := by
    rw [ex, ey]; grind
  have bd : ∀ u v : Int, 0 ≤ u ∧ u ≤ 4294967295 → 0 ≤ v ∧ v ≤ 4294967295 → 0 ≤ u * v ∧ u * v ≤ 18446744065119617025 := fun u v hu hv =>
    ⟨Int.mul_nonneg hu.1 hv.1, Int.le_trans (Int.mul_le_mul hu.2 hv.2 hv.1 (by omega)) (by decide)⟩
  have b00 := bd x0 y0 hx0 hy0
  have b10 := bd x1 y0 hx1 hy0
  have b01 := bd x0 y1 hx0 hy1
  have b11 := bd x1 y1 hx1 hy1
  rw [wrap_u64' (x * y), hm]
  generalize x0 * y0 = p00 at *
  generalize x1 * y0 = p10 at *
  generalize x0 * y1 = p01 at *
  generalize x1 * y1 = p11 at *
  have w00 : IntKind.wrap .u64 p00 = p00 := wrap_u64 (by omega)
  have w10 : IntKind.wrap .u64 p10 = p10 := wrap_u64 (by omega)
  have w01 : IntKind.wrap .u64 p01 = p01 := wrap_u64 (by omega)
  have w11 : IntKind.wrap .u64 p11 = p11 := wrap_u64 (by omega)
  have wt : IntKind.wrap .u64 (p10 + p00 / 4294967296) = p10 + p00 / 4294967296 := wrap_u64 (by omega)
  rw [w00, w10, w01, w11, wt, and32 (by omega)]
  have ww : IntKind.wrap .u64 ((p10 + p00 / 4294967296) % 4294967296 + p01) = (p10 + p00 / 4294967296) % 4294967296 + p01 := wrap_u64 (by omega)
  rw [ww, wrap_u64 (n := p11 + (p10 + p00 / 4294967296) / 4294967296) (by omega)]
  rw [wrap_u64 (by omega)]
  have e1 : (18446744073709551616 * p11 + 4294967296 * p10 + 4294967296 * p01 + p00) / B64 = p11 + (p10 + p00 / 4294967296) / 4294967296 + ((p10 + p00 / 4294967296) % 4294967296 + p01) / 4294967296 := by simp only [B64]; omega
  rw [e1]
end Go.Proofs.YtjfakpogfakicaaDoor


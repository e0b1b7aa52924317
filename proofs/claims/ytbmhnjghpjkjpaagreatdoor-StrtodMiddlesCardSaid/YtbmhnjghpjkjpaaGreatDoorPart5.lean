/- Contracts and laws that the row leans on, part 5: texts that were built one by one, laid together. -/
import Derived.Test.YtbmhnjghpjkjpaaGreatDoorPart4
import Derived.Shelf.RegionOpenPlain
import Derived.Lib.Strings
import Derived.Lib.Slices
import Derived.Lib.Walk
import Derived.Lib.Builder
import Derived.Lib.UnsafeStr
import Derived.WalkKit
import Derived.Laws.Externs
set_option maxHeartbeats 4000000
set_option maxRecDepth 4000
set_option exponentiation.threshold 300000
set_option linter.unusedVariables false
set_option linter.unusedSimpArgs false
namespace Go.Proofs.YtbmhnjghpjkjpaaGreatDoor
open Go Go.PV
abbrev fA (Y y1 y0 u m1 m0 s q r : Int) : PV.Frame := [(15, .int .u64 q), (16, .int .u64 r), (2, .int .u64 Y), (9, .int .u64 y1), (10, .int .u64 y0), (11, .int .u64 u), (13, .int .u64 m1), (14, .int .u64 m0), (8, .int .u64 s)]
abbrev fA' (Y y1 y0 u m1 m0 s : Int) : PV.Frame := [(15, .int .u64 (halfQ u y1 y0 m1)), (2, .int .u64 Y), (9, .int .u64 y1), (10, .int .u64 y0), (11, .int .u64 u), (13, .int .u64 m1), (14, .int .u64 m0), (8, .int .u64 s)]
abbrev fB (Y y1 y0 q1 u m0 s q r : Int) : PV.Frame := [(18, .int .u64 q), (16, .int .u64 r), (2, .int .u64 Y), (9, .int .u64 y1), (10, .int .u64 y0), (17, .int .u64 u), (15, .int .u64 q1), (14, .int .u64 m0), (8, .int .u64 s)]
abbrev fB' (Y y1 y0 q1 u m0 s : Int) : PV.Frame := [(18, .int .u64 (halfQ u y1 y0 m0)), (2, .int .u64 Y), (17, .int .u64 u), (15, .int .u64 q1), (14, .int .u64 m0), (8, .int .u64 s)]
def DivA (Y y1 y0 u m1 m0 s : Int) (n : Nat) (F : PV.Frame) (H : PV.Heap) : Prop :=
  ∃ q r, Est u y1 y0 m1 q r ∧ r < 4294967296 ∧ q.toNat = n ∧ F = [(15, .int .u64 q), (16, .int .u64 r), (2, .int .u64 Y), (9, .int .u64 y1), (10, .int .u64 y0), (11, .int .u64 u), (13, .int .u64 m1), (14, .int .u64 m0), (8, .int .u64 s)] ∧ H = ⟨0, [], [], []⟩
def DivA' (Y y1 y0 u m1 m0 s : Int) (F : PV.Frame) (H : PV.Heap) : Prop :=
  F = [(15, .int .u64 (halfQ u y1 y0 m1)), (2, .int .u64 Y), (9, .int .u64 y1), (10, .int .u64 y0), (11, .int .u64 u), (13, .int .u64 m1), (14, .int .u64 m0), (8, .int .u64 s)] ∧ H = ⟨0, [], [], []⟩
def DivB (Y y1 y0 q1 u m0 s : Int) (n : Nat) (F : PV.Frame) (H : PV.Heap) : Prop :=
  ∃ q r, Est u y1 y0 m0 q r ∧ r < 4294967296 ∧ q.toNat = n ∧ F = [(18, .int .u64 q), (16, .int .u64 r), (2, .int .u64 Y), (9, .int .u64 y1), (10, .int .u64 y0), (17, .int .u64 u), (15, .int .u64 q1), (14, .int .u64 m0), (8, .int .u64 s)] ∧ H = ⟨0, [], [], []⟩
def DivB' (Y y1 y0 q1 u m0 s : Int) (F : PV.Frame) (H : PV.Heap) : Prop :=
  F = [(18, .int .u64 (halfQ u y1 y0 m0)), (2, .int .u64 Y), (17, .int .u64 u), (15, .int .u64 q1), (14, .int .u64 m0), (8, .int .u64 s)] ∧ H = ⟨0, [], [], []⟩
set_option maxHeartbeats 2000000 in
theorem div64 (hi lo y : Int) (hy : 0 < y ∧ y < B64) (hh : 0 ≤ hi ∧ hi < y) (hl : 0 ≤ lo ∧ lo < B64) : Meets Tryz.prog 163 [.int .u64 hi, .int .u64 lo, .int .u64 y] (.tup [.int .u64 ((hi * B64 + lo) / y), .int .u64 ((hi * B64 + lo) % y)]) := by
  obtain ⟨s, hs, hn1, hn2, hm⟩ := leading y hy
  simp only [B64] at *
  have hs1 : ((s : Int)).toNat = s := Int.toNat_natCast s
  have hs2 : min s 64 = s := by omega
  have hs3 : (64 - (s : Int)).toNat = 64 - s := by omega
  have hs4 : min (64 - s) 64 = 64 - s := by omega
  have hBC : (2 : Int) ^ (64 - s) * 2 ^ s = 18446744073709551616 := by
    rw [← Int.pow_add, show 64 - s + s = 64 by omega]; rfl
  have hor := or_low hi
  obtain ⟨B, hB'⟩ : ∃ B, (2 : Int) ^ s = B := ⟨_, rfl⟩
  obtain ⟨C, hC⟩ : ∃ C, (2 : Int) ^ (64 - s) = C := ⟨_, rfl⟩
  have hB0 : 0 < B := by rw [← hB']; exact Int.pow_pos (by decide)
  have hC0 : 0 < C := by rw [← hC]; exact Int.pow_pos (by decide)
  have hor := fun z => hor z s hh.1
  rw [hB'] at hn1 hn2 hBC
  simp only [hB'] at hor
  rw [hC] at hBC
  have hd1 : 0 ≤ lo / C := Int.ediv_nonneg hl.1 (by omega)
  have hd2 : lo / C < B := by
    rw [Int.ediv_lt_iff_lt_mul hC0, Int.mul_comm]; omega
  have hhB : 0 ≤ hi * B := Int.mul_nonneg hh.1 (by omega)
  have hhB2 : (hi + 1) * B ≤ y * B := Int.mul_le_mul_of_nonneg_right (by omega) (by omega)
  have hhB3 : (hi + 1) * B = hi * B + B := by grind
  have hfd : lo.fdiv C = lo / C := fdiv_pos (by omega)
  have hwB : IntKind.wrap .u64 (hi * B) = hi * B := wrap_u64 (by omega)
  have hwY : IntKind.wrap .u64 (y * B) = y * B := wrap_u64 (by omega)
  have hoU := hor (lo / C) ⟨hd1, hd2⟩ (by omega)
  have hL : IntKind.wrap .u64 (lo * B) = lo % C * B := by
    rw [wrap_u64']
    have e1 := Int.emod_add_mul_ediv lo C
    have e2 : lo * B = lo % C * B + 18446744073709551616 * (lo / C) := by
      have e3 : lo * B = (lo % C + C * (lo / C)) * B := by rw [e1]
      rw [e3, ← hBC]; grind
    have e4 := Int.emod_nonneg lo (show C ≠ 0 by omega)
    have e5 := Int.emod_lt_of_pos lo hC0
    have e6 : 0 ≤ lo % C * B := Int.mul_nonneg e4 (by omega)
    have e7 : (lo % C + 1) * B ≤ C * B := Int.mul_le_mul_of_nonneg_right (by omega) (by omega)
    have e8 : (lo % C + 1) * B = lo % C * B + B := by grind
    rw [e2]; omega
  have hL0 : 0 ≤ lo % C * B ∧ lo % C * B < 18446744073709551616 := by rw [← hL, wrap_u64']; omega
  have hN : (hi * 18446744073709551616 + lo) * B = (hi * B + lo / C) * 18446744073709551616 + lo % C * B := by
    have e1 := Int.emod_add_mul_ediv lo C
    have e3 : lo * B = (lo % C + C * (lo / C)) * B := by rw [e1]
    have e4 : (hi * 18446744073709551616 + lo) * B = hi * B * 18446744073709551616 + lo * B := by grind
    rw [e4, e3, ← hBC]; grind
  have hU0 : 0 ≤ hi * B + lo / C ∧ hi * B + lo / C < y * B := by omega
  obtain ⟨U, hU⟩ : ∃ U, hi * B + lo / C = U := ⟨_, rfl⟩
  obtain ⟨L, hLL⟩ : ∃ L, lo % C * B = L := ⟨_, rfl⟩
  obtain ⟨Y, hY⟩ : ∃ Y, y * B = Y := ⟨_, rfl⟩
  rw [hU] at hoU hN hU0
  rw [hLL] at hL hL0 hN
  rw [hY] at hn1 hn2 hwY hU0
  obtain ⟨y1, hy1⟩ : ∃ v, Y / 4294967296 = v := ⟨_, rfl⟩
  obtain ⟨y0, hy0⟩ : ∃ v, Y % 4294967296 = v := ⟨_, rfl⟩
  obtain ⟨m1, hm1⟩ : ∃ v, L / 4294967296 = v := ⟨_, rfl⟩
  obtain ⟨m0, hm0⟩ : ∃ v, L % 4294967296 = v := ⟨_, rfl⟩
  have hYe : Y = y1 * 4294967296 + y0 := by omega
  have hA : Half U y1 y0 m1 := ⟨by omega, by omega, by omega, by omega⟩
  obtain ⟨hi1, hi2⟩ := est_init hA
  have hwq : IntKind.wrap .u64 (U.tdiv y1) = U / y1 := by
    have := hi1.hi; have := hi1.q0
    rw [tdiv_pos hU0.1]; exact wrap_u64 (by omega)
  have hwp : IntKind.wrap .u64 (U / y1 * y1) = U / y1 * y1 := by
    have := hi1.he; have := hi1.hr
    have h1 : 0 ≤ U / y1 * y1 := Int.mul_nonneg hi1.q0 (by omega)
    exact wrap_u64 (by omega)
  have hwr : IntKind.wrap .u64 (U - U / y1 * y1) = U - U / y1 * y1 := by
    have := hi1.hr
    exact wrap_u64 (by omega)
  have hay : ibits .and .u64 Y 4294967295 = y0 := by rw [and32' (by omega), hy0]
  have haL : ibits .and .u64 L 4294967295 = m0 := by rw [and32' (by omega), hm0]
  refine meets_by ttOk Tryz.func163 Tryz.ntmps163 Tryz.results163 (by kernel_rfl) (c := _) rfl rfl rfl fun E => ?_
  simp only [argsFrame]
  repeat' first
    | (simp only [hs1, hs2, hs3, hs4, hB', hC, hwB, hfd, hoU, hL, hY, hwY, hay, haL, hy1, hm1, hwq, hwp, hwr]) | (simp (disch := omega) only [hs1, hs2, hs3, hs4, wkW, Int.reduceToNat, Int.reducePow])
    | (with_reducible first | refine PW.seq ?_ | refine PW.block ?_ | refine PW.fork ?_ | refine PW.skip ?_ | refine PW.exit ?_ | refine PW.ret ?_ | refine PW.scope ?_ | refine PW.label ?_ | refine PW.goto ?_)
    | (with_reducible refine PW.region ttOk ?_ ?_
       · rfl)
    | (with_reducible refine PW.regionD ttOk mixed ?_ ?_ ?_
       · rfl
       · rfl) | (with_reducible refine ifW_dec (fun g => ?_) (fun g => ?_) <;> first | (exfalso; omega) | (simp -dsimp only [g, wkI])) | (with_reducible refine condE_dec (fun g => ?_) (fun g => ?_) <;> try (exfalso; omega)) | (with_reducible refine condE_not (fun g => ?_) (fun g => ?_) <;> try (exfalso; omega)) | (simp -dsimp only [↓wkA, ↓wkE, ↓wkJ, wkB, ↓tt, Nat.reduceBEq, Nat.reduceEqDiff, ↓reduceIte, Nat.reduceLT, Array.toList, Nat.reduceAdd, Nat.reduceMul, Int.reduceToNat, Int.reducePow, UInt8.reduceToNat]) | (refine call_by hm (views_data rfl) ⟨trivial, trivial⟩ rfl ?_) | (simp -dsimp (disch := first | assumption | omega) only [dec_t, dec_f])
    | (refine And.intro ?_ ?_
       · first | omega | decide | (simp (disch := omega) only [wkW, Int.reduceToNat, Int.reducePow] <;> omega) | (simp <;> omega)) | (simp (disch := omega) only [wkW, Int.reduceToNat, Int.reducePow]) | fail
  · subst g
    have h1 : 0 ≤ lo / y := Int.ediv_nonneg hl.1 (by omega)
    have h2 : lo / y ≤ lo := Int.ediv_le_self _ hl.1
    simp (disch := omega) only [wkW, Int.reduceToNat, Int.reducePow, Int.zero_mul, Int.zero_add]
  refine PW.meetB (DivA' Y y1 y0 U m1 m0 s) ?_ ?_
  · refine PW.loopA (DivA Y y1 y0 U m1 m0 s) (U / y1).toNat [(15, .int .u64 (U / y1)), (16, .int .u64 (U - U / y1 * y1)), (2, .int .u64 Y), (9, .int .u64 y1), (10, .int .u64 y0), (11, .int .u64 U), (13, .int .u64 m1), (14, .int .u64 m0), (8, .int .u64 s)] ⟨0, [], [], []⟩ (Sub.norm ⟨rfl, rfl, rfl, rfl, rfl, rfl, rfl, rfl, rfl, trivial⟩ trivial (by simp) rfl rfl rfl rfl) ⟨_, _, hi1, by omega, rfl, rfl, rfl⟩ ?_
    rintro n F H ⟨q, r, hq, hr, hn, rfl, rfl⟩
    have hq1 := hq.q0; have hq2 := hq.hi; have hq3 := hq.hr
    have hp := est_prod hA hq
    have hz : q ≤ 0 → q * y0 ≤ 0 := fun h => by have : q = 0 := by omega
                                                subst this; simp
    repeat' first
      | (simp (disch := omega) only [wkW, Int.reduceToNat, Int.reducePow])
      | (with_reducible first | refine PW.seq ?_ | refine PW.block ?_ | refine PW.fork ?_ | refine PW.skip ?_ | refine PW.exit ?_ | refine PW.ret ?_ | refine PW.scope ?_ | refine PW.label ?_ | refine PW.goto ?_)
      | (with_reducible refine PW.region ttOk ?_ ?_
         · rfl)
      | (with_reducible refine PW.regionD ttOk mixed ?_ ?_ ?_
         · rfl
         · rfl) | (with_reducible refine ifW_dec (fun g => ?_) (fun g => ?_) <;> first | (exfalso; omega) | (simp -dsimp only [g, wkI])) | (with_reducible refine condE_dec (fun g => ?_) (fun g => ?_) <;> try (exfalso; omega)) | (with_reducible refine condE_not (fun g => ?_) (fun g => ?_) <;> try (exfalso; omega)) | (simp -dsimp only [↓wkA, ↓wkE, ↓wkJ, wkB, ↓tt, Nat.reduceBEq, Nat.reduceEqDiff, ↓reduceIte, Nat.reduceLT, Array.toList, Nat.reduceAdd, Nat.reduceMul, Int.reduceToNat, Int.reducePow, UInt8.reduceToNat]) | (simp -dsimp (disch := first | assumption | omega) only [dec_t, dec_f])
      | (refine And.intro ?_ ?_
         · first | omega | decide | (simp (disch := omega) only [wkW, Int.reduceToNat, Int.reducePow] <;> omega) | (simp <;> omega)) | (simp (disch := omega) only [wkW, Int.reduceToNat, Int.reducePow]) | fail
    · obtain ⟨h1, h2⟩ := est_dec hA hq (.inl (by omega))
      have h3 := est_over hA h1 (by omega) (by omega)
      exact Meet.mk (fA' Y y1 y0 U m1 m0 s) ⟨0, [], [], []⟩ (Sub.norm ⟨congrArg (PV.int .u64) h3, rfl, rfl, rfl, rfl, rfl, rfl, rfl, trivial⟩ trivial (by simp) rfl rfl rfl rfl) ⟨rfl, rfl⟩
    · obtain ⟨h1, h2⟩ := est_dec hA hq (.inl (by omega))
      exact Again.mk (q - 1).toNat (fA Y y1 y0 U m1 m0 s (q - 1) (r + y1)) ⟨0, [], [], []⟩ (by omega) (Sub.norm ⟨rfl, rfl, rfl, rfl, rfl, rfl, rfl, rfl, rfl, trivial⟩ trivial (by simp) rfl rfl rfl rfl) ⟨_, _, h1, by omega, rfl, rfl, rfl⟩
    · obtain ⟨h1, h2⟩ := est_dec hA hq (.inr (by omega))
      have h3 := est_over hA h1 (by omega) (by omega)
      exact Meet.mk (fA' Y y1 y0 U m1 m0 s) ⟨0, [], [], []⟩ (Sub.norm ⟨congrArg (PV.int .u64) h3, rfl, rfl, rfl, rfl, rfl, rfl, rfl, trivial⟩ trivial (by simp) rfl rfl rfl rfl) ⟨rfl, rfl⟩
    · obtain ⟨h1, h2⟩ := est_dec hA hq (.inr (by omega))
      exact Again.mk (q - 1).toNat (fA Y y1 y0 U m1 m0 s (q - 1) (r + y1)) ⟨0, [], [], []⟩ (by omega) (Sub.norm ⟨rfl, rfl, rfl, rfl, rfl, rfl, rfl, rfl, rfl, trivial⟩ trivial (by simp) rfl rfl rfl rfl) ⟨_, _, h1, by omega, rfl, rfl, rfl⟩
    · have h3 := est_stop hA hq (by omega)
      exact Meet.mk (fA' Y y1 y0 U m1 m0 s) ⟨0, [], [], []⟩ (Sub.norm ⟨congrArg (PV.int .u64) h3, rfl, rfl, rfl, rfl, rfl, rfl, rfl, trivial⟩ trivial (by simp) rfl rfl rfl rfl) ⟨rfl, rfl⟩
  · rintro F H ⟨rfl, rfl⟩
    have hQt := half_top hA
    have hQn := half_nonneg hA
    have hQe := Int.emod_add_mul_ediv (U * 4294967296 + m1) Y
    have hVn := Int.emod_nonneg (U * 4294967296 + m1) (show Y ≠ 0 by omega)
    have hVl := Int.emod_lt_of_pos (U * 4294967296 + m1) (show 0 < Y by omega)
    rw [show halfQ U y1 y0 m1 = (U * 4294967296 + m1) / Y by rw [halfQ, hYe]] at hQt hQn ⊢
    obtain ⟨Q1, hQ1⟩ : ∃ v, (U * 4294967296 + m1) / Y = v := ⟨_, rfl⟩
    obtain ⟨V, hV⟩ : ∃ v, (U * 4294967296 + m1) % Y = v := ⟨_, rfl⟩
    simp only [hQ1, hV] at hQt hQn hQe hVn hVl ⊢
    have hYQ : Y * Q1 = Q1 * Y := Int.mul_comm _ _
    have hVw : IntKind.wrap .u64 (IntKind.wrap .u64 (IntKind.wrap .u64 (U * 4294967296) + m1) - IntKind.wrap .u64 (Q1 * Y)) = V := by
      simp only [wrap_u64']; omega
    have hB : Half V y1 y0 m0 := ⟨by omega, by omega, by omega, by omega⟩
    obtain ⟨hi1, hi2⟩ := est_init hB
    have hwq : IntKind.wrap .u64 (V.tdiv y1) = V / y1 := by
      have := hi1.hi; have := hi1.q0
      rw [tdiv_pos hVn]; exact wrap_u64 (by omega)
    have hwp : IntKind.wrap .u64 (V / y1 * y1) = V / y1 * y1 := by
      have := hi1.he; have := hi1.hr
      have h1 : 0 ≤ V / y1 * y1 := Int.mul_nonneg hi1.q0 (by omega)
      exact wrap_u64 (by omega)
    have hwr : IntKind.wrap .u64 (V - V / y1 * y1) = V - V / y1 * y1 := by
      have := hi1.hr
      exact wrap_u64 (by omega)
    repeat' first
      | (simp only [hVw, hwq, hwp, hwr])
      | (with_reducible first | refine PW.seq ?_ | refine PW.block ?_ | refine PW.fork ?_ | refine PW.skip ?_ | refine PW.exit ?_ | refine PW.ret ?_ | refine PW.scope ?_ | refine PW.label ?_ | refine PW.goto ?_)
      | (with_reducible refine PW.region ttOk ?_ ?_
         · rfl)
      | (with_reducible refine PW.regionD ttOk mixed ?_ ?_ ?_
         · rfl
         · rfl) | (with_reducible refine ifW_dec (fun g => ?_) (fun g => ?_) <;> first | (exfalso; omega) | (simp -dsimp only [g, wkI])) | (with_reducible refine condE_dec (fun g => ?_) (fun g => ?_) <;> try (exfalso; omega)) | (with_reducible refine condE_not (fun g => ?_) (fun g => ?_) <;> try (exfalso; omega)) | (simp -dsimp only [↓wkA, ↓wkE, ↓wkJ, wkB, ↓tt, Nat.reduceBEq, Nat.reduceEqDiff, ↓reduceIte, Nat.reduceLT, Array.toList, Nat.reduceAdd, Nat.reduceMul, Int.reduceToNat, Int.reducePow, UInt8.reduceToNat]) | (simp -dsimp (disch := first | assumption | omega) only [dec_t, dec_f])
      | (refine And.intro ?_ ?_
         · first | omega | decide | (simp (disch := omega) only [wkW, Int.reduceToNat, Int.reducePow] <;> omega) | (simp <;> omega)) | (simp (disch := omega) only [wkW, Int.reduceToNat, Int.reducePow]) | fail
    refine PW.meetB (DivB' Y y1 y0 Q1 V m0 s) ?_ ?_
    · refine PW.loopA (DivB Y y1 y0 Q1 V m0 s) (V / y1).toNat [(18, .int .u64 (V / y1)), (16, .int .u64 (V - V / y1 * y1)), (2, .int .u64 Y), (9, .int .u64 y1), (10, .int .u64 y0), (17, .int .u64 V), (15, .int .u64 Q1), (14, .int .u64 m0), (8, .int .u64 s)] ⟨0, [], [], []⟩ (Sub.norm ⟨rfl, rfl, rfl, rfl, rfl, rfl, rfl, rfl, rfl, trivial⟩ trivial (by simp) rfl rfl rfl rfl) ⟨_, _, hi1, by omega, rfl, rfl, rfl⟩ ?_
      rintro n F H ⟨q, r, hq, hr, hn, rfl, rfl⟩
      have hq1 := hq.q0; have hq2 := hq.hi; have hq3 := hq.hr
      have hp := est_prod hB hq
      have hz : q ≤ 0 → q * y0 ≤ 0 := fun h => by have : q = 0 := by omega
                                                  subst this; simp
      repeat' first
        | (simp (disch := omega) only [wkW, Int.reduceToNat, Int.reducePow])
        | (with_reducible first | refine PW.seq ?_ | refine PW.block ?_ | refine PW.fork ?_ | refine PW.skip ?_ | refine PW.exit ?_ | refine PW.ret ?_ | refine PW.scope ?_ | refine PW.label ?_ | refine PW.goto ?_)
        | (with_reducible refine PW.region ttOk ?_ ?_
           · rfl)
        | (with_reducible refine PW.regionD ttOk mixed ?_ ?_ ?_
           · rfl
           · rfl) | (with_reducible refine ifW_dec (fun g => ?_) (fun g => ?_) <;> first | (exfalso; omega) | (simp -dsimp only [g, wkI])) | (with_reducible refine condE_dec (fun g => ?_) (fun g => ?_) <;> try (exfalso; omega)) | (with_reducible refine condE_not (fun g => ?_) (fun g => ?_) <;> try (exfalso; omega)) | (simp -dsimp only [↓wkA, ↓wkE, ↓wkJ, wkB, ↓tt, Nat.reduceBEq, Nat.reduceEqDiff, ↓reduceIte, Nat.reduceLT, Array.toList, Nat.reduceAdd, Nat.reduceMul, Int.reduceToNat, Int.reducePow, UInt8.reduceToNat]) | (simp -dsimp (disch := first | assumption | omega) only [dec_t, dec_f])
        | (refine And.intro ?_ ?_
           · first | omega | decide | (simp (disch := omega) only [wkW, Int.reduceToNat, Int.reducePow] <;> omega) | (simp <;> omega)) | (simp (disch := omega) only [wkW, Int.reduceToNat, Int.reducePow]) | fail
      · obtain ⟨h1, h2⟩ := est_dec hB hq (.inl (by omega))
        have h3 := est_over hB h1 (by omega) (by omega)
        exact Meet.mk (fB' Y y1 y0 Q1 V m0 s) ⟨0, [], [], []⟩ (Sub.norm ⟨congrArg (PV.int .u64) h3, rfl, rfl, rfl, rfl, rfl, trivial⟩ trivial (by simp) rfl rfl rfl rfl) ⟨rfl, rfl⟩
      · obtain ⟨h1, h2⟩ := est_dec hB hq (.inl (by omega))
        exact Again.mk (q - 1).toNat (fB Y y1 y0 Q1 V m0 s (q - 1) (r + y1)) ⟨0, [], [], []⟩ (by omega) (Sub.norm ⟨rfl, rfl, rfl, rfl, rfl, rfl, rfl, rfl, rfl, trivial⟩ trivial (by simp) rfl rfl rfl rfl) ⟨_, _, h1, by omega, rfl, rfl, rfl⟩
      · obtain ⟨h1, h2⟩ := est_dec hB hq (.inr (by omega))
        have h3 := est_over hB h1 (by omega) (by omega)
        exact Meet.mk (fB' Y y1 y0 Q1 V m0 s) ⟨0, [], [], []⟩ (Sub.norm ⟨congrArg (PV.int .u64) h3, rfl, rfl, rfl, rfl, rfl, trivial⟩ trivial (by simp) rfl rfl rfl rfl) ⟨rfl, rfl⟩
      · obtain ⟨h1, h2⟩ := est_dec hB hq (.inr (by omega))
        exact Again.mk (q - 1).toNat (fB Y y1 y0 Q1 V m0 s (q - 1) (r + y1)) ⟨0, [], [], []⟩ (by omega) (Sub.norm ⟨rfl, rfl, rfl, rfl, rfl, rfl, rfl, rfl, rfl, trivial⟩ trivial (by simp) rfl rfl rfl rfl) ⟨_, _, h1, by omega, rfl, rfl, rfl⟩
      · have h3 := est_stop hB hq (by omega)
        exact Meet.mk (fB' Y y1 y0 Q1 V m0 s) ⟨0, [], [], []⟩ (Sub.norm ⟨congrArg (PV.int .u64) h3, rfl, rfl, rfl, rfl, rfl, trivial⟩ trivial (by simp) rfl rfl rfl rfl) ⟨rfl, rfl⟩
    · rintro F H ⟨rfl, rfl⟩
      have hQt2 := half_top hB
      have hQn2 := half_nonneg hB
      have hQe2 := Int.emod_add_mul_ediv (V * 4294967296 + m0) Y
      have hRn := Int.emod_nonneg (V * 4294967296 + m0) (show Y ≠ 0 by omega)
      have hRl := Int.emod_lt_of_pos (V * 4294967296 + m0) (show 0 < Y by omega)
      rw [show halfQ V y1 y0 m0 = (V * 4294967296 + m0) / Y by rw [halfQ, hYe]] at hQt2 hQn2 ⊢
      obtain ⟨Q0, hQ0⟩ : ∃ v, (V * 4294967296 + m0) / Y = v := ⟨_, rfl⟩
      obtain ⟨R, hR⟩ : ∃ v, (V * 4294967296 + m0) % Y = v := ⟨_, rfl⟩
      simp only [hQ0, hR] at hQt2 hQn2 hQe2 hRn hRl ⊢
      have hYQ2 : Y * Q0 = Q0 * Y := Int.mul_comm _ _
      have hRw : IntKind.wrap .u64 (IntKind.wrap .u64 (IntKind.wrap .u64 (V * 4294967296) + m0) - IntKind.wrap .u64 (Q0 * Y)) = R := by
        simp only [wrap_u64']; omega
      have hfd2 : R.fdiv B = R / B := fdiv_pos (by omega)
      -- what the whole comes to
      have key : (hi * 18446744073709551616 + lo) / y = Q1 * 4294967296 + Q0 ∧ (hi * 18446744073709551616 + lo) % y = R / B := by
        have e1 := Int.emod_add_mul_ediv (hi * 18446744073709551616 + lo) y
        have e2 := Int.emod_nonneg (hi * 18446744073709551616 + lo) (show y ≠ 0 by omega)
        have e3 := Int.emod_lt_of_pos (hi * 18446744073709551616 + lo) (show 0 < y by omega)
        generalize (hi * 18446744073709551616 + lo) / y = qd at *
        generalize (hi * 18446744073709551616 + lo) % y = rd at *
        have e4 : 0 ≤ rd * B := Int.mul_nonneg e2 (by omega)
        have e5 : (rd + 1) * B ≤ y * B := Int.mul_le_mul_of_nonneg_right (by omega) (by omega)
        have e6 : (rd + 1) * B = rd * B + B := by grind
        have u1 := (Int.ediv_emod_unique (a := U * 18446744073709551616 + L) (r := rd * B) (q := qd) (show 0 < Y by omega)).2 ⟨by rw [← hN, ← e1, ← hY]; grind, e4, by omega⟩
        have u2 := (Int.ediv_emod_unique (a := U * 18446744073709551616 + L) (r := R) (q := Q1 * 4294967296 + Q0) (show 0 < Y by omega)).2 ⟨by
          have e7 : Y * (Q1 * 4294967296 + Q0) = Y * Q1 * 4294967296 + Y * Q0 := by grind
          rw [e7]; omega, hRn, hRl⟩
        refine ⟨u1.1.symm.trans u2.1, ?_⟩
        have e8 : rd * B = R := u1.2.symm.trans u2.2
        rw [← e8, Int.mul_ediv_cancel _ (by omega)]
      repeat' first
        | (simp only [hRw, hs1, hs2, hB', hfd2])
        | (with_reducible first | refine PW.seq ?_ | refine PW.block ?_ | refine PW.fork ?_ | refine PW.skip ?_ | refine PW.exit ?_ | refine PW.ret ?_ | refine PW.scope ?_ | refine PW.label ?_ | refine PW.goto ?_)
        | (with_reducible refine PW.region ttOk ?_ ?_
           · rfl)
        | (with_reducible refine PW.regionD ttOk mixed ?_ ?_ ?_
           · rfl
           · rfl) | (with_reducible refine ifW_dec (fun g => ?_) (fun g => ?_) <;> first | (exfalso; omega) | (simp -dsimp only [g, wkI])) | (with_reducible refine condE_dec (fun g => ?_) (fun g => ?_) <;> try (exfalso; omega)) | (with_reducible refine condE_not (fun g => ?_) (fun g => ?_) <;> try (exfalso; omega)) | (simp -dsimp only [↓wkA, ↓wkE, ↓wkJ, wkB, ↓tt, Nat.reduceBEq, Nat.reduceEqDiff, ↓reduceIte, Nat.reduceLT, Array.toList, Nat.reduceAdd, Nat.reduceMul, Int.reduceToNat, Int.reducePow, UInt8.reduceToNat]) | (simp -dsimp (disch := first | assumption | omega) only [dec_t, dec_f])
        | (refine And.intro ?_ ?_
           · first | omega | decide | (simp (disch := omega) only [wkW, Int.reduceToNat, Int.reducePow] <;> omega) | (simp <;> omega)) | (simp (disch := omega) only [wkW, Int.reduceToNat, Int.reducePow]) | fail
      rw [key.1, key.2]
theorem least_of (p : Nat → Prop) : ∀ N, p N → ∃ n, p n ∧ ∀ m, m < n → ¬ p m := by
  intro N
  induction N using Nat.strongRecOn with
  | _ N ih =>
    intro h
    by_cases he : ∃ m, m < N ∧ p m
    · obtain ⟨m, hm, hp⟩ := he; exact ih m hm hp
    · exact ⟨N, h, fun m hm hp => he ⟨m, hm, hp⟩⟩
theorem chunk_ex (b : Nat) (hb : 2 ≤ b ∧ b ≤ 36) : ∃ k, 1 ≤ k ∧ k ≤ 64 ∧ b ^ k < 18446744073709551616 ∧ 18446744073709551616 ≤ b ^ (k + 1) ∧ ∀ m, 1 ≤ m → m < k → b ^ (m + 1) < 18446744073709551616 := by
  have h64 : 18446744073709551616 ≤ b ^ (63 + 1) := Nat.le_trans (by decide : 18446744073709551616 ≤ 2 ^ 64) (Nat.pow_le_pow_left hb.1 64)
  obtain ⟨k, hk, hmin⟩ := least_of (fun n => 18446744073709551616 ≤ b ^ (n + 1)) 63 h64
  have hk63 : k ≤ 63 := by
    rcases Nat.lt_or_ge 63 k with h | h
    · exact absurd h64 (hmin 63 h)
    · exact h
  have hk0 : k ≠ 0 := by
    rintro rfl
    rw [Nat.zero_add, Nat.pow_one] at hk; omega
  refine ⟨k, by omega, by omega, ?_, hk, fun m _ hm => by have := hmin m hm; omega⟩
  have := hmin (k - 1) (by omega)
  rw [show k - 1 + 1 = k by omega] at this
  omega
def ChI (b k : Nat) (n : Nat) (F : PV.Frame) (H : PV.Heap) : Prop :=
  ∃ i : Nat, 1 ≤ i ∧ i + n = k ∧ F = [(5, .int .u64 ((b ^ i : Nat) : Int)), (6, .int .i64 (i : Int)), (4, .int .u64 (b : Int))] ∧ H = ⟨0, [], [], []⟩
theorem numeral_chunk (b k : Nat) (hb : 2 ≤ b ∧ b ≤ 36) (h1 : 1 ≤ k) (h2 : k ≤ 64) (h3 : b ^ k < 18446744073709551616) (h4 : 18446744073709551616 ≤ b ^ (k + 1)) (h5 : ∀ m, 1 ≤ m → m < k → b ^ (m + 1) < 18446744073709551616) :
    Meets Tryz.prog 110 [.int .i64 (b : Int)] (.tup [.int .u64 ((b ^ k : Nat) : Int), .int .i64 (k : Int)]) := by
  refine meets_by ttOk Tryz.func110 Tryz.ntmps110 Tryz.results110 (by kernel_rfl) (c := _) rfl rfl rfl fun E => ?_
  simp only [argsFrame]
  repeat' first
    | (with_reducible first | refine PW.seq ?_ | refine PW.block ?_ | refine PW.fork ?_ | refine PW.skip ?_ | refine PW.exit ?_ | refine PW.ret ?_ | refine PW.scope ?_ | refine PW.label ?_ | refine PW.goto ?_)
    | (with_reducible refine PW.region ttOk ?_ ?_
       · rfl)
    | (with_reducible refine PW.regionD ttOk mixed ?_ ?_ ?_
       · rfl
       · rfl) | (with_reducible refine ifW_dec (fun g => ?_) (fun g => ?_) <;> first | (exfalso; omega) | (simp -dsimp only [g, wkI])) | (with_reducible refine condE_dec (fun g => ?_) (fun g => ?_) <;> try (exfalso; omega)) | (with_reducible refine condE_not (fun g => ?_) (fun g => ?_) <;> try (exfalso; omega)) | (simp -dsimp only [↓wkA, ↓wkE, ↓wkJ, wkB, ↓tt, Nat.reduceBEq, Nat.reduceEqDiff, ↓reduceIte, Nat.reduceLT, Array.toList, Nat.reduceAdd, Nat.reduceMul, Int.reduceToNat, Int.reducePow, UInt8.reduceToNat]) | (simp -dsimp (disch := first | assumption | omega) only [dec_t, dec_f])
    | (refine And.intro ?_ ?_
       · first | omega | decide | (simp (disch := omega) only [wkW, Int.reduceToNat, Int.reducePow] <;> omega) | (simp <;> omega)) | (simp (disch := omega) only [wkW, Int.reduceToNat, Int.reducePow]) | fail
  refine PW.loopA (ChI b k) (k - 1) [(5, .int .u64 ((b ^ 1 : Nat) : Int)), (6, .int .i64 ((1 : Nat) : Int)), (4, .int .u64 (b : Int))] ⟨0, [], [], []⟩ (Sub.norm ⟨?_, rfl, ?_, trivial⟩ trivial (by simp) rfl rfl rfl rfl) ⟨1, by omega, by omega, rfl, rfl⟩ ?_
  · rw [Nat.pow_one]; simp (disch := omega) only [↓wkA, ↓wkE, ↓wkJ, wkB, ↓tt, Nat.reduceBEq, Nat.reduceEqDiff, ↓reduceIte, Nat.reduceLT, Array.toList, Nat.reduceAdd, Nat.reduceMul, Int.reduceToNat, Int.reducePow, UInt8.reduceToNat, wkW, Int.reduceToNat, Int.reducePow]
  · simp (disch := omega) only [↓wkA, ↓wkE, ↓wkJ, wkB, ↓tt, Nat.reduceBEq, Nat.reduceEqDiff, ↓reduceIte, Nat.reduceLT, Array.toList, Nat.reduceAdd, Nat.reduceMul, Int.reduceToNat, Int.reducePow, UInt8.reduceToNat, wkW, Int.reduceToNat, Int.reducePow]
  rintro n F H ⟨i, hi, hn, rfl, rfl⟩
  have hlt : b ^ i < 18446744073709551616 := by
    by_cases e : i = k
    · subst e; exact h3
    · have := h5 i hi (by omega)
      refine Nat.lt_of_le_of_lt (Nat.pow_le_pow_right (by omega) (by omega : i ≤ i + 1)) this
  have hmul : ((b ^ i : Nat) : Int) * (b : Int) = ((b ^ (i + 1) : Nat) : Int) := by rw [Nat.pow_succ]; simp
  have hm := mul64 ((b ^ i : Nat) : Int) (b : Int) (by simp only [B64]; omega) (by simp only [B64]; omega)
  rw [hmul] at hm
  simp only [B64] at hm
  by_cases hk : i = k
  · subst hk
    repeat' first
      | (with_reducible first | refine PW.seq ?_ | refine PW.block ?_ | refine PW.fork ?_ | refine PW.skip ?_ | refine PW.exit ?_ | refine PW.ret ?_ | refine PW.scope ?_ | refine PW.label ?_ | refine PW.goto ?_)
      | (with_reducible refine PW.region ttOk ?_ ?_
         · rfl)
      | (with_reducible refine PW.regionD ttOk mixed ?_ ?_ ?_
         · rfl
         · rfl) | (with_reducible refine ifW_dec (fun g => ?_) (fun g => ?_) <;> first | (exfalso; omega) | (simp -dsimp only [g, wkI])) | (with_reducible refine condE_dec (fun g => ?_) (fun g => ?_) <;> try (exfalso; omega)) | (with_reducible refine condE_not (fun g => ?_) (fun g => ?_) <;> try (exfalso; omega)) | (simp -dsimp only [↓wkA, ↓wkE, ↓wkJ, wkB, ↓tt, Nat.reduceBEq, Nat.reduceEqDiff, ↓reduceIte, Nat.reduceLT, Array.toList, Nat.reduceAdd, Nat.reduceMul, Int.reduceToNat, Int.reducePow, UInt8.reduceToNat]) | (refine call_by hm (views_data rfl) ⟨trivial, trivial, trivial⟩ rfl ?_) | (simp -dsimp (disch := first | assumption | omega) only [dec_t, dec_f])
      | (refine And.intro ?_ ?_
         · first | omega | decide | (simp (disch := omega) only [wkW, Int.reduceToNat, Int.reducePow] <;> omega) | (simp <;> omega)) | (simp (disch := omega) only [wkW, Int.reduceToNat, Int.reducePow]) | fail
  · have := h5 i hi (by omega)
    repeat' first
      | (with_reducible first | refine PW.seq ?_ | refine PW.block ?_ | refine PW.fork ?_ | refine PW.skip ?_ | refine PW.exit ?_ | refine PW.ret ?_ | refine PW.scope ?_ | refine PW.label ?_ | refine PW.goto ?_)
      | (with_reducible refine PW.region ttOk ?_ ?_
         · rfl)
      | (with_reducible refine PW.regionD ttOk mixed ?_ ?_ ?_
         · rfl
         · rfl) | (with_reducible refine ifW_dec (fun g => ?_) (fun g => ?_) <;> first | (exfalso; omega) | (simp -dsimp only [g, wkI])) | (with_reducible refine condE_dec (fun g => ?_) (fun g => ?_) <;> try (exfalso; omega)) | (with_reducible refine condE_not (fun g => ?_) (fun g => ?_) <;> try (exfalso; omega)) | (simp -dsimp only [↓wkA, ↓wkE, ↓wkJ, wkB, ↓tt, Nat.reduceBEq, Nat.reduceEqDiff, ↓reduceIte, Nat.reduceLT, Array.toList, Nat.reduceAdd, Nat.reduceMul, Int.reduceToNat, Int.reducePow, UInt8.reduceToNat]) | (refine call_by hm (views_data rfl) ⟨trivial, trivial, trivial⟩ rfl ?_) | (simp -dsimp (disch := first | assumption | omega) only [dec_t, dec_f])
      | (refine And.intro ?_ ?_
         · first | omega | decide | (simp (disch := omega) only [wkW, Int.reduceToNat, Int.reducePow] <;> omega) | (simp <;> omega)) | (simp (disch := omega) only [wkW, Int.reduceToNat, Int.reducePow]) | fail
    refine Again.mk (n - 1) [(5, .int .u64 ((b ^ (i + 1) : Nat) : Int)), (6, .int .i64 ((i + 1 : Nat) : Int)), (4, .int .u64 (b : Int))] ⟨0, [], [], []⟩ (by omega) (Sub.norm ⟨?_, rfl, rfl, trivial⟩ trivial (by simp) rfl rfl rfl rfl) ⟨i + 1, by omega, by omega, rfl, rfl⟩
    simp -dsimp only [↓wkA, ↓wkE, ↓wkJ, wkB, ↓tt, Nat.reduceBEq, Nat.reduceEqDiff, ↓reduceIte, Nat.reduceLT, Array.toList, Nat.reduceAdd, Nat.reduceMul, Int.reduceToNat, Int.reducePow, UInt8.reduceToNat]
    refine congrArg _ ?_
    omega
theorem nat_trim_h (l : List Int) (hl : l.length ≤ 17592186043904) (nx : Nat) (rows : List (Nat × PV.Row)) (g : List PV.Frame) (ty : List (Nat × TypeId)) :
    HMeets Tryz.prog 162 [.ints .u64 l] ⟨nx, rows, g, ty⟩ fun res H' => res = .sl nx 0 (size l) true ∧ H' = ⟨nx + 1, setRow rows nx (.ints .u64 (trim l)), g, (nx, 27) :: ty⟩ := by
  refine hmeets_by ttOk Tryz.func162 Tryz.ntmps162 Tryz.results162 (by kernel_rfl) (c := _) rfl rfl fun E => ?_
  simp only [argsFrame]
  have hsz := size_le l
  repeat' first
    | (with_reducible first | refine PW.seq ?_ | refine PW.block ?_ | refine PW.fork ?_ | refine PW.skip ?_ | refine PW.exit ?_ | refine PW.ret ?_ | refine PW.scope ?_ | refine PW.label ?_ | refine PW.goto ?_)
    | (with_reducible refine PW.region ttOk ?_ ?_
       · rfl)
    | (with_reducible refine PW.regionD ttOk mixed ?_ ?_ ?_
       · rfl
       · rfl) | (with_reducible refine ifW_dec (fun g => ?_) (fun g => ?_) <;> first | (exfalso; omega) | (simp -dsimp only [g, wkI])) | (with_reducible refine condE_dec (fun g => ?_) (fun g => ?_) <;> try (exfalso; omega)) | (with_reducible refine condE_not (fun g => ?_) (fun g => ?_) <;> try (exfalso; omega)) | (simp -dsimp only [getRow_setRow_self, Go.PV.setRow_setRow, ↓wkA, ↓wkE, ↓wkJ, wkB, ↓tt, Nat.reduceBEq, Nat.reduceEqDiff, ↓reduceIte, Nat.reduceLT, Array.toList, Nat.reduceAdd, Nat.reduceMul, Int.reduceToNat, Int.reducePow, UInt8.reduceToNat]) | (refine call_by (nat_size _ (by first | assumption | omega)) (views_data rfl) ⟨trivial, trivial⟩ rfl ?_) | (simp -dsimp (disch := first | assumption | omega) only [dec_t, dec_f])
    | (refine And.intro ?_ ?_
       · first | omega | decide | (simp (disch := omega) only [wkW, Int.reduceToNat, Int.reducePow] <;> omega) | (simp <;> omega)) | (simp (disch := omega) only [wkW, Int.reduceToNat, Int.reducePow]) | fail
  have e : List.take (min (List.take (size l) l).length (size l)) (List.take (size l) l) ++ List.drop (min (List.take (size l) l).length (size l)) (List.replicate (size l) 0) = trim l := by
    rw [List.length_take, Nat.min_eq_left (by omega : size l ≤ l.length), Nat.min_self, List.take_take, Nat.min_self, List.drop_of_length_le (by simp), List.append_nil]
    rfl
  rw [e]
open Go Go.RowKit Go.Shelf
theorem b_t86 : Tryz.prog.underlying 175 = some (.pointer 177) := by kernel_rfl
theorem b_t137 : Tryz.prog.underlying 217 = some .unsafePointer := by kernel_rfl
theorem b_t118 : Tryz.prog.underlying 189 = some (.pointer 5) := by kernel_rfl
theorem b_size : (Tryz.prog.info? 177).map (·.size) = some 2 := by kernel_rfl
theorem b_lies : liesAt Tryz.prog Tryz.prog.depth 177 (2 / Tryz.prog.cellsOf 177) 0 177 1 = true := by kernel_rfl
theorem b_cells5 : Tryz.prog.cellsOf 5 = 1 := by kernel_rfl
set_option maxHeartbeats 1000000 in
set_option maxRecDepth 100000 in
theorem copyCheck_used (b : Nat) (w : World) (h0 : w.cell? ⟨b, 0, none⟩ = some (.pointer (some ⟨b, 0, none⟩))) :
    Calls Tryz.prog 195 #[.pointer (some ⟨b, 0, none⟩)] w fun e w' => e = .returned (.tuple #[]) ∧ w' = w := by
  obtain ⟨j, hj, _⟩ := Option.map_eq_some_iff.1 b_size
  go_enter Tryz.func195, Tryz.ntmps195
  go_wp2
  rw [Lib.run_neq_ptr_same w _ b_t86 hj]
  go_wp2
  go_end0
  exact ⟨rfl, rfl⟩
set_option maxHeartbeats 1000000 in
set_option maxRecDepth 100000 in
theorem copyCheck_fresh (b : Nat) (w : World) (h0 : w.cell? ⟨b, 0, none⟩ = some (.pointer none)) (hsh : w.shape? b = some (177, 2)) (hfz : w.frozen? ⟨b, 0, none⟩ = false) :
    Calls Tryz.prog 195 #[.pointer (some ⟨b, 0, none⟩)] w fun e w' => e = .returned (.tuple #[]) ∧ w' = w.setCell ⟨b, 0, none⟩ (.pointer (some ⟨b, 0, none⟩)) := by
  obtain ⟨j, hj, hjs⟩ := Option.map_eq_some_iff.1 b_size
  go_enter Tryz.func195, Tryz.ntmps195
  go_wp2
  rw [Lib.run_to_unsafe w ⟨b, 0, none⟩ b_t86 b_t137 hj (by rw [hjs]; decide) hsh (Nat.zero_lt_succ 1)]
  simp only [Result.andThen]
  rw [Oper.upon_value]
  go_wp2
  rw [run_callFunc_extern Tryz.func212 (by kernel_rfl) (by kernel_rfl) (by kernel_rfl) (e := Extern.AbiNoEscape.same) (by kernel_rfl)]
  rw [Lib.run_noEscape]
  simp only [Result.andThen]
  rw [Oper.upon_value]
  go_wp2
  rw [Lib.run_from_unsafe w ⟨b, 0, none⟩ b_t137 b_t86 hj hsh b_lies]
  simp only [Result.andThen]
  rw [Oper.upon_value]
  go_wp2
  go_end0
  exact ⟨rfl, rfl⟩
set_option maxHeartbeats 2000000 in
set_option maxRecDepth 100000 in
theorem string_run (b g cap : Nat) (p : Value) (cur : Array Value) (frb frg : Nat × Nat) (w : World) (l : List UInt8) (h0 : l ≠ []) (hbk : w.heap[b]? = some (.cells #[p, .slice (some ⟨g, 0, none⟩) l.length cap] 177 frb)) (hg : w.heap[g]? = some (.cells cur 5 frg))
    (hlc : l.length ≤ cap) (hcap : cap ≤ cur.size) (h63 : l.length ≤ 9223372036854775807) (hcell : ∀ j x, l[j]? = some x → w.cell? ⟨g, j, none⟩ = some (.int .u8 x.toNat)) :
    Calls Tryz.prog 165 #[.pointer (some ⟨b, 0, none⟩)] w fun e w' => e = .returned (.string ⟨l.toArray⟩) ∧ w' = w.drew.freeze ⟨g, 0, none⟩ l.length := by
  have hl0 : l.length ≠ 0 := by simpa using h0
  have c1 : w.drew.cell? ⟨b, 1, none⟩ = some (.slice (some ⟨g, 0, none⟩) l.length cap) := by
    have : w.drew.heap[b]? = some (.cells #[p, .slice (some ⟨g, 0, none⟩) l.length cap] 177 frb) := hbk
    rw [Lib.cell_of_heap this]; rfl
  have hSD : (Builtin.unsafeSliceData_ #[23] 189 #[.slice (some ⟨g, 0, none⟩) l.length cap]).run Tryz.prog w.drew = .ok (.pointer (some ⟨g, 0, none⟩)) w.drew :=
    Lib.run_unsafeSliceData_row _ _ _ _ _ _ (by omega)
  have hUS : (Builtin.unsafeString_ #[189, 3] 9 #[.pointer (some ⟨g, 0, none⟩), .int .i64 l.length]).run Tryz.prog w.drew = .ok (.string ⟨l.toArray⟩) (w.drew.freeze ⟨g, 0, none⟩ l.length) := by
    refine Lib.run_unsafeString_row w.drew 189 3 9 5 b_t118 b_cells5 g cur.size (by have hg' : w.drew.heap[g]? = some (.cells cur 5 frg) := hg; simp [World.shape?, hg']) l h0 (by omega) h63 ?_
    intro j x hx
    rw [show ((⟨g, 0, none⟩ : Addr).add j) = ⟨g, j, none⟩ by simp [Addr.add]; intro h; exact h.symm]
    exact hcell j x hx
  have mixed := mixed
  go_enter Tryz.func165, Tryz.ntmps165
  go_wp2
  go_region_o
  all_goals (go_wp2; go_ret; exact ⟨rfl, rfl⟩)
theorem b_enter97 (vs : Array Value) (w : World) : (callFunc 195 vs).run Tryz.prog w = .ok (.enter 195 vs) w := call_enters Tryz.func195 (by kernel_rfl) rfl vs w
theorem b_enter67 (vs : Array Value) (w : World) : (callFunc 165 vs).run Tryz.prog w = .ok (.enter 165 vs) w := call_enters Tryz.func165 (by kernel_rfl) rfl vs w
theorem builder_copyCheck {H : PV.Heap} {r : Nat} {p q : PV} (hr : H.get r = some (.var [p, q])) (hp : p = .nilptr ∨ p = .ptr r 0 0) (ht : getT H.ty r = some 177) :
    HMeets Tryz.prog 195 [.ptr r 0 0] H fun res H' => res = .tup [] ∧ H' = H.set r (.var [.ptr r 0 0, q]) :=
  copyCheck_h b_enter97 copyCheck_fresh copyCheck_used hr hp ht
theorem builder_String {H : PV.Heap} {r r2 : Nat} {p : PV} {full : Bool} {l : List Int} (hne : r ≠ r2) (hr : H.get r = some (.var [p, .sl r2 0 l.length full])) (hr2 : H.get r2 = some (.ints .u8 l)) (ht : getT H.ty r = some 177) (ht2 : getT H.ty r2 = some 5)
    (hl0 : l ≠ []) (hl1 : ∀ x ∈ l, 0 ≤ x ∧ x < 256) (hl2 : l.length ≤ 9223372036854775807) :
    HMeets Tryz.prog 165 [.ptr r 0 0] H fun res H' => res = .str l ∧ H' = H.drop [r2] :=
  string_h b_enter67 string_run hne hr hr2 ht ht2 hl0 hl1 hl2
theorem builder_WriteByte {nx : Nat} {rows : List (Nat × PV.Row)} {g : List PV.Frame} {ty : List (Nat × TypeId)} {r r2 : Nat} {p : PV} {l : List Int} (c : Int) (hne : r ≠ r2) (hrn : r < nx) (hrn2 : r2 < nx) (hr : getRow rows r = some (.var [p, .sl r2 0 l.length true])) (hr2 : getRow rows r2 = some (.ints .u8 l))
    (hp : p = .nilptr ∨ p = .ptr r 0 0) (ht : getT ty r = some 177) (ht2 : getT ty r2 = some 5) (hl : l.length ≤ 100000000000000) :
    HMeets Tryz.prog 164 [.ptr r 0 0, .int .u8 c] ⟨nx, rows, g, ty⟩ fun res H' => res = .con .nilIface ∧ H' = ⟨nx + 1, setRow (setRow (killRows r2 (setRow (setRow rows r (.var [.ptr r 0 0, .sl r2 0 l.length true])) nx (.ints .u8 [c]))) r2 (.ints .u8 (l ++ [c]))) r (.var [.ptr r 0 0, .sl r2 0 (l.length + 1) true]), g.map (Frame.kill r2), (r2, 5) :: dropT r2 ((nx, 5) :: ty)⟩ := by
  refine hmeets_by ttOk Tryz.func164 Tryz.ntmps164 Tryz.results164 (by kernel_rfl) (c := _) rfl rfl fun E => ?_
  simp only [argsFrame]
  have h1 : r ≠ nx := by omega
  have h2 : r2 ≠ nx := by omega
  have h3 := Ne.symm hne
  have h4 := Ne.symm h1
  have h5 := Ne.symm h2
  have b1 : (r2 == r) = false := beq_eq_false_iff_ne.2 h3
  have b2 : (r == r2) = false := beq_eq_false_iff_ne.2 hne
  have b3 : (nx == r2) = false := beq_eq_false_iff_ne.2 h5
  have b4 : (r2 == nx) = false := beq_eq_false_iff_ne.2 h2
  have b5 : (nx == r) = false := beq_eq_false_iff_ne.2 h4
  have b6 : (r == nx) = false := beq_eq_false_iff_ne.2 h1
  repeat' first
    | (with_reducible first | refine PW.seq ?_ | refine PW.block ?_ | refine PW.fork ?_ | refine PW.skip ?_ | refine PW.exit ?_ | refine PW.ret ?_ | refine PW.scope ?_ | refine PW.label ?_ | refine PW.goto ?_)
    | (with_reducible refine PW.region ttOk ?_ ?_
       · rfl)
    | (with_reducible refine PW.regionD ttOk mixed ?_ ?_ ?_
       · rfl
       · rfl) | (with_reducible refine ifW_dec (fun g => ?_) (fun g => ?_) <;> first | (exfalso; omega) | (simp -dsimp only [g, wkI])) | (with_reducible refine condE_dec (fun g => ?_) (fun g => ?_) <;> try (exfalso; omega)) | (with_reducible refine condE_not (fun g => ?_) (fun g => ?_) <;> try (exfalso; omega)) | (simp -dsimp only [getRow_setRow, getRow_kill, hr, hr2, hne, h1, h2, h3, h4, h5, b1, b2, b3, b4, b5, b6, ht, ht2, if_true, if_false, Option.map_some, ↓wkA, ↓wkE, ↓wkJ, wkB, ↓tt, Nat.reduceBEq, Nat.reduceEqDiff, ↓reduceIte, Nat.reduceLT, Array.toList, Nat.reduceAdd, Nat.reduceMul, Int.reduceToNat, Int.reducePow, UInt8.reduceToNat]) | (refine call_h (builder_copyCheck (H := ⟨_, _, _, _⟩) hr hp ht) (fun res H' hR => ?_); obtain ⟨rfl, rfl⟩ := hR; refine ⟨_, _, rfl, ?_⟩) | (simp -dsimp (disch := first | assumption | omega) only [dec_t, dec_f])
    | (refine And.intro ?_ ?_
       · first | omega | decide | (simp (disch := omega) only [wkW, Int.reduceToNat, Int.reducePow] <;> omega) | (simp <;> omega)) | (simp (disch := omega) only [wkW, Int.reduceToNat, Int.reducePow]) | fail
  trace_state
def digs (b v : Nat) : List Nat := if h : v = 0 ∨ b < 2 then [] else (v % b) :: digs b (v / b)
termination_by v
decreasing_by exact Nat.div_lt_self (by omega) (by omega)
theorem digs_zero (b : Nat) : digs b 0 = [] := by rw [digs]; simp
theorem digs_step {b v : Nat} (hb : 2 ≤ b) (hv : v ≠ 0) : digs b v = (v % b) :: digs b (v / b) := by
  rw [digs, dif_neg (by omega)]
theorem digs_lt {b : Nat} (hb : 2 ≤ b) : ∀ v, ∀ d ∈ digs b v, d < b := by
  intro v
  induction v using Nat.strongRecOn with
  | _ v ih =>
    intro d hd
    by_cases h0 : v = 0
    · subst h0; rw [digs_zero] at hd; cases hd
    · rw [digs_step hb h0] at hd
      rcases List.mem_cons.1 hd with rfl | hd
      · exact Nat.mod_lt _ (by omega)
      · exact ih _ (Nat.div_lt_self (by omega) (by omega)) d hd
theorem digs_len {b : Nat} (hb : 2 ≤ b) : ∀ k v, v < 2 ^ k → (digs b v).length ≤ k := by
  intro k
  induction k with
  | zero => intro v hv; have : v = 0 := by simpa using hv
            subst this; simp [digs_zero]
  | succ k ih =>
    intro v hv
    by_cases h0 : v = 0
    · subst h0; simp [digs_zero]
    · rw [digs_step hb h0, List.length_cons]
      have : v / b ≤ v / 2 := Nat.div_le_div_left hb (by decide)
      have := ih (v / b) (by rw [Nat.pow_succ] at hv; omega)
      omega
theorem digs_part {b m r t : Nat} (hb : 2 ≤ b) (h : r ≠ 0 ∨ t ≠ 0) : digs b (r + b ^ (m + 1) * t) = (r % b) :: digs b (r / b + b ^ m * t) := by
  have hp := Nat.pow_pos (n := m + 1) (show 0 < b by omega)
  have e : b ^ (m + 1) * t = b * (b ^ m * t) := by rw [Nat.pow_succ]; grind
  have h0 : r + b ^ (m + 1) * t ≠ 0 := by
    rcases h with h | h
    · omega
    · have := Nat.mul_pos hp (Nat.pos_of_ne_zero h); omega
  rw [digs_step hb h0, e, Nat.add_mul_mod_self_left, Nat.add_mul_div_left _ _ (by omega)]
def smalls : List Int := [48, 49, 50, 51, 52, 53, 54, 55, 56, 57, 97, 98, 99, 100, 101, 102, 103, 104, 105, 106, 107, 108, 109, 110, 111, 112, 113, 114, 115, 116, 117, 118, 119, 120, 121, 122]
def larges : List Int := [48, 49, 50, 51, 52, 53, 54, 55, 56, 57, 65, 66, 67, 68, 69, 70, 71, 72, 73, 74, 75, 76, 77, 78, 79, 80, 81, 82, 83, 84, 85, 86, 87, 88, 89, 90]
def lettersOf (upper : Bool) : List Int := bif upper then larges else smalls
theorem lettersOf_len (u : Bool) : (lettersOf u).length = 36 := by cases u <;> rfl
theorem lettersOf_byte (u : Bool) : ∀ x ∈ lettersOf u, 0 ≤ x ∧ x < 256 := by cases u <;> decide
def text (b : Nat) (u : Bool) (v : Nat) : List Int := ((digs b v).map fun d => (lettersOf u).getD d 0).reverse
structure DivI (t0 t : List Int) (n i : Nat) (p rest : Int) : Prop where
  len : t.length = t0.length
  lim : Limbs t
  low : ∀ j, j < i → t.getD j 0 = t0.getD j 0
  rst : 0 ≤ rest ∧ rest < p
  eq : ∃ d, vt t n = vt t i + d ∧ vt t0 n = vt t i + d * p + rest * B64 ^ i
theorem vt_set_add (l : List Int) (i : Nat) (q : Int) (hi : i < l.length) : ∀ n, i < n → vt (l.set i q) n = vt l n + B64 ^ i * (q - l.getD i 0)
  | 0, h => by omega
  | n + 1, h => by
    simp only [vt]
    by_cases e : i = n
    · subst e
      rw [vt_set_ge _ _ _ _ hi (Nat.le_refl _), getD_set _ _ _ _ hi, if_pos rfl]
      grind
    · rw [vt_set_add l i q hi n (by omega), getD_set _ _ _ _ hi, if_neg (by omega)]
      grind
theorem DivI.start {t : List Int} {n : Nat} {p : Int} (h : Limbs t) (hp : 0 < p) : DivI t t n n p 0 :=
  ⟨rfl, h, fun _ _ => rfl, ⟨by omega, hp⟩, 0, by omega, by simp⟩
theorem DivI.step {t0 t : List Int} {n i : Nat} {p rest : Int} (h : DivI t0 t n (i + 1) p rest) (hi : i < t.length) (hin : i < n) (hp : 0 < p ∧ p < B64) :
    DivI t0 (t.set i ((rest * B64 + t.getD i 0) / p)) n i p ((rest * B64 + t.getD i 0) % p) := by
  obtain ⟨d, hd1, hd2⟩ := h.eq
  have hx := getD_limb h.lim i
  have hr := h.rst
  have e1 := Int.emod_add_mul_ediv (rest * B64 + t.getD i 0) p
  have e2 := Int.emod_nonneg (rest * B64 + t.getD i 0) (show p ≠ 0 by omega)
  have e3 := Int.emod_lt_of_pos (rest * B64 + t.getD i 0) hp.1
  have hB : (0 : Int) < B64 := by decide
  have hq0 : 0 ≤ (rest * B64 + t.getD i 0) / p := Int.ediv_nonneg (by have := Int.mul_nonneg hr.1 (Int.le_of_lt hB); omega) (by omega)
  have hq1 : (rest * B64 + t.getD i 0) / p < B64 := by
    rw [Int.ediv_lt_iff_lt_mul hp.1]
    have : (rest + 1) * B64 ≤ p * B64 := Int.mul_le_mul_of_nonneg_right (by omega) (Int.le_of_lt hB)
    have : (rest + 1) * B64 = rest * B64 + B64 := by grind
    have : B64 * p = p * B64 := Int.mul_comm _ _
    omega
  refine ⟨by rw [List.length_set]; exact h.len, limbs_set h.lim i ⟨hq0, hq1⟩, fun j hj => ?_, ⟨e2, e3⟩, d + B64 ^ i * ((rest * B64 + t.getD i 0) / p), ?_, ?_⟩
  · rw [getD_set _ _ _ _ hi, if_neg (by omega)]; exact h.low j (by omega)
  · rw [vt_set_add _ _ _ hi n hin, vt_set_ge _ _ _ _ hi (Nat.le_refl _), hd1]
    simp only [vt]; grind
  · rw [vt_set_ge _ _ _ _ hi (Nat.le_refl _), hd2]
    simp only [vt, Int.pow_succ]
    generalize (rest * B64 + t.getD i 0) / p = q at *
    generalize (rest * B64 + t.getD i 0) % p = r at *
    have : rest * (B64 ^ i * B64) + B64 ^ i * t.getD i 0 = B64 ^ i * (r + p * q) := by rw [e1]; grind
    grind
theorem DivI.fin {t0 t : List Int} {n : Nat} {p rest : Int} (h : DivI t0 t n 0 p rest) : vt t n = vt t0 n / p ∧ rest = vt t0 n % p := by
  obtain ⟨d, hd1, hd2⟩ := h.eq
  have hr := h.rst
  have hv0 : vt t 0 = 0 := rfl
  rw [hv0] at hd1 hd2
  simp only [Int.pow_zero, Int.mul_one, Int.zero_add] at hd1 hd2
  have := (Int.ediv_emod_unique (a := vt t0 n) (r := rest) (q := d) (b := p) (by omega)).2 ⟨by rw [hd2, Int.mul_comm p d, Int.add_comm], hr.1, hr.2⟩
  exact ⟨by rw [hd1]; exact this.1.symm, this.2.symm⟩
def worth (c : Int) : Int := if 48 ≤ c ∧ c ≤ 57 then c - 48 else if 97 ≤ c ∧ c ≤ 122 then c - 87 else if 65 ≤ c ∧ c ≤ 90 then c - 55 else 36
theorem numeral_worth (c : Int) (hc : 0 ≤ c ∧ c < 256) : Meets Tryz.prog 109 [.int .u8 c] (.int .i64 (worth c)) := by
  refine meets_by ttOk Tryz.func109 Tryz.ntmps109 Tryz.results109 (by kernel_rfl) (c := _) rfl rfl rfl fun E => ?_
  simp only [argsFrame]
  repeat' first
    | (simp (disch := omega) only [wkW, Int.reduceToNat, Int.reducePow])
    | (with_reducible first | refine PW.seq ?_ | refine PW.block ?_ | refine PW.fork ?_ | refine PW.skip ?_ | refine PW.exit ?_ | refine PW.ret ?_ | refine PW.scope ?_ | refine PW.label ?_ | refine PW.goto ?_)
    | (with_reducible refine PW.region ttOk ?_ ?_
       · rfl)
    | (with_reducible refine PW.regionD ttOk mixed ?_ ?_ ?_
       · rfl
       · rfl) | (with_reducible refine ifW_dec (fun g => ?_) (fun g => ?_) <;> first | (exfalso; omega) | (simp -dsimp only [g, wkI])) | (with_reducible refine condE_dec (fun g => ?_) (fun g => ?_) <;> try (exfalso; omega)) | (with_reducible refine condE_not (fun g => ?_) (fun g => ?_) <;> try (exfalso; omega)) | (simp -dsimp only [↓wkA, ↓wkE, ↓wkJ, wkB, ↓tt, Nat.reduceBEq, Nat.reduceEqDiff, ↓reduceIte, Nat.reduceLT, Array.toList, Nat.reduceAdd, Nat.reduceMul, Int.reduceToNat, Int.reducePow, UInt8.reduceToNat]) | (simp -dsimp (disch := first | assumption | omega) only [dec_t, dec_f])
    | (refine And.intro ?_ ?_
       · first | omega | decide | (simp (disch := omega) only [wkW, Int.reduceToNat, Int.reducePow] <;> omega) | (simp <;> omega)) | (simp (disch := omega) only [wkW, Int.reduceToNat, Int.reducePow]) | fail
  all_goals
    refine congrArg _ ?_
    unfold worth
    repeat' split
    all_goals omega
theorem worth_nonneg (c : Int) : 0 ≤ worth c := by
  unfold worth
  repeat' split
  all_goals omega
def numN (b : Nat) (s : List Int) : Nat → Nat
  | 0 => 0
  | i + 1 => numN b s i * b + (worth (s.getD i 0)).toNat
def num (b : Nat) (s : List Int) : Nat := numN b s s.length
theorem numN_mono (b : Nat) (hb : 1 ≤ b) (s : List Int) (i : Nat) : ∀ d, numN b s i ≤ numN b s (i + d)
  | 0 => Nat.le_refl _
  | d + 1 => by
    have := numN_mono b hb s i d
    rw [show i + (d + 1) = (i + d) + 1 by omega]
    simp only [numN]
    have h2 : numN b s (i + d) * 1 ≤ numN b s (i + d) * b := Nat.mul_le_mul_left _ hb
    omega
def natL (v : Nat) : List Int := (digs 18446744073709551616 v).map fun (d : Nat) => (d : Int)
def Nrm (a : List Int) : Prop := a.length ≠ 0 → B64 ^ (a.length - 1) ≤ val a
theorem vt_cons (x : Int) (l : List Int) : ∀ n, vt (x :: l) (n + 1) = x + B64 * vt l n
  | 0 => by simp [vt]
  | n + 1 => by
    have ih := vt_cons x l n
    have e1 : vt (x :: l) (n + 1 + 1) = vt (x :: l) (n + 1) + B64 ^ (n + 1) * (x :: l).getD (n + 1) 0 := rfl
    have e2 : vt l (n + 1) = vt l n + B64 ^ n * l.getD n 0 := rfl
    rw [e1, e2, ih, Int.pow_succ, List.getD_cons_succ]
    grind
theorem val_cons (x : Int) (l : List Int) : val (x :: l) = x + B64 * val l := vt_cons x l l.length
theorem natL_val {a : List Int} (ha : Limbs a) (hn : Nrm a) : a = natL (val a).toNat := by
  induction a with
  | nil => simp [val, vt, natL, digs_zero]
  | cons x l ih =>
    have hx := ha x (by simp)
    have hl : Limbs l := fun y hy => ha y (by simp [hy])
    have hlv := vt_bound hl l.length
    have hv := val_cons x l
    have h1 := hn (by simp)
    have hnl : Nrm l := fun h0 => by
      simp only [List.length_cons, Nat.add_sub_cancel] at h1
      obtain ⟨m, hm⟩ : ∃ m, l.length = m + 1 := ⟨l.length - 1, by omega⟩
      rw [hm, Int.pow_succ, hv] at h1
      rw [hm, Nat.add_sub_cancel]
      simp only [B64] at h1 ⊢
      omega
    have e := ih hl hnl
    have hvn : 0 ≤ val l := hlv.1
    have hne : (val (x :: l)).toNat ≠ 0 := by
      have : 0 < B64 ^ ((x :: l).length - 1) := pow_pos64 _
      omega
    have hm : (val (x :: l)).toNat % 18446744073709551616 = x.toNat := by rw [hv]; simp only [B64]; omega
    have hd : (val (x :: l)).toNat / 18446744073709551616 = (val l).toNat := by rw [hv]; simp only [B64]; omega
    unfold natL at e ⊢
    rw [digs_step (b := 18446744073709551616) (by decide) hne, hm, hd, List.map_cons, ← e]
    congr 1
    omega
theorem nrm_of_top {a : List Int} (ha : Limbs a) (h : a.length ≠ 0 → a.getD (a.length - 1) 0 ≠ 0) : Nrm a := by
  intro h0
  obtain ⟨m, hm⟩ : ∃ m, a.length = m + 1 := ⟨a.length - 1, by omega⟩
  have h1 := h h0
  rw [hm, Nat.add_sub_cancel] at h1 ⊢
  have h2 := getD_limb ha m
  have h3 := vt_bound ha m
  have h4 : B64 ^ m * 1 ≤ B64 ^ m * a.getD m 0 := Int.mul_le_mul_of_nonneg_left (by omega) (Int.le_of_lt (pow_pos64 m))
  have h5 : val a = vt a m + B64 ^ m * a.getD m 0 := by unfold val; rw [hm]; rfl
  omega
theorem val_trim (a : List Int) : val (trim a) = val a := by
  have h := size_le a
  have hl : (trim a).length = size a := by simp [trim]; omega
  unfold val
  rw [hl]
  refine Eq.trans ?_ (vt_size a)
  exact vt_same _ fun j hj => by simp [trim, List.getD_eq_getElem?_getD, List.getElem?_take, hj]
theorem limbs_trim {a : List Int} (ha : Limbs a) : Limbs (trim a) := limbs_take ha _
theorem nrm_trim {a : List Int} (ha : Limbs a) : Nrm (trim a) := by
  refine nrm_of_top (limbs_trim ha) fun h0 => ?_
  have h := size_le a
  have hl : (trim a).length = size a := by simp [trim]; omega
  rw [hl] at h0 ⊢
  have := sizeN_top a a.length h0
  simp only [trim, List.getD_eq_getElem?_getD, List.getElem?_take] at this ⊢
  rw [if_pos (by omega)]; exact this
theorem trim_eq {a : List Int} (ha : Limbs a) : trim a = natL (val a).toNat := by
  have := natL_val (limbs_trim ha) (nrm_trim ha)
  rwa [val_trim] at this
structure MulA (a t : List Int) (f p0 : Int) (j : Nat) (p : Int) : Prop where
  len : t.length = a.length
  lim : Limbs t
  high : ∀ i, j ≤ i → t.getD i 0 = a.getD i 0
  car : 0 ≤ p ∧ p < B64
  eq : vt t j + B64 ^ j * p = vt a j * f + p0
theorem MulA.start {a : List Int} {f p0 : Int} (ha : Limbs a) (hp : 0 ≤ p0 ∧ p0 < B64) : MulA a a f p0 0 p0 :=
  ⟨rfl, ha, fun _ _ => rfl, hp, by simp [vt]⟩
theorem MulA.step {a t : List Int} {f p0 p : Int} {j : Nat} (h : MulA a t f p0 j p) (ha : Limbs a) (hj : j < a.length) (hf : 0 < f ∧ f < B64) :
    MulA a (t.set j ((a.getD j 0 * f + p) % B64)) f p0 (j + 1) ((a.getD j 0 * f + p) / B64) := by
  have hx := getD_limb ha j
  have hc := h.car
  have hjt : j < t.length := by rw [h.len]; exact hj
  have hB : (0 : Int) < B64 := by decide
  have hxf : 0 ≤ a.getD j 0 * f := Int.mul_nonneg hx.1 (by omega)
  have hxf2 : a.getD j 0 * f ≤ (B64 - 1) * (B64 - 1) := Int.mul_le_mul (by omega) (by omega) (by omega) (by omega)
  have e := Int.emod_add_mul_ediv (a.getD j 0 * f + p) B64
  have e1 := Int.emod_nonneg (a.getD j 0 * f + p) (show B64 ≠ 0 by decide)
  have e2 := Int.emod_lt_of_pos (a.getD j 0 * f + p) hB
  refine ⟨by rw [List.length_set]; exact h.len, limbs_set h.lim j ⟨e1, e2⟩, fun i hi => ?_, ⟨Int.ediv_nonneg (by omega) (by decide), ?_⟩, ?_⟩
  · rw [getD_set _ _ _ _ hjt, if_neg (by omega)]; exact h.high i (by omega)
  · simp only [B64] at *; omega
  · simp only [vt]
    rw [vt_set_ge _ _ _ _ hjt (Nat.le_refl _), getD_set _ _ _ _ hjt, if_pos rfl, Int.pow_succ]
    have h3 := h.eq
    generalize (a.getD j 0 * f + p) % B64 = r at *
    generalize (a.getD j 0 * f + p) / B64 = q at *
    have e3 : B64 ^ j * r + B64 ^ j * B64 * q = B64 ^ j * (r + B64 * q) := by grind
    rw [Int.add_assoc, e3, e]
    grind
def Bytes' (l : List Int) : Prop := ∀ c ∈ l, 0 ≤ c ∧ c < 256
theorem getD_byte' {l : List Int} (hb : Bytes' l) {i : Nat} (h : i < l.length) : 0 ≤ l.getD i 0 ∧ l.getD i 0 < 256 := by
  rw [List.getD_eq_getElem?_getD, List.getElem?_eq_getElem h]; exact hb _ (List.getElem_mem h)
abbrev ff1 (s : List Int) (base : Int) (i : Nat) : PV.Frame := [(7, .int .i64 (i : Int)), (0, .str s), (1, .int .i64 base)]
def IFaul (s : List Int) (base : Int) (i0 m : Nat) (F : PV.Frame) (H : PV.Heap) : Prop :=
  ∃ i, i + m = i0 ∧ F = ff1 s base i ∧ H = ⟨0, [], [], []⟩
abbrev ffO (b k : Nat) (s : List Int) (i n : Nat) : PV.Frame := [(11, .int .i64 (i : Int)), (10, .sl 0 0 n true), (9, .int .i64 (k : Int)), (0, .str s), (1, .int .i64 (b : Int))]
abbrev fhO (a : List Int) : PV.Heap := ⟨1, [(0, .ints .u64 a)], [], []⟩
def FOut (b k : Nat) (s : List Int) (m : Nat) (F : PV.Frame) (H : PV.Heap) : Prop :=
  ∃ i a, i + m = s.length ∧ Limbs a ∧ Nrm a ∧ val a = (numN b s i : Int) ∧ a.length ≤ 4096 ∧ F = ffO b k s i a.length ∧ H = fhO a
def FDig (b k : Nat) (s a : List Int) (i0 m : Nat) (F : PV.Frame) (H : PV.Heap) : Prop :=
  ∃ j part : Nat, j + m = k ∧ i0 + j ≤ s.length ∧ part < b ^ j ∧ numN b s i0 * b ^ j + part = numN b s (i0 + j) ∧
    F = (14, .int .i64 (j : Int)) :: (12, .int .u64 (part : Int)) :: (13, .int .u64 ((b ^ j : Nat) : Int)) :: ffO b k s (i0 + j) a.length ∧ H = fhO a
def FMul (b k : Nat) (s a : List Int) (i : Nat) (f p0 : Int) (m : Nat) (F : PV.Frame) (H : PV.Heap) : Prop :=
  ∃ j t p, j + m = a.length ∧ MulA a t f p0 j p ∧ F = (79, .int .i64 (j : Int)) :: (78, .int .i64 (a.length : Int)) :: (12, .int .u64 p) :: (13, .int .u64 f) :: ffO b k s i a.length ∧ H = fhO t
theorem nrm_bound {a : List Int} (hn : Nrm a) {k : Nat} (h : val a < B64 ^ k) : a.length ≤ k := by
  rcases Nat.lt_or_ge k a.length with h1 | h1
  · exfalso
    have h2 := hn (by omega)
    have h3 := pow_mono64 (show k ≤ a.length - 1 by omega)
    omega
  · exact h1
set_option maxHeartbeats 1000000 in
theorem from_base_main (s : List Int) (hs : Bytes' s) (hsl : s.length ≤ 1000000000000000) (b : Nat) (hb : 2 ≤ b ∧ b ≤ 36) (hne : s ≠ []) (hok : ∀ j, j < s.length → worth (s.getD j 0) < b)
    (R : PV) (hR1 : ((num b s : Nat) : Int) < B64 ^ 4096 → R = .tup [.ints .u64 (natL (num b s)), .int .i64 0, .int .i64 0]) (hR2 : ¬ ((num b s : Nat) : Int) < B64 ^ 4096 → R = .tup [.nil, .int .i64 0, .int .i64 2]) :
    Meets Tryz.prog 59 [.str s, .int .i64 (b : Int)] R := by
  refine meets_by ttOk Tryz.func59 Tryz.ntmps59 Tryz.results59 (by kernel_rfl) (c := _) rfl rfl rfl fun E => ?_
  simp only [argsFrame]
  have hd : decide (s = []) = false := by simp [hne]
  obtain ⟨k, hk1, hk2, hk3, hk4, hk5⟩ := chunk_ex b hb
  have hchunk := numeral_chunk b k hb hk1 hk2 hk3 hk4 hk5
  repeat' first
    | (simp only [bytesI_mk, List.map_nil, hd, condE_f])
    | (with_reducible first | refine PW.seq ?_ | refine PW.block ?_ | refine PW.fork ?_ | refine PW.skip ?_ | refine PW.exit ?_ | refine PW.ret ?_ | refine PW.scope ?_ | refine PW.label ?_ | refine PW.goto ?_)
    | (with_reducible refine PW.region ttOk ?_ ?_
       · rfl)
    | (with_reducible refine PW.regionD ttOk mixed ?_ ?_ ?_
       · rfl
       · rfl) | (with_reducible refine ifW_dec (fun g => ?_) (fun g => ?_) <;> first | (exfalso; omega) | (simp -dsimp only [g, wkI])) | (with_reducible refine condE_dec (fun g => ?_) (fun g => ?_) <;> try (exfalso; omega)) | (with_reducible refine condE_not (fun g => ?_) (fun g => ?_) <;> try (exfalso; omega)) | (simp -dsimp only [↓wkA, ↓wkE, ↓wkJ, wkB, ↓tt, Nat.reduceBEq, Nat.reduceEqDiff, ↓reduceIte, Nat.reduceLT, Array.toList, Nat.reduceAdd, Nat.reduceMul, Int.reduceToNat, Int.reducePow, UInt8.reduceToNat]) | (simp -dsimp (disch := first | assumption | omega) only [dec_t, dec_f])
    | (refine And.intro ?_ ?_
       · first | omega | decide | (simp (disch := omega) only [wkW, Int.reduceToNat, Int.reducePow] <;> omega) | (simp <;> omega)) | (simp (disch := omega) only [wkW, Int.reduceToNat, Int.reducePow]) | fail
  refine PW.meetB (fun F H => F = [(0, .str s), (1, .int .i64 (b : Int))] ∧ H = ⟨0, [], [], []⟩) ?_ ?_
  · refine PW.loopA (IFaul s b s.length) s.length (ff1 s b 0) ⟨0, [], [], []⟩ (Sub.norm ⟨rfl, rfl, rfl, trivial⟩ trivial (Nat.le_refl _) rfl rfl rfl rfl) ⟨0, by omega, rfl, rfl⟩ ?_
    rintro m F H ⟨i, hi, rfl, rfl⟩
    by_cases hlast : i = s.length
    · skip
      repeat' first
        | (with_reducible first | refine PW.seq ?_ | refine PW.block ?_ | refine PW.fork ?_ | refine PW.skip ?_ | refine PW.exit ?_ | refine PW.ret ?_ | refine PW.scope ?_ | refine PW.label ?_ | refine PW.goto ?_)
        | (with_reducible refine PW.region ttOk ?_ ?_
           · rfl)
        | (with_reducible refine PW.regionD ttOk mixed ?_ ?_ ?_
           · rfl
           · rfl) | (with_reducible refine ifW_dec (fun g => ?_) (fun g => ?_) <;> first | (exfalso; omega) | (simp -dsimp only [g, wkI])) | (with_reducible refine condE_dec (fun g => ?_) (fun g => ?_) <;> try (exfalso; omega)) | (with_reducible refine condE_not (fun g => ?_) (fun g => ?_) <;> try (exfalso; omega)) | (simp -dsimp only [↓wkA, ↓wkE, ↓wkJ, wkB, ↓tt, Nat.reduceBEq, Nat.reduceEqDiff, ↓reduceIte, Nat.reduceLT, Array.toList, Nat.reduceAdd, Nat.reduceMul, Int.reduceToNat, Int.reducePow, UInt8.reduceToNat]) | (simp -dsimp (disch := first | assumption | omega) only [dec_t, dec_f])
        | (refine And.intro ?_ ?_
           · first | omega | decide | (simp (disch := omega) only [wkW, Int.reduceToNat, Int.reducePow] <;> omega) | (simp <;> omega)) | (simp (disch := omega) only [wkW, Int.reduceToNat, Int.reducePow]) | fail
      exact Meet.mk [(0, .str s), (1, .int .i64 (b : Int))] ⟨0, [], [], []⟩ (Sub.norm ⟨rfl, rfl, trivial⟩ trivial (Nat.le_refl _) rfl rfl rfl rfl) ⟨rfl, rfl⟩
    · have := hok i (by omega)
      have hw := numeral_worth (s.getD i 0) (getD_byte' hs (by omega))
      repeat' first
        | (with_reducible first | refine PW.seq ?_ | refine PW.block ?_ | refine PW.fork ?_ | refine PW.skip ?_ | refine PW.exit ?_ | refine PW.ret ?_ | refine PW.scope ?_ | refine PW.label ?_ | refine PW.goto ?_)
        | (with_reducible refine PW.region ttOk ?_ ?_
           · rfl)
        | (with_reducible refine PW.regionD ttOk mixed ?_ ?_ ?_
           · rfl
           · rfl) | (with_reducible refine ifW_dec (fun g => ?_) (fun g => ?_) <;> first | (exfalso; omega) | (simp -dsimp only [g, wkI])) | (with_reducible refine condE_dec (fun g => ?_) (fun g => ?_) <;> try (exfalso; omega)) | (with_reducible refine condE_not (fun g => ?_) (fun g => ?_) <;> try (exfalso; omega)) | (simp -dsimp only [↓wkA, ↓wkE, ↓wkJ, wkB, ↓tt, Nat.reduceBEq, Nat.reduceEqDiff, ↓reduceIte, Nat.reduceLT, Array.toList, Nat.reduceAdd, Nat.reduceMul, Int.reduceToNat, Int.reducePow, UInt8.reduceToNat]) | (refine call_by hw (views_data rfl) ⟨trivial, trivial⟩ rfl ?_) | (simp -dsimp (disch := first | assumption | omega) only [dec_t, dec_f])
        | (refine And.intro ?_ ?_
           · first | omega | decide | (simp (disch := omega) only [wkW, Int.reduceToNat, Int.reducePow] <;> omega) | (simp <;> omega)) | (simp (disch := omega) only [wkW, Int.reduceToNat, Int.reducePow]) | fail
      exact Again.mk (m - 1) (ff1 s b (i + 1)) ⟨0, [], [], []⟩ (by omega) (Sub.norm ⟨rfl, rfl, rfl, trivial⟩ trivial (Nat.le_refl _) rfl rfl rfl rfl) ⟨i + 1, by omega, rfl, rfl⟩
  rintro F H ⟨rfl, rfl⟩
  repeat' first
    | (with_reducible first | refine PW.seq ?_ | refine PW.block ?_ | refine PW.fork ?_ | refine PW.skip ?_ | refine PW.exit ?_ | refine PW.ret ?_ | refine PW.scope ?_ | refine PW.label ?_ | refine PW.goto ?_)
    | (with_reducible refine PW.region ttOk ?_ ?_
       · rfl)
    | (with_reducible refine PW.regionD ttOk mixed ?_ ?_ ?_
       · rfl
       · rfl) | (with_reducible refine ifW_dec (fun g => ?_) (fun g => ?_) <;> first | (exfalso; omega) | (simp -dsimp only [g, wkI])) | (with_reducible refine condE_dec (fun g => ?_) (fun g => ?_) <;> try (exfalso; omega)) | (with_reducible refine condE_not (fun g => ?_) (fun g => ?_) <;> try (exfalso; omega)) | (simp -dsimp only [↓wkA, ↓wkE, ↓wkJ, wkB, ↓tt, Nat.reduceBEq, Nat.reduceEqDiff, ↓reduceIte, Nat.reduceLT, Array.toList, Nat.reduceAdd, Nat.reduceMul, Int.reduceToNat, Int.reducePow, UInt8.reduceToNat]) | (refine call_by hchunk (views_data rfl) ⟨trivial, trivial⟩ rfl ?_) | (simp -dsimp (disch := first | assumption | omega) only [dec_t, dec_f])
    | (refine And.intro ?_ ?_
       · first | omega | decide | (simp (disch := omega) only [wkW, Int.reduceToNat, Int.reducePow] <;> omega) | (simp <;> omega)) | (simp (disch := omega) only [wkW, Int.reduceToNat, Int.reducePow]) | fail
  refine PW.meetB (fun F H => ∃ a, Limbs a ∧ Nrm a ∧ val a = (num b s : Int) ∧ a.length ≤ 4096 ∧ F = [(10, .sl 0 0 a.length true)] ∧ H = fhO a) ?_ ?_
  · refine PW.loopA (FOut b k s) s.length (ffO b k s 0 0) (fhO []) (Sub.trans (Sub.nilVar 10 27 .u64 rfl) (Sub.norm ⟨rfl, rfl, rfl, rfl, rfl, trivial⟩ ⟨rfl, trivial⟩ (Nat.le_refl _) rfl rfl rfl rfl)) ⟨0, [], by omega, (fun x hx => by cases hx), (fun h => absurd rfl h), rfl, by simp, rfl, rfl⟩ ?_
    rintro m F H ⟨i, a, hi, haL, haN, hav, hal, rfl, rfl⟩
    by_cases hlast : i = s.length
    · subst hlast
      repeat' first
        | (with_reducible first | refine PW.seq ?_ | refine PW.block ?_ | refine PW.fork ?_ | refine PW.skip ?_ | refine PW.exit ?_ | refine PW.ret ?_ | refine PW.scope ?_ | refine PW.label ?_ | refine PW.goto ?_)
        | (with_reducible refine PW.region ttOk ?_ ?_
           · rfl)
        | (with_reducible refine PW.regionD ttOk mixed ?_ ?_ ?_
           · rfl
           · rfl) | (with_reducible refine ifW_dec (fun g => ?_) (fun g => ?_) <;> first | (exfalso; omega) | (simp -dsimp only [g, wkI])) | (with_reducible refine condE_dec (fun g => ?_) (fun g => ?_) <;> try (exfalso; omega)) | (with_reducible refine condE_not (fun g => ?_) (fun g => ?_) <;> try (exfalso; omega)) | (simp -dsimp only [↓wkA, ↓wkE, ↓wkJ, wkB, ↓tt, Nat.reduceBEq, Nat.reduceEqDiff, ↓reduceIte, Nat.reduceLT, Array.toList, Nat.reduceAdd, Nat.reduceMul, Int.reduceToNat, Int.reducePow, UInt8.reduceToNat]) | (simp -dsimp (disch := first | assumption | omega) only [dec_t, dec_f])
        | (refine And.intro ?_ ?_
           · first | omega | decide | (simp (disch := omega) only [wkW, Int.reduceToNat, Int.reducePow] <;> omega) | (simp <;> omega)) | (simp (disch := omega) only [wkW, Int.reduceToNat, Int.reducePow]) | fail
      exact Meet.mk [(10, .sl 0 0 a.length true)] (fhO a) (Sub.norm ⟨rfl, trivial⟩ ⟨rfl, trivial⟩ (Nat.le_refl _) rfl rfl rfl rfl) ⟨a, haL, haN, hav, hal, rfl, rfl⟩
    repeat' first
      | (with_reducible first | refine PW.seq ?_ | refine PW.block ?_ | refine PW.fork ?_ | refine PW.skip ?_ | refine PW.exit ?_ | refine PW.ret ?_ | refine PW.scope ?_ | refine PW.label ?_ | refine PW.goto ?_)
      | (with_reducible refine PW.region ttOk ?_ ?_
         · rfl)
      | (with_reducible refine PW.regionD ttOk mixed ?_ ?_ ?_
         · rfl
         · rfl) | (with_reducible refine ifW_dec (fun g => ?_) (fun g => ?_) <;> first | (exfalso; omega) | (simp -dsimp only [g, wkI])) | (with_reducible refine condE_dec (fun g => ?_) (fun g => ?_) <;> try (exfalso; omega)) | (with_reducible refine condE_not (fun g => ?_) (fun g => ?_) <;> try (exfalso; omega)) | (simp -dsimp only [↓wkA, ↓wkE, ↓wkJ, wkB, ↓tt, Nat.reduceBEq, Nat.reduceEqDiff, ↓reduceIte, Nat.reduceLT, Array.toList, Nat.reduceAdd, Nat.reduceMul, Int.reduceToNat, Int.reducePow, UInt8.reduceToNat]) | (simp -dsimp (disch := first | assumption | omega) only [dec_t, dec_f])
      | (refine And.intro ?_ ?_
         · first | omega | decide | (simp (disch := omega) only [wkW, Int.reduceToNat, Int.reducePow] <;> omega) | (simp <;> omega)) | (simp (disch := omega) only [wkW, Int.reduceToNat, Int.reducePow]) | fail
    -- a chunk of digits
    refine PW.meetB (fun F H => ∃ j part : Nat, j ≠ 0 ∧ j ≤ k ∧ i + j ≤ s.length ∧ part < b ^ j ∧ numN b s i * b ^ j + part = numN b s (i + j) ∧ F = (12, .int .u64 (part : Int)) :: (13, .int .u64 ((b ^ j : Nat) : Int)) :: ffO b k s (i + j) a.length ∧ H = fhO a) ?_ ?_
    · refine PW.loopA (FDig b k s a i) k ((14, .int .i64 ((0 : Nat) : Int)) :: (12, .int .u64 ((0 : Nat) : Int)) :: (13, .int .u64 ((b ^ 0 : Nat) : Int)) :: ffO b k s (i + 0) a.length) (fhO a) (Sub.norm ⟨rfl, rfl, rfl, rfl, rfl, rfl, rfl, rfl, trivial⟩ ⟨rfl, trivial⟩ (Nat.le_refl _) rfl rfl rfl rfl) ⟨0, 0, by omega, by omega, by simp, by simp, rfl, rfl⟩ ?_
      rintro m2 F H ⟨j, part, hjm, hjs, hpl, hpe, rfl, rfl⟩
      by_cases hgo : j < k ∧ i + j < s.length
      · have hwj := hok (i + j) (by omega)
        have hw0 := worth_nonneg (s.getD (i + j) 0)
        have hw := numeral_worth (s.getD (i + j) 0) (getD_byte' hs (by omega))
        obtain ⟨d, hd2⟩ := Int.eq_ofNat_of_zero_le hw0
        rw [hd2] at hw hwj
        have hpow : b ^ (j + 1) ≤ b ^ k := Nat.pow_le_pow_right (by omega) (by omega)
        have hps : b ^ (j + 1) = b ^ j * b := Nat.pow_succ b j
        have hpb : part * b + d < b ^ (j + 1) := by
          have : (part + 1) * b ≤ b ^ j * b := Nat.mul_le_mul_right _ (by omega)
          rw [Nat.add_mul] at this
          omega
        have hb64 : IntKind.wrap .u64 (b : Int) = (b : Int) := wrap_u64 (by omega)
        have e1 : ((part : Nat) : Int) * (b : Int) = ((part * b : Nat) : Int) := by simp
        have e2 : ((b ^ j : Nat) : Int) * (b : Int) = ((b ^ (j + 1) : Nat) : Int) := by rw [hps]; simp
        have e3 : ((part * b : Nat) : Int) + (d : Int) = ((part * b + d : Nat) : Int) := by simp
        have w1 : IntKind.wrap .u64 ((part * b : Nat) : Int) = ((part * b : Nat) : Int) := wrap_u64 (by omega)
        have w2 : IntKind.wrap .u64 ((b ^ (j + 1) : Nat) : Int) = ((b ^ (j + 1) : Nat) : Int) := wrap_u64 (by omega)
        have w3 : IntKind.wrap .u64 ((part * b + d : Nat) : Int) = ((part * b + d : Nat) : Int) := wrap_u64 (by omega)
        have w4 : IntKind.wrap .u64 (d : Int) = (d : Int) := wrap_u64 (by omega)
        have e5 : ((i + j : Nat) : Int).toNat = i + j := Int.toNat_natCast _
        repeat' first
          | (simp only [hb64, e1, e2, e3, w1, w2, w3, w4, e5])
          | (with_reducible first | refine PW.seq ?_ | refine PW.block ?_ | refine PW.fork ?_ | refine PW.skip ?_ | refine PW.exit ?_ | refine PW.ret ?_ | refine PW.scope ?_ | refine PW.label ?_ | refine PW.goto ?_)
          | (with_reducible refine PW.region ttOk ?_ ?_
             · rfl)
          | (with_reducible refine PW.regionD ttOk mixed ?_ ?_ ?_
             · rfl
             · rfl) | (with_reducible refine ifW_dec (fun g => ?_) (fun g => ?_) <;> first | (exfalso; omega) | (simp -dsimp only [g, wkI])) | (with_reducible refine condE_dec (fun g => ?_) (fun g => ?_) <;> try (exfalso; omega)) | (with_reducible refine condE_not (fun g => ?_) (fun g => ?_) <;> try (exfalso; omega)) | (simp -dsimp only [↓wkA, ↓wkE, ↓wkJ, wkB, ↓tt, Nat.reduceBEq, Nat.reduceEqDiff, ↓reduceIte, Nat.reduceLT, Array.toList, Nat.reduceAdd, Nat.reduceMul, Int.reduceToNat, Int.reducePow, UInt8.reduceToNat]) | (refine call_by hw (views_data rfl) ⟨trivial, trivial⟩ rfl ?_) | (simp -dsimp (disch := first | assumption | omega) only [dec_t, dec_f])
          | (refine And.intro ?_ ?_
             · first | omega | decide | (simp (disch := omega) only [wkW, Int.reduceToNat, Int.reducePow] <;> omega) | (simp <;> omega)) | (simp (disch := omega) only [wkW, Int.reduceToNat, Int.reducePow]) | fail
        refine Again.mk (m2 - 1) ((14, .int .i64 ((j + 1 : Nat) : Int)) :: (12, .int .u64 ((part * b + d : Nat) : Int)) :: (13, .int .u64 ((b ^ (j + 1) : Nat) : Int)) :: ffO b k s (i + (j + 1)) a.length) (fhO a) (by omega) (Sub.norm ⟨rfl, rfl, rfl, rfl, rfl, rfl, rfl, rfl, trivial⟩ ⟨rfl, trivial⟩ (Nat.le_refl _) rfl rfl rfl rfl) ⟨j + 1, part * b + d, by omega, by omega, hpb, ?_, rfl, rfl⟩
        rw [show i + (j + 1) = (i + j) + 1 by omega]
        simp only [numN]
        rw [hd2, Int.toNat_natCast, ← hpe, hps]
        grind
      · skip
        repeat' first
          | (with_reducible first | refine PW.seq ?_ | refine PW.block ?_ | refine PW.fork ?_ | refine PW.skip ?_ | refine PW.exit ?_ | refine PW.ret ?_ | refine PW.scope ?_ | refine PW.label ?_ | refine PW.goto ?_)
          | (with_reducible refine PW.region ttOk ?_ ?_
             · rfl)
          | (with_reducible refine PW.regionD ttOk mixed ?_ ?_ ?_
             · rfl
             · rfl) | (with_reducible refine ifW_dec (fun g => ?_) (fun g => ?_) <;> first | (exfalso; omega) | (simp -dsimp only [g, wkI])) | (with_reducible refine condE_dec (fun g => ?_) (fun g => ?_) <;> try (exfalso; omega)) | (with_reducible refine condE_not (fun g => ?_) (fun g => ?_) <;> try (exfalso; omega)) | (simp -dsimp only [↓wkA, ↓wkE, ↓wkJ, wkB, ↓tt, Nat.reduceBEq, Nat.reduceEqDiff, ↓reduceIte, Nat.reduceLT, Array.toList, Nat.reduceAdd, Nat.reduceMul, Int.reduceToNat, Int.reducePow, UInt8.reduceToNat]) | (simp -dsimp (disch := first | assumption | omega) only [dec_t, dec_f])
          | (refine And.intro ?_ ?_
             · first | omega | decide | (simp (disch := omega) only [wkW, Int.reduceToNat, Int.reducePow] <;> omega) | (simp <;> omega)) | (simp (disch := omega) only [wkW, Int.reduceToNat, Int.reducePow]) | fail
        all_goals exact Meet.mk ((12, .int .u64 (part : Int)) :: (13, .int .u64 ((b ^ j : Nat) : Int)) :: ffO b k s (i + j) a.length) (fhO a) (Sub.norm ⟨rfl, rfl, rfl, rfl, rfl, rfl, rfl, trivial⟩ ⟨rfl, trivial⟩ (Nat.le_refl _) rfl rfl rfl rfl) ⟨j, part, by omega, by omega, hjs, hpl, hpe, rfl, rfl⟩
    rintro F H ⟨j, part, hj0, hjk, hjs, hpl, hpe, rfl, rfl⟩
    have hf1 : 1 ≤ b ^ j := Nat.pow_pos (by omega)
    have hf2 : b ^ j < 18446744073709551616 := Nat.lt_of_le_of_lt (Nat.pow_le_pow_right (by omega) hjk) hk3
    obtain ⟨f, hf⟩ : ∃ f : Int, ((b ^ j : Nat) : Int) = f := ⟨_, rfl⟩
    have hf0 : 0 < f ∧ f < B64 := by simp only [B64]; omega
    have hf64 := hf0
    simp only [B64] at hf64
    simp only [hf]
    repeat' first
      | (with_reducible first | refine PW.seq ?_ | refine PW.block ?_ | refine PW.fork ?_ | refine PW.skip ?_ | refine PW.exit ?_ | refine PW.ret ?_ | refine PW.scope ?_ | refine PW.label ?_ | refine PW.goto ?_)
      | (with_reducible refine PW.region ttOk ?_ ?_
         · rfl)
      | (with_reducible refine PW.regionD ttOk mixed ?_ ?_ ?_
         · rfl
         · rfl) | (with_reducible refine ifW_dec (fun g => ?_) (fun g => ?_) <;> first | (exfalso; omega) | (simp -dsimp only [g, wkI])) | (with_reducible refine condE_dec (fun g => ?_) (fun g => ?_) <;> try (exfalso; omega)) | (with_reducible refine condE_not (fun g => ?_) (fun g => ?_) <;> try (exfalso; omega)) | (simp -dsimp only [↓wkA, ↓wkE, ↓wkJ, wkB, ↓tt, Nat.reduceBEq, Nat.reduceEqDiff, ↓reduceIte, Nat.reduceLT, Array.toList, Nat.reduceAdd, Nat.reduceMul, Int.reduceToNat, Int.reducePow, UInt8.reduceToNat]) | (simp -dsimp (disch := first | assumption | omega) only [dec_t, dec_f])
      | (refine And.intro ?_ ?_
         · first | omega | decide | (simp (disch := omega) only [wkW, Int.reduceToNat, Int.reducePow] <;> omega) | (simp <;> omega)) | (simp (disch := omega) only [wkW, Int.reduceToNat, Int.reducePow]) | fail
    refine PW.meetB (fun F H => ∃ t p, MulA a t f part a.length p ∧ F = (12, .int .u64 p) :: ffO b k s (i + j) a.length ∧ H = fhO t) ?_ ?_
    · refine PW.loopA (FMul b k s a (i + j) f part) a.length ((79, .int .i64 ((0 : Nat) : Int)) :: (78, .int .i64 (a.length : Int)) :: (12, .int .u64 (part : Int)) :: (13, .int .u64 f) :: ffO b k s (i + j) a.length) (fhO a) (Sub.norm ⟨rfl, rfl, rfl, rfl, rfl, rfl, rfl, rfl, rfl, trivial⟩ ⟨rfl, trivial⟩ (Nat.le_refl _) rfl rfl rfl rfl) ⟨0, a, part, by omega, MulA.start haL (by simp only [B64]; omega), rfl, rfl⟩ ?_
      rintro m2 F H ⟨jj, t, p, hjm, hmul, rfl, rfl⟩
      have htl := hmul.len
      have hcar := hmul.car
      by_cases hend : jj = a.length
      · subst hend
        repeat' first
          | (with_reducible first | refine PW.seq ?_ | refine PW.block ?_ | refine PW.fork ?_ | refine PW.skip ?_ | refine PW.exit ?_ | refine PW.ret ?_ | refine PW.scope ?_ | refine PW.label ?_ | refine PW.goto ?_)
          | (with_reducible refine PW.region ttOk ?_ ?_
             · rfl)
          | (with_reducible refine PW.regionD ttOk mixed ?_ ?_ ?_
             · rfl
             · rfl) | (with_reducible refine ifW_dec (fun g => ?_) (fun g => ?_) <;> first | (exfalso; omega) | (simp -dsimp only [g, wkI])) | (with_reducible refine condE_dec (fun g => ?_) (fun g => ?_) <;> try (exfalso; omega)) | (with_reducible refine condE_not (fun g => ?_) (fun g => ?_) <;> try (exfalso; omega)) | (simp -dsimp only [↓wkA, ↓wkE, ↓wkJ, wkB, ↓tt, Nat.reduceBEq, Nat.reduceEqDiff, ↓reduceIte, Nat.reduceLT, Array.toList, Nat.reduceAdd, Nat.reduceMul, Int.reduceToNat, Int.reducePow, UInt8.reduceToNat]) | (simp -dsimp (disch := first | assumption | omega) only [dec_t, dec_f])
          | (refine And.intro ?_ ?_
             · first | omega | decide | (simp (disch := omega) only [wkW, Int.reduceToNat, Int.reducePow] <;> omega) | (simp <;> omega)) | (simp (disch := omega) only [wkW, Int.reduceToNat, Int.reducePow]) | fail
        exact Meet.mk ((12, .int .u64 p) :: ffO b k s (i + j) a.length) (fhO t) (Sub.norm ⟨rfl, rfl, rfl, rfl, rfl, rfl, trivial⟩ ⟨rfl, trivial⟩ (Nat.le_refl _) rfl rfl rfl rfl) ⟨t, p, hmul, rfl, rfl⟩
      · have hx := getD_limb haL jj
        have hxt := hmul.high jj (Nat.le_refl _)
        have hstep := hmul.step haL (by omega) hf0
        have hm := mul64 (a.getD jj 0) f hx ⟨by omega, hf0.2⟩
        have hxf : 0 ≤ a.getD jj 0 * f := Int.mul_nonneg hx.1 (by omega)
        have hxf2 : a.getD jj 0 * f ≤ 340282366920938463426481119284349108225 := Int.le_trans (Int.mul_le_mul (show a.getD jj 0 ≤ 18446744073709551615 by simp only [B64] at hx; omega) (show f ≤ 18446744073709551615 by omega) (by omega) (by omega)) (by decide)
        simp only [B64] at hm hcar hx
        repeat' first
          | (simp only [hxt])
          | (with_reducible first | refine PW.seq ?_ | refine PW.block ?_ | refine PW.fork ?_ | refine PW.skip ?_ | refine PW.exit ?_ | refine PW.ret ?_ | refine PW.scope ?_ | refine PW.label ?_ | refine PW.goto ?_)
          | (with_reducible refine PW.region ttOk ?_ ?_
             · rfl)
          | (with_reducible refine PW.regionD ttOk mixed ?_ ?_ ?_
             · rfl
             · rfl) | (with_reducible refine ifW_dec (fun g => ?_) (fun g => ?_) <;> first | (exfalso; omega) | (simp -dsimp only [g, wkI])) | (with_reducible refine condE_dec (fun g => ?_) (fun g => ?_) <;> try (exfalso; omega)) | (with_reducible refine condE_not (fun g => ?_) (fun g => ?_) <;> try (exfalso; omega)) | (simp -dsimp only [↓wkA, ↓wkE, ↓wkJ, wkB, ↓tt, Nat.reduceBEq, Nat.reduceEqDiff, ↓reduceIte, Nat.reduceLT, Array.toList, Nat.reduceAdd, Nat.reduceMul, Int.reduceToNat, Int.reducePow, UInt8.reduceToNat]) | (refine call_by hm (views_data rfl) ⟨trivial, trivial, trivial⟩ rfl ?_) | (refine call_by (add64 (by omega) (by omega) (by omega)) (views_data rfl) ⟨trivial, trivial, trivial, trivial⟩ rfl ?_) | (simp -dsimp (disch := first | assumption | omega) only [dec_t, dec_f])
          | (refine And.intro ?_ ?_
             · first | omega | decide | (simp (disch := omega) only [wkW, Int.reduceToNat, Int.reducePow] <;> omega) | (simp <;> omega)) | (simp (disch := omega) only [wkW, Int.reduceToNat, Int.reducePow]) | fail
        have hs1 : a.getD jj 0 * f / 18446744073709551616 + (a.getD jj 0 * f % 18446744073709551616 + p + 0) / 18446744073709551616 = (a.getD jj 0 * f + p) / B64 := by
          simp only [B64]; omega
        have hs2 : (a.getD jj 0 * f % 18446744073709551616 + p + 0) % 18446744073709551616 = (a.getD jj 0 * f + p) % B64 := by
          simp only [B64]; omega
        rw [hs1, hs2]
        exact Again.mk (m2 - 1) ((79, .int .i64 ((jj + 1 : Nat) : Int)) :: (78, .int .i64 (a.length : Int)) :: (12, .int .u64 ((a.getD jj 0 * f + p) / B64)) :: (13, .int .u64 f) :: ffO b k s (i + j) a.length) (fhO (t.set jj ((a.getD jj 0 * f + p) % B64))) (by omega) (Sub.norm ⟨rfl, rfl, rfl, rfl, rfl, rfl, rfl, rfl, rfl, trivial⟩ ⟨rfl, trivial⟩ (Nat.le_refl _) rfl rfl rfl rfl) ⟨jj + 1, _, _, by omega, hstep, rfl, rfl⟩
    rintro F H ⟨t, p, hmul, rfl, rfl⟩
    have htl := hmul.len
    have hcar := hmul.car
    have heq := hmul.eq
    have hva : vt a a.length = val a := rfl
    have hvt : vt t a.length = val t := by unfold val; rw [htl]
    rw [hva, hvt, hav] at heq
    have hN : (numN b s i : Int) * f + part = (numN b s (i + j) : Int) := by
      rw [← hf, ← hpe]; simp
    rw [hN] at heq
    have hval0 : val a ≤ val a * f := by
      have h1 : 0 ≤ val a := by rw [hav]; omega
      have := Int.mul_le_mul_of_nonneg_left (show 1 ≤ f by omega) h1
      omega
    have hmono := numN_mono b (by omega) s (i + j) (s.length - (i + j))
    rw [show i + j + (s.length - (i + j)) = s.length by omega] at hmono
    have toobig : ∀ l : List Int, Nrm l → val l = (numN b s (i + j) : Int) → 4096 < l.length → R = .tup [.nil, .int .i64 0, .int .i64 2] := by
      intro l hln hlv hll
      refine hR2 fun hsm => ?_
      have h1 := hln (by omega)
      have h2 := pow_mono64 (show 4096 ≤ l.length - 1 by omega)
      unfold num at hsm
      omega
    by_cases hp0 : p = 0
    · subst hp0
      have hvt2 : val t = (numN b s (i + j) : Int) := by rw [← heq]; simp
      have htn : Nrm t := fun h0 => by
        rw [htl] at h0 ⊢
        have := haN h0
        rw [hvt2, ← hN, ← hav]; omega
      rw [← htl]
      repeat' first
        | (with_reducible first | refine PW.seq ?_ | refine PW.block ?_ | refine PW.fork ?_ | refine PW.skip ?_ | refine PW.exit ?_ | refine PW.ret ?_ | refine PW.scope ?_ | refine PW.label ?_ | refine PW.goto ?_)
        | (with_reducible refine PW.region ttOk ?_ ?_
           · rfl)
        | (with_reducible refine PW.regionD ttOk mixed ?_ ?_ ?_
           · rfl
           · rfl) | (with_reducible refine ifW_dec (fun g => ?_) (fun g => ?_) <;> first | (exfalso; omega) | (simp -dsimp only [g, wkI])) | (with_reducible refine condE_dec (fun g => ?_) (fun g => ?_) <;> try (exfalso; omega)) | (with_reducible refine condE_not (fun g => ?_) (fun g => ?_) <;> try (exfalso; omega)) | (simp -dsimp only [↓wkA, ↓wkE, ↓wkJ, wkB, ↓tt, Nat.reduceBEq, Nat.reduceEqDiff, ↓reduceIte, Nat.reduceLT, Array.toList, Nat.reduceAdd, Nat.reduceMul, Int.reduceToNat, Int.reducePow, UInt8.reduceToNat]) | (simp -dsimp (disch := first | assumption | omega) only [dec_t, dec_f])
        | (refine And.intro ?_ ?_
           · first | omega | decide | (simp (disch := omega) only [wkW, Int.reduceToNat, Int.reducePow] <;> omega) | (simp <;> omega)) | (simp (disch := omega) only [wkW, Int.reduceToNat, Int.reducePow]) | fail
      exact Again.mk (m - j) (ffO b k s (i + j) t.length) (fhO t) (by omega) (Sub.norm ⟨rfl, rfl, rfl, rfl, rfl, trivial⟩ ⟨rfl, trivial⟩ (Nat.le_refl _) rfl rfl rfl rfl) ⟨i + j, t, by omega, hmul.lim, htn, hvt2, by omega, rfl, rfl⟩
    · have hvt2 : val (t ++ [p]) = (numN b s (i + j) : Int) := by
        rw [← heq]
        unfold val
        rw [List.length_append, List.length_singleton]
        have e1 : vt (t ++ [p]) (t.length + 1) = vt (t ++ [p]) t.length + B64 ^ t.length * (t ++ [p]).getD t.length 0 := rfl
        have e2 : (t ++ [p]).getD t.length 0 = p := by simp [List.getD_eq_getElem?_getD]
        have e3 : vt (t ++ [p]) t.length = vt t t.length := vt_same _ fun j hj => by simp [List.getD_eq_getElem?_getD, List.getElem?_append_left hj]
        rw [e1, e2, e3, htl]
      have htn : Nrm (t ++ [p]) := fun h0 => by
        rw [hvt2, ← heq, List.length_append, List.length_singleton, Nat.add_sub_cancel, htl]
        have h1 := vt_bound hmul.lim t.length
        have h2 : 0 ≤ val t := h1.1
        have h3 : B64 ^ a.length * 1 ≤ B64 ^ a.length * p := Int.mul_le_mul_of_nonneg_left (by omega) (Int.le_of_lt (pow_pos64 _))
        omega
      have htL : Limbs (t ++ [p]) := fun x hx => by
        rcases List.mem_append.1 hx with h | h
        · exact hmul.lim x h
        · rw [List.mem_singleton] at h; subst h; exact hcar
      have htl2 : (t ++ [p]).length = a.length + 1 := by simp [htl]
      rw [← htl]
      have hcar2 := hcar
      simp only [B64] at hcar2
      repeat' first
        | (with_reducible first | refine PW.seq ?_ | refine PW.block ?_ | refine PW.fork ?_ | refine PW.skip ?_ | refine PW.exit ?_ | refine PW.ret ?_ | refine PW.scope ?_ | refine PW.label ?_ | refine PW.goto ?_)
        | (with_reducible refine PW.region ttOk ?_ ?_
           · rfl)
        | (with_reducible refine PW.regionD ttOk mixed ?_ ?_ ?_
           · rfl
           · rfl) | (with_reducible refine ifW_dec (fun g => ?_) (fun g => ?_) <;> first | (exfalso; omega) | (simp -dsimp only [g, wkI])) | (with_reducible refine condE_dec (fun g => ?_) (fun g => ?_) <;> try (exfalso; omega)) | (with_reducible refine condE_not (fun g => ?_) (fun g => ?_) <;> try (exfalso; omega)) | (simp -dsimp only [↓wkA, ↓wkE, ↓wkJ, wkB, ↓tt, Nat.reduceBEq, Nat.reduceEqDiff, ↓reduceIte, Nat.reduceLT, Array.toList, Nat.reduceAdd, Nat.reduceMul, Int.reduceToNat, Int.reducePow, UInt8.reduceToNat]) | (simp -dsimp (disch := first | assumption | omega) only [dec_t, dec_f])
        | (refine And.intro ?_ ?_
           · first | omega | decide | (simp (disch := omega) only [wkW, Int.reduceToNat, Int.reducePow] <;> omega) | (simp <;> omega)) | (simp (disch := omega) only [wkW, Int.reduceToNat, Int.reducePow]) | fail
      · exact toobig _ htn hvt2 (by rw [htl2]; omega)
      · exact Again.mk (m - j) (ffO b k s (i + j) (t ++ [p]).length) (fhO (t ++ [p])) (by omega) (Sub.norm ⟨rfl, by simp only [List.length_append, List.length_singleton]; rfl, rfl, rfl, rfl, trivial⟩ ⟨rfl, trivial⟩ (by show 1 ≤ 2; omega) rfl rfl rfl rfl) ⟨i + j, t ++ [p], by omega, htL, htn, hvt2, by omega, rfl, rfl⟩
  · rintro F H ⟨a, haL, haN, hav, hal, rfl, rfl⟩
    have hsm : ((num b s : Nat) : Int) < B64 ^ 4096 := by
      rw [← hav]
      have h1 := vt_bound haL a.length
      have h2 := pow_mono64 hal
      unfold val; omega
    have hnat := natL_val haL haN
    rw [hav, Int.toNat_natCast] at hnat
    rw [hR1 hsm, ← hnat]
    repeat' first
      | (with_reducible first | refine PW.seq ?_ | refine PW.block ?_ | refine PW.fork ?_ | refine PW.skip ?_ | refine PW.exit ?_ | refine PW.ret ?_ | refine PW.scope ?_ | refine PW.label ?_ | refine PW.goto ?_)
      | (with_reducible refine PW.region ttOk ?_ ?_
         · rfl)
      | (with_reducible refine PW.regionD ttOk mixed ?_ ?_ ?_
         · rfl
         · rfl) | (with_reducible refine ifW_dec (fun g => ?_) (fun g => ?_) <;> first | (exfalso; omega) | (simp -dsimp only [g, wkI])) | (with_reducible refine condE_dec (fun g => ?_) (fun g => ?_) <;> try (exfalso; omega)) | (with_reducible refine condE_not (fun g => ?_) (fun g => ?_) <;> try (exfalso; omega)) | (simp -dsimp only [↓wkA, ↓wkE, ↓wkJ, wkB, ↓tt, Nat.reduceBEq, Nat.reduceEqDiff, ↓reduceIte, Nat.reduceLT, Array.toList, Nat.reduceAdd, Nat.reduceMul, Int.reduceToNat, Int.reducePow, UInt8.reduceToNat]) | (exact Nat.le_refl _) | (simp -dsimp (disch := first | assumption | omega) only [dec_t, dec_f])
      | (refine And.intro ?_ ?_
         · first | omega | decide | (simp (disch := omega) only [wkW, Int.reduceToNat, Int.reducePow] <;> omega) | (simp <;> omega)) | (simp (disch := omega) only [wkW, Int.reduceToNat, Int.reducePow]) | fail
def inBaseR (a : List Int) (base : Int) (u : Bool) : PV :=
  if 4096 < size a then .tup [.str [], .int .i64 2] else if base < 2 ∨ 36 < base then .tup [.str [], .int .i64 32] else if size a = 0 then .tup [.str [48], .int .i64 0] else .tup [.str (text base.toNat u (val a).toNat), .int .i64 0]
theorem trim_len (a : List Int) : (trim a).length = size a := by
  have := size_le a
  simp [trim]; omega
theorem in_base_err (a : List Int) (hla : a.length ≤ 17592186043904) (base : Int) (hb : -9223372036854775808 ≤ base ∧ base ≤ 9223372036854775807) (u : Bool) (h : 4096 < size a ∨ (base < 2 ∨ 36 < base) ∨ size a = 0) :
    Meets Tryz.prog 129 [.ints .u64 a, .int .i64 base, .bool u] (inBaseR a base u) := by
  refine meets_by ttOk Tryz.func129 Tryz.ntmps129 Tryz.results129 (by kernel_rfl) (c := _) rfl rfl rfl fun E => ?_
  simp only [argsFrame]
  have htl := trim_len a
  unfold inBaseR
  by_cases h1 : 4096 < size a
  · rw [if_pos h1]
    repeat' first
      | (with_reducible first | refine PW.seq ?_ | refine PW.block ?_ | refine PW.fork ?_ | refine PW.skip ?_ | refine PW.exit ?_ | refine PW.ret ?_ | refine PW.scope ?_ | refine PW.label ?_ | refine PW.goto ?_)
      | (with_reducible refine PW.region ttOk ?_ ?_
         · rfl)
      | (with_reducible refine PW.regionD ttOk mixed ?_ ?_ ?_
         · rfl
         · rfl) | (with_reducible refine ifW_dec (fun g => ?_) (fun g => ?_) <;> first | (exfalso; omega) | (simp -dsimp only [g, wkI])) | (with_reducible refine condE_dec (fun g => ?_) (fun g => ?_) <;> try (exfalso; omega)) | (with_reducible refine condE_not (fun g => ?_) (fun g => ?_) <;> try (exfalso; omega)) | (simp -dsimp only [↓wkA, ↓wkE, ↓wkJ, wkB, ↓tt, Nat.reduceBEq, Nat.reduceEqDiff, ↓reduceIte, Nat.reduceLT, Array.toList, Nat.reduceAdd, Nat.reduceMul, Int.reduceToNat, Int.reducePow, UInt8.reduceToNat]) | (refine call_h (nat_trim_h a hla _ _ _ _) (fun res H' hR => ?_); obtain ⟨rfl, rfl⟩ := hR; refine ⟨_, _, rfl, ?_⟩) | (simp -dsimp (disch := first | assumption | omega) only [dec_t, dec_f])
      | (refine And.intro ?_ ?_
         · first | omega | decide | (simp (disch := omega) only [wkW, Int.reduceToNat, Int.reducePow] <;> omega) | (simp <;> omega)) | (simp (disch := omega) only [wkW, Int.reduceToNat, Int.reducePow]) | fail
  rw [if_neg h1]
  by_cases h2 : base < 2 ∨ 36 < base
  · rw [if_pos h2]
    repeat' first
      | (with_reducible first | refine PW.seq ?_ | refine PW.block ?_ | refine PW.fork ?_ | refine PW.skip ?_ | refine PW.exit ?_ | refine PW.ret ?_ | refine PW.scope ?_ | refine PW.label ?_ | refine PW.goto ?_)
      | (with_reducible refine PW.region ttOk ?_ ?_
         · rfl)
      | (with_reducible refine PW.regionD ttOk mixed ?_ ?_ ?_
         · rfl
         · rfl) | (with_reducible refine ifW_dec (fun g => ?_) (fun g => ?_) <;> first | (exfalso; omega) | (simp -dsimp only [g, wkI])) | (with_reducible refine condE_dec (fun g => ?_) (fun g => ?_) <;> try (exfalso; omega)) | (with_reducible refine condE_not (fun g => ?_) (fun g => ?_) <;> try (exfalso; omega)) | (simp -dsimp only [↓wkA, ↓wkE, ↓wkJ, wkB, ↓tt, Nat.reduceBEq, Nat.reduceEqDiff, ↓reduceIte, Nat.reduceLT, Array.toList, Nat.reduceAdd, Nat.reduceMul, Int.reduceToNat, Int.reducePow, UInt8.reduceToNat]) | (refine call_h (nat_trim_h a hla _ _ _ _) (fun res H' hR => ?_); obtain ⟨rfl, rfl⟩ := hR; refine ⟨_, _, rfl, ?_⟩) | (simp -dsimp (disch := first | assumption | omega) only [dec_t, dec_f])
      | (refine And.intro ?_ ?_
         · first | omega | decide | (simp (disch := omega) only [wkW, Int.reduceToNat, Int.reducePow] <;> omega) | (simp <;> omega)) | (simp (disch := omega) only [wkW, Int.reduceToNat, Int.reducePow]) | fail
  rw [if_neg h2]
  have h3 : size a = 0 := by omega
  rw [if_pos h3]
  repeat' first
    | (with_reducible first | refine PW.seq ?_ | refine PW.block ?_ | refine PW.fork ?_ | refine PW.skip ?_ | refine PW.exit ?_ | refine PW.ret ?_ | refine PW.scope ?_ | refine PW.label ?_ | refine PW.goto ?_)
    | (with_reducible refine PW.region ttOk ?_ ?_
       · rfl)
    | (with_reducible refine PW.regionD ttOk mixed ?_ ?_ ?_
       · rfl
       · rfl) | (with_reducible refine ifW_dec (fun g => ?_) (fun g => ?_) <;> first | (exfalso; omega) | (simp -dsimp only [g, wkI])) | (with_reducible refine condE_dec (fun g => ?_) (fun g => ?_) <;> try (exfalso; omega)) | (with_reducible refine condE_not (fun g => ?_) (fun g => ?_) <;> try (exfalso; omega)) | (simp -dsimp only [↓wkA, ↓wkE, ↓wkJ, wkB, ↓tt, Nat.reduceBEq, Nat.reduceEqDiff, ↓reduceIte, Nat.reduceLT, Array.toList, Nat.reduceAdd, Nat.reduceMul, Int.reduceToNat, Int.reducePow, UInt8.reduceToNat]) | (refine call_h (nat_trim_h a hla _ _ _ _) (fun res H' hR => ?_); obtain ⟨rfl, rfl⟩ := hR; refine ⟨_, _, rfl, ?_⟩) | (simp -dsimp (disch := first | assumption | omega) only [dec_t, dec_f])
    | (refine And.intro ?_ ?_
       · first | omega | decide | (simp (disch := omega) only [wkW, Int.reduceToNat, Int.reducePow] <;> omega) | (simp <;> omega)) | (simp (disch := omega) only [wkW, Int.reduceToNat, Int.reducePow]) | fail
abbrev ifO (b k : Nat) (ℓ : List Int) (n r : Nat) : PV.Frame := [(8, .sl 0 0 n true), (9, .str ℓ), (1, .int .i64 (b : Int)), (10, .int .u64 ((b ^ k : Nat) : Int)), (11, .int .i64 (k : Int)), (12, .sl 1 0 r true)]
abbrev ihO (t rev : List Int) : PV.Heap := ⟨2, [(0, .ints .u64 t), (1, .ints .u8 rev)], [], []⟩
def IOut (b k : Nat) (ℓ R : List Int) (L : Nat) (m : Nat) (F : PV.Frame) (H : PV.Heap) : Prop :=
  ∃ n t rev, t.length = L ∧ n ≤ L ∧ Limbs t ∧ (n ≠ 0 → t.getD (n - 1) 0 ≠ 0) ∧ rev ++ (digs b (vt t n).toNat).map (fun d => ℓ.getD d 0) = R ∧ (vt t n).toNat = m ∧ F = ifO b k ℓ n rev.length ∧ H = ihO t rev
def IDiv (b k : Nat) (ℓ t rev : List Int) (n L : Nat) (i : Nat) (F : PV.Frame) (H : PV.Heap) : Prop :=
  ∃ t' rest, t'.length = L ∧ DivI t t' n i ((b ^ k : Nat) : Int) rest ∧ i ≤ n ∧ F = (14, .int .i64 ((i : Int) - 1)) :: (13, .int .u64 rest) :: ifO b k ℓ n rev.length ∧ H = ihO t' rev
def ITrim (b k : Nat) (ℓ t rev : List Int) (n : Nat) (T rest : Int) (i : Nat) (F : PV.Frame) (H : PV.Heap) : Prop :=
  i ≤ n ∧ vt t i = T ∧ F = (13, .int .u64 rest) :: ifO b k ℓ i rev.length ∧ H = ihO t rev
def IDig (b k : Nat) (ℓ R t : List Int) (n τ : Nat) (i : Nat) (F : PV.Frame) (H : PV.Heap) : Prop :=
  ∃ (j r : Nat) (rv : List Int), j + i = k ∧ r < b ^ i ∧ rv ++ (digs b (r + b ^ i * τ)).map (fun d => ℓ.getD d 0) = R ∧ F = (15, .int .i64 (j : Int)) :: (13, .int .u64 ((r : Nat) : Int)) :: ifO b k ℓ n rv.length ∧ H = ihO t rv
abbrev ihB (R : List Int) (p : PV) (l : List Int) : PV.Heap := ⟨4, [(1, .ints .u8 R), (2, .var [p, .sl 3 0 l.length true]), (3, .ints .u8 l)], [], [(3, 5), (2, 177)]⟩
def IBuild (R : List Int) (i : Nat) (F : PV.Frame) (H : PV.Heap) : Prop :=
  ∃ p, i ≤ R.length ∧ (p = .nilptr ∨ p = .ptr 2 0 0) ∧ F = [(17, .int .i64 ((i : Int) - 1)), (16, .ptr 2 0 0), (12, .sl 1 0 R.length true)] ∧ H = ihB R p (R.drop i).reverse
set_option exponentiation.threshold 300000 in
set_option maxHeartbeats 2000000 in
theorem in_base_main (a : List Int) (ha : Limbs a) (hla : a.length ≤ 17592186043904) (b : Nat) (hb : 2 ≤ b ∧ b ≤ 36) (u : Bool) (h1 : size a ≤ 4096) (h2 : size a ≠ 0) :
    Meets Tryz.prog 129 [.ints .u64 a, .int .i64 (b : Int), .bool u] (.tup [.str (text b u (val a).toNat), .int .i64 0]) := by
  refine meets_by ttOk Tryz.func129 Tryz.ntmps129 Tryz.results129 (by kernel_rfl) (c := _) rfl rfl rfl fun E => ?_
  simp only [argsFrame]
  have htl := trim_len a
  obtain ⟨k, hk1, hk2, hk3, hk4, hk5⟩ := chunk_ex b hb
  have hchunk := numeral_chunk b k hb hk1 hk2 hk3 hk4 hk5
  repeat' first
    | (with_reducible first | refine PW.seq ?_ | refine PW.block ?_ | refine PW.fork ?_ | refine PW.skip ?_ | refine PW.exit ?_ | refine PW.ret ?_ | refine PW.scope ?_ | refine PW.label ?_ | refine PW.goto ?_)
    | (with_reducible refine PW.region ttOk ?_ ?_
       · rfl)
    | (with_reducible refine PW.regionD ttOk mixed ?_ ?_ ?_
       · rfl
       · rfl) | (with_reducible refine ifW_dec (fun g => ?_) (fun g => ?_) <;> first | (exfalso; omega) | (simp -dsimp only [g, wkI])) | (with_reducible refine condE_dec (fun g => ?_) (fun g => ?_) <;> try (exfalso; omega)) | (with_reducible refine condE_not (fun g => ?_) (fun g => ?_) <;> try (exfalso; omega)) | (simp -dsimp only [↓wkA, ↓wkE, ↓wkJ, wkB, ↓tt, Nat.reduceBEq, Nat.reduceEqDiff, ↓reduceIte, Nat.reduceLT, Array.toList, Nat.reduceAdd, Nat.reduceMul, Int.reduceToNat, Int.reducePow, UInt8.reduceToNat]) | (refine call_h (nat_trim_h a hla _ _ _ _) (fun res H' hR => ?_); obtain ⟨rfl, rfl⟩ := hR; refine ⟨_, _, rfl, ?_⟩) | (refine call_by hchunk (views_data rfl) ⟨trivial, trivial⟩ rfl ?_) | (simp -dsimp (disch := first | assumption | omega) only [dec_t, dec_f])
    | (refine And.intro ?_ ?_
       · first | omega | decide | (simp (disch := omega) only [wkW, Int.reduceToNat, Int.reducePow] <;> omega) | (simp <;> omega)) | (simp (disch := omega) only [wkW, Int.reduceToNat, Int.reducePow]) | fail
  refine condE_meet (fun F H => F = [(8, .sl 0 0 (size a) true), (9, .str (lettersOf u)), (1, .int .i64 (b : Int))] ∧ H = ⟨1, [(0, .ints .u64 (trim a))], [], [(0, 27)]⟩) (fun hu => ?_) (fun hu => ?_) ?_
  · subst hu
    repeat' first
      | (with_reducible first | refine PW.seq ?_ | refine PW.block ?_ | refine PW.fork ?_ | refine PW.skip ?_ | refine PW.exit ?_ | refine PW.ret ?_ | refine PW.scope ?_ | refine PW.label ?_ | refine PW.goto ?_)
      | (with_reducible refine PW.region ttOk ?_ ?_
         · rfl)
      | (with_reducible refine PW.regionD ttOk mixed ?_ ?_ ?_
         · rfl
         · rfl) | (with_reducible refine ifW_dec (fun g => ?_) (fun g => ?_) <;> first | (exfalso; omega) | (simp -dsimp only [g, wkI])) | (with_reducible refine condE_dec (fun g => ?_) (fun g => ?_) <;> try (exfalso; omega)) | (with_reducible refine condE_not (fun g => ?_) (fun g => ?_) <;> try (exfalso; omega)) | (simp -dsimp only [↓wkA, ↓wkE, ↓wkJ, wkB, ↓tt, Nat.reduceBEq, Nat.reduceEqDiff, ↓reduceIte, Nat.reduceLT, Array.toList, Nat.reduceAdd, Nat.reduceMul, Int.reduceToNat, Int.reducePow, UInt8.reduceToNat]) | (simp -dsimp (disch := first | assumption | omega) only [dec_t, dec_f])
      | (refine And.intro ?_ ?_
         · first | omega | decide | (simp (disch := omega) only [wkW, Int.reduceToNat, Int.reducePow] <;> omega) | (simp <;> omega)) | (simp (disch := omega) only [wkW, Int.reduceToNat, Int.reducePow]) | fail
    exact Meet.mk [(8, .sl 0 0 (size a) true), (9, .str (lettersOf true)), (1, .int .i64 (b : Int))] ⟨1, [(0, .ints .u64 (trim a))], [], [(0, 27)]⟩ (Sub.norm ⟨rfl, rfl, rfl, trivial⟩ ⟨rfl, trivial⟩ (Nat.le_refl _) rfl rfl rfl rfl (tyOk_spec rfl)) ⟨rfl, rfl⟩
  · subst hu
    repeat' first
      | (with_reducible first | refine PW.seq ?_ | refine PW.block ?_ | refine PW.fork ?_ | refine PW.skip ?_ | refine PW.exit ?_ | refine PW.ret ?_ | refine PW.scope ?_ | refine PW.label ?_ | refine PW.goto ?_)
      | (with_reducible refine PW.region ttOk ?_ ?_
         · rfl)
      | (with_reducible refine PW.regionD ttOk mixed ?_ ?_ ?_
         · rfl
         · rfl) | (with_reducible refine ifW_dec (fun g => ?_) (fun g => ?_) <;> first | (exfalso; omega) | (simp -dsimp only [g, wkI])) | (with_reducible refine condE_dec (fun g => ?_) (fun g => ?_) <;> try (exfalso; omega)) | (with_reducible refine condE_not (fun g => ?_) (fun g => ?_) <;> try (exfalso; omega)) | (simp -dsimp only [↓wkA, ↓wkE, ↓wkJ, wkB, ↓tt, Nat.reduceBEq, Nat.reduceEqDiff, ↓reduceIte, Nat.reduceLT, Array.toList, Nat.reduceAdd, Nat.reduceMul, Int.reduceToNat, Int.reducePow, UInt8.reduceToNat]) | (simp -dsimp (disch := first | assumption | omega) only [dec_t, dec_f])
      | (refine And.intro ?_ ?_
         · first | omega | decide | (simp (disch := omega) only [wkW, Int.reduceToNat, Int.reducePow] <;> omega) | (simp <;> omega)) | (simp (disch := omega) only [wkW, Int.reduceToNat, Int.reducePow]) | fail
    exact Meet.mk [(8, .sl 0 0 (size a) true), (9, .str (lettersOf false)), (1, .int .i64 (b : Int))] ⟨1, [(0, .ints .u64 (trim a))], [], [(0, 27)]⟩ (Sub.norm ⟨rfl, rfl, rfl, trivial⟩ ⟨rfl, trivial⟩ (Nat.le_refl _) rfl rfl rfl rfl (tyOk_spec rfl)) ⟨rfl, rfl⟩
  rintro F H ⟨rfl, rfl⟩
  repeat' first
    | (with_reducible first | refine PW.seq ?_ | refine PW.block ?_ | refine PW.fork ?_ | refine PW.skip ?_ | refine PW.exit ?_ | refine PW.ret ?_ | refine PW.scope ?_ | refine PW.label ?_ | refine PW.goto ?_)
    | (with_reducible refine PW.region ttOk ?_ ?_
       · rfl)
    | (with_reducible refine PW.regionD ttOk mixed ?_ ?_ ?_
       · rfl
       · rfl) | (with_reducible refine ifW_dec (fun g => ?_) (fun g => ?_) <;> first | (exfalso; omega) | (simp -dsimp only [g, wkI])) | (with_reducible refine condE_dec (fun g => ?_) (fun g => ?_) <;> try (exfalso; omega)) | (with_reducible refine condE_not (fun g => ?_) (fun g => ?_) <;> try (exfalso; omega)) | (simp -dsimp only [↓wkA, ↓wkE, ↓wkJ, wkB, ↓tt, Nat.reduceBEq, Nat.reduceEqDiff, ↓reduceIte, Nat.reduceLT, Array.toList, Nat.reduceAdd, Nat.reduceMul, Int.reduceToNat, Int.reducePow, UInt8.reduceToNat]) | (refine call_by hchunk (views_data rfl) ⟨trivial, trivial⟩ rfl ?_) | (simp -dsimp (disch := first | assumption | omega) only [dec_t, dec_f])
    | (refine And.intro ?_ ?_
       · first | omega | decide | (simp (disch := omega) only [wkW, Int.reduceToNat, Int.reducePow] <;> omega) | (simp <;> omega)) | (simp (disch := omega) only [wkW, Int.reduceToNat, Int.reducePow]) | fail
  obtain ⟨ℓ, hℓ⟩ : ∃ ℓ, lettersOf u = ℓ := ⟨_, rfl⟩
  have hℓl : ℓ.length = 36 := by rw [← hℓ]; exact lettersOf_len u
  have hℓb : ∀ x ∈ ℓ, 0 ≤ x ∧ x < 256 := by rw [← hℓ]; exact lettersOf_byte u
  have hval : vt (trim a) (size a) = val a := by
    rw [← vt_size a]; exact vt_same _ fun j hj => by simp [trim, List.getD_eq_getElem?_getD, List.getElem?_take, hj]
  have hlim := limbs_take ha (size a)
  have hV := vt_bound hlim (size a)
  rw [show List.take (size a) a = trim a from rfl, hval] at hV
  have hVlt : (val a).toNat < 2 ^ 262144 := by
    have h3 := pow_mono64 h1
    have e : B64 ^ 4096 = ((2 ^ 262144 : Nat) : Int) := by
      rw [show (262144 : Nat) = 64 * 4096 from rfl, Nat.pow_mul, Int.natCast_pow]; rfl
    omega
  obtain ⟨R, hR⟩ : ∃ R, (digs b (val a).toNat).map (fun d => ℓ.getD d 0) = R := ⟨_, rfl⟩
  have hRl : R.length ≤ 262144 := by
    rw [← hR, List.length_map]; exact digs_len hb.1 _ _ hVlt
  have hRb : ∀ x ∈ R, 0 ≤ x ∧ x < 256 := by
    intro x hx
    rw [← hR] at hx
    obtain ⟨d, hd, rfl⟩ := List.mem_map.1 hx
    have := digs_lt hb.1 _ d hd
    rw [List.getD_eq_getElem?_getD, List.getElem?_eq_getElem (by omega)]
    exact hℓb _ (List.getElem_mem _)
  have hp2 : 2 ≤ b ^ k := Nat.le_trans hb.1 (by simpa using Nat.pow_le_pow_right (show 0 < b by omega) hk1)
  refine PW.meetB (fun F H => F = [(12, .sl 1 0 R.length true)] ∧ H = ⟨2, [(1, .ints .u8 R)], [], []⟩) ?_ ?_
  · refine PW.loopA (IOut b k ℓ R (size a)) (val a).toNat (ifO b k ℓ (size a) 0) (ihO (trim a) []) (Sub.trans (Sub.nilVar 12 5 .u8 rfl) (Sub.norm ⟨rfl, congrArg PV.str hℓ, rfl, rfl, rfl, rfl, trivial⟩ ⟨rfl, rfl, trivial⟩ (Nat.le_refl _) rfl rfl rfl rfl)) ⟨size a, trim a, [], htl, Nat.le_refl _, hlim, fun _ => ?_, ?_, by rw [hval], rfl, rfl⟩ ?_
    · have := sizeN_top a a.length h2
      simp only [trim, List.getD_eq_getElem?_getD, List.getElem?_take] at this ⊢
      rw [if_pos (by omega)]; exact this
    · rw [hval]; exact hR
    rintro m F H ⟨n, t, rev, htl', hn, htL, htop, hrev, hm, rfl, rfl⟩
    by_cases h0 : n = 0
    · subst h0
      have hv0 : vt t 0 = 0 := rfl
      rw [hv0] at hrev
      simp only [Int.toNat_zero, digs_zero, List.map_nil, List.append_nil] at hrev
      subst hrev
      repeat' first
        | (with_reducible first | refine PW.seq ?_ | refine PW.block ?_ | refine PW.fork ?_ | refine PW.skip ?_ | refine PW.exit ?_ | refine PW.ret ?_ | refine PW.scope ?_ | refine PW.label ?_ | refine PW.goto ?_)
        | (with_reducible refine PW.region ttOk ?_ ?_
           · rfl)
        | (with_reducible refine PW.regionD ttOk mixed ?_ ?_ ?_
           · rfl
           · rfl) | (with_reducible refine ifW_dec (fun g => ?_) (fun g => ?_) <;> first | (exfalso; omega) | (simp -dsimp only [g, wkI])) | (with_reducible refine condE_dec (fun g => ?_) (fun g => ?_) <;> try (exfalso; omega)) | (with_reducible refine condE_not (fun g => ?_) (fun g => ?_) <;> try (exfalso; omega)) | (simp -dsimp only [↓wkA, ↓wkE, ↓wkJ, wkB, ↓tt, Nat.reduceBEq, Nat.reduceEqDiff, ↓reduceIte, Nat.reduceLT, Array.toList, Nat.reduceAdd, Nat.reduceMul, Int.reduceToNat, Int.reducePow, UInt8.reduceToNat]) | (simp -dsimp (disch := first | assumption | omega) only [dec_t, dec_f])
        | (refine And.intro ?_ ?_
           · first | omega | decide | (simp (disch := omega) only [wkW, Int.reduceToNat, Int.reducePow] <;> omega) | (simp <;> omega)) | (simp (disch := omega) only [wkW, Int.reduceToNat, Int.reducePow]) | fail
      exact Meet.mk [(12, .sl 1 0 rev.length true)] ⟨2, [(1, .ints .u8 rev)], [], []⟩ (Sub.norm ⟨rfl, trivial⟩ ⟨rfl, trivial⟩ (Nat.le_refl _) rfl rfl rfl rfl) ⟨rfl, rfl⟩
    have hVn := vt_bound htL n
    have htn : 0 < vt t n := by
      obtain ⟨n', rfl⟩ : ∃ n', n = n' + 1 := ⟨n - 1, by omega⟩
      have h1 := htop h0
      have h2 := getD_limb htL n'
      rw [show n' + 1 - 1 = n' by omega] at h1
      have h3 := vt_bound htL n'
      have h4 : 0 < B64 ^ n' * t.getD n' 0 := Int.mul_pos (pow_pos64 n') (by omega)
      simp only [vt]; omega
    have hp0 : (0 : Int) < ((b ^ k : Nat) : Int) ∧ ((b ^ k : Nat) : Int) < B64 := by simp only [B64]; omega
    repeat' first
      | (with_reducible first | refine PW.seq ?_ | refine PW.block ?_ | refine PW.fork ?_ | refine PW.skip ?_ | refine PW.exit ?_ | refine PW.ret ?_ | refine PW.scope ?_ | refine PW.label ?_ | refine PW.goto ?_)
      | (with_reducible refine PW.region ttOk ?_ ?_
         · rfl)
      | (with_reducible refine PW.regionD ttOk mixed ?_ ?_ ?_
         · rfl
         · rfl) | (with_reducible refine ifW_dec (fun g => ?_) (fun g => ?_) <;> first | (exfalso; omega) | (simp -dsimp only [g, wkI])) | (with_reducible refine condE_dec (fun g => ?_) (fun g => ?_) <;> try (exfalso; omega)) | (with_reducible refine condE_not (fun g => ?_) (fun g => ?_) <;> try (exfalso; omega)) | (simp -dsimp only [↓wkA, ↓wkE, ↓wkJ, wkB, ↓tt, Nat.reduceBEq, Nat.reduceEqDiff, ↓reduceIte, Nat.reduceLT, Array.toList, Nat.reduceAdd, Nat.reduceMul, Int.reduceToNat, Int.reducePow, UInt8.reduceToNat]) | (simp -dsimp (disch := first | assumption | omega) only [dec_t, dec_f])
      | (refine And.intro ?_ ?_
         · first | omega | decide | (simp (disch := omega) only [wkW, Int.reduceToNat, Int.reducePow] <;> omega) | (simp <;> omega)) | (simp (disch := omega) only [wkW, Int.reduceToNat, Int.reducePow]) | fail
    -- division of the limbs
    refine PW.meetB (fun F H => ∃ t', t'.length = size a ∧ Limbs t' ∧ vt t' n = vt t n / ((b ^ k : Nat) : Int) ∧ F = (13, .int .u64 (vt t n % ((b ^ k : Nat) : Int))) :: ifO b k ℓ n rev.length ∧ H = ihO t' rev) ?_ ?_
    · refine PW.loopA (IDiv b k ℓ t rev n (size a)) n ((14, .int .i64 ((n : Int) - 1)) :: (13, .int .u64 0) :: ifO b k ℓ n rev.length) (ihO t rev) (Sub.norm ⟨?_, rfl, rfl, rfl, rfl, rfl, rfl, rfl, trivial⟩ ⟨rfl, rfl, trivial⟩ (Nat.le_refl _) rfl rfl rfl rfl) ⟨t, 0, htl', DivI.start htL hp0.1, Nat.le_refl _, rfl, rfl⟩ ?_
      · simp (disch := omega) only [↓wkA, ↓wkE, ↓wkJ, wkB, ↓tt, Nat.reduceBEq, Nat.reduceEqDiff, ↓reduceIte, Nat.reduceLT, Array.toList, Nat.reduceAdd, Nat.reduceMul, Int.reduceToNat, Int.reducePow, UInt8.reduceToNat, wkW, Int.reduceToNat, Int.reducePow]
      rintro i F H ⟨t', rest, ht', hdiv, hin, rfl, rfl⟩
      have hrst := hdiv.rst
      cases i with
      | zero =>
        obtain ⟨f1, f2⟩ := hdiv.fin
        repeat' first
          | (with_reducible first | refine PW.seq ?_ | refine PW.block ?_ | refine PW.fork ?_ | refine PW.skip ?_ | refine PW.exit ?_ | refine PW.ret ?_ | refine PW.scope ?_ | refine PW.label ?_ | refine PW.goto ?_)
          | (with_reducible refine PW.region ttOk ?_ ?_
             · rfl)
          | (with_reducible refine PW.regionD ttOk mixed ?_ ?_ ?_
             · rfl
             · rfl) | (with_reducible refine ifW_dec (fun g => ?_) (fun g => ?_) <;> first | (exfalso; omega) | (simp -dsimp only [g, wkI])) | (with_reducible refine condE_dec (fun g => ?_) (fun g => ?_) <;> try (exfalso; omega)) | (with_reducible refine condE_not (fun g => ?_) (fun g => ?_) <;> try (exfalso; omega)) | (simp -dsimp only [↓wkA, ↓wkE, ↓wkJ, wkB, ↓tt, Nat.reduceBEq, Nat.reduceEqDiff, ↓reduceIte, Nat.reduceLT, Array.toList, Nat.reduceAdd, Nat.reduceMul, Int.reduceToNat, Int.reducePow, UInt8.reduceToNat]) | (simp -dsimp (disch := first | assumption | omega) only [dec_t, dec_f])
          | (refine And.intro ?_ ?_
             · first | omega | decide | (simp (disch := omega) only [wkW, Int.reduceToNat, Int.reducePow] <;> omega) | (simp <;> omega)) | (simp (disch := omega) only [wkW, Int.reduceToNat, Int.reducePow]) | fail
        exact Meet.mk ((13, .int .u64 (vt t n % ((b ^ k : Nat) : Int))) :: ifO b k ℓ n rev.length) (ihO t' rev) (Sub.norm ⟨congrArg (PV.int .u64) f2, rfl, rfl, rfl, rfl, rfl, rfl, trivial⟩ ⟨rfl, rfl, trivial⟩ (Nat.le_refl _) rfl rfl rfl rfl) ⟨t', ht', hdiv.lim, f1, rfl, rfl⟩
      | succ j =>
        have e : (((j + 1 : Nat)) : Int) - 1 = (j : Int) := by omega
        rw [e]
        have hx := getD_limb hdiv.lim j
        have hdv := div64 rest (t'.getD j 0) ((b ^ k : Nat) : Int) hp0 (by omega) hx
        have hstep := hdiv.step (by omega) (by omega) hp0
        simp only [B64] at hdv hp0 hx
        repeat' first
          | (with_reducible first | refine PW.seq ?_ | refine PW.block ?_ | refine PW.fork ?_ | refine PW.skip ?_ | refine PW.exit ?_ | refine PW.ret ?_ | refine PW.scope ?_ | refine PW.label ?_ | refine PW.goto ?_)
          | (with_reducible refine PW.region ttOk ?_ ?_
             · rfl)
          | (with_reducible refine PW.regionD ttOk mixed ?_ ?_ ?_
             · rfl
             · rfl) | (with_reducible refine ifW_dec (fun g => ?_) (fun g => ?_) <;> first | (exfalso; omega) | (simp -dsimp only [g, wkI])) | (with_reducible refine condE_dec (fun g => ?_) (fun g => ?_) <;> try (exfalso; omega)) | (with_reducible refine condE_not (fun g => ?_) (fun g => ?_) <;> try (exfalso; omega)) | (simp -dsimp only [↓wkA, ↓wkE, ↓wkJ, wkB, ↓tt, Nat.reduceBEq, Nat.reduceEqDiff, ↓reduceIte, Nat.reduceLT, Array.toList, Nat.reduceAdd, Nat.reduceMul, Int.reduceToNat, Int.reducePow, UInt8.reduceToNat]) | (refine call_by hdv (views_data rfl) ⟨trivial, trivial, trivial, trivial⟩ rfl ?_) | (simp -dsimp (disch := first | assumption | omega) only [dec_t, dec_f])
          | (refine And.intro ?_ ?_
             · first | omega | decide | (simp (disch := omega) only [wkW, Int.reduceToNat, Int.reducePow] <;> omega) | (simp <;> omega)) | (simp (disch := omega) only [wkW, Int.reduceToNat, Int.reducePow]) | fail
        exact Again.mk j ((14, .int .i64 ((j : Int) - 1)) :: (13, .int .u64 ((rest * B64 + t'.getD j 0) % ((b ^ k : Nat) : Int))) :: ifO b k ℓ n rev.length) (ihO (t'.set j ((rest * B64 + t'.getD j 0) / ((b ^ k : Nat) : Int))) rev) (by omega) (Sub.norm ⟨rfl, rfl, rfl, rfl, rfl, rfl, rfl, rfl, trivial⟩ ⟨rfl, rfl, trivial⟩ (Nat.le_refl _) rfl rfl rfl rfl) ⟨_, _, by rw [List.length_set]; exact ht', hstep, by omega, rfl, rfl⟩
    rintro F H ⟨t', ht', htL', hvt', rfl, rfl⟩
    -- the high zeros
    obtain ⟨T, hT⟩ : ∃ T, vt t n / ((b ^ k : Nat) : Int) = T := ⟨_, rfl⟩
    obtain ⟨rest, hrest⟩ : ∃ r, vt t n % ((b ^ k : Nat) : Int) = r := ⟨_, rfl⟩
    have hdm := Int.emod_add_mul_ediv (vt t n) ((b ^ k : Nat) : Int)
    have hr0 := Int.emod_nonneg (vt t n) (show ((b ^ k : Nat) : Int) ≠ 0 by omega)
    have hr1 := Int.emod_lt_of_pos (vt t n) hp0.1
    have hT0 : 0 ≤ T := by rw [← hT]; exact Int.ediv_nonneg (by omega) (by omega)
    rw [hrest] at hdm hr0 hr1
    rw [hT] at hdm hvt'
    simp only [hrest]
    repeat' first
      | (with_reducible first | refine PW.seq ?_ | refine PW.block ?_ | refine PW.fork ?_ | refine PW.skip ?_ | refine PW.exit ?_ | refine PW.ret ?_ | refine PW.scope ?_ | refine PW.label ?_ | refine PW.goto ?_)
      | (with_reducible refine PW.region ttOk ?_ ?_
         · rfl)
      | (with_reducible refine PW.regionD ttOk mixed ?_ ?_ ?_
         · rfl
         · rfl) | (with_reducible refine ifW_dec (fun g => ?_) (fun g => ?_) <;> first | (exfalso; omega) | (simp -dsimp only [g, wkI])) | (with_reducible refine condE_dec (fun g => ?_) (fun g => ?_) <;> try (exfalso; omega)) | (with_reducible refine condE_not (fun g => ?_) (fun g => ?_) <;> try (exfalso; omega)) | (simp -dsimp only [↓wkA, ↓wkE, ↓wkJ, wkB, ↓tt, Nat.reduceBEq, Nat.reduceEqDiff, ↓reduceIte, Nat.reduceLT, Array.toList, Nat.reduceAdd, Nat.reduceMul, Int.reduceToNat, Int.reducePow, UInt8.reduceToNat]) | (simp -dsimp (disch := first | assumption | omega) only [dec_t, dec_f])
      | (refine And.intro ?_ ?_
         · first | omega | decide | (simp (disch := omega) only [wkW, Int.reduceToNat, Int.reducePow] <;> omega) | (simp <;> omega)) | (simp (disch := omega) only [wkW, Int.reduceToNat, Int.reducePow]) | fail
    refine PW.meetB (fun F H => ∃ n', n' ≤ n ∧ vt t' n' = T ∧ (n' ≠ 0 → t'.getD (n' - 1) 0 ≠ 0) ∧ F = (13, .int .u64 rest) :: ifO b k ℓ n' rev.length ∧ H = ihO t' rev) ?_ ?_
    · refine PW.loopA (ITrim b k ℓ t' rev n T rest) n ((13, .int .u64 rest) :: ifO b k ℓ n rev.length) (ihO t' rev) (Sub.refl _ _ _ _) ⟨Nat.le_refl _, hvt', rfl, rfl⟩ ?_
      rintro i F H ⟨hin, hvi, rfl, rfl⟩
      cases i with
      | zero =>
        repeat' first
          | (with_reducible first | refine PW.seq ?_ | refine PW.block ?_ | refine PW.fork ?_ | refine PW.skip ?_ | refine PW.exit ?_ | refine PW.ret ?_ | refine PW.scope ?_ | refine PW.label ?_ | refine PW.goto ?_)
          | (with_reducible refine PW.region ttOk ?_ ?_
             · rfl)
          | (with_reducible refine PW.regionD ttOk mixed ?_ ?_ ?_
             · rfl
             · rfl) | (with_reducible refine ifW_dec (fun g => ?_) (fun g => ?_) <;> first | (exfalso; omega) | (simp -dsimp only [g, wkI])) | (with_reducible refine condE_dec (fun g => ?_) (fun g => ?_) <;> try (exfalso; omega)) | (with_reducible refine condE_not (fun g => ?_) (fun g => ?_) <;> try (exfalso; omega)) | (simp -dsimp only [↓wkA, ↓wkE, ↓wkJ, wkB, ↓tt, Nat.reduceBEq, Nat.reduceEqDiff, ↓reduceIte, Nat.reduceLT, Array.toList, Nat.reduceAdd, Nat.reduceMul, Int.reduceToNat, Int.reducePow, UInt8.reduceToNat]) | (simp -dsimp (disch := first | assumption | omega) only [dec_t, dec_f])
          | (refine And.intro ?_ ?_
             · first | omega | decide | (simp (disch := omega) only [wkW, Int.reduceToNat, Int.reducePow] <;> omega) | (simp <;> omega)) | (simp (disch := omega) only [wkW, Int.reduceToNat, Int.reducePow]) | fail
        exact Meet.mk ((13, .int .u64 rest) :: ifO b k ℓ 0 rev.length) (ihO t' rev) (Sub.norm ⟨rfl, rfl, rfl, rfl, rfl, rfl, rfl, trivial⟩ ⟨rfl, rfl, trivial⟩ (Nat.le_refl _) rfl rfl rfl rfl) ⟨0, by omega, hvi, by simp, rfl, rfl⟩
      | succ j =>
        have e1 : (((j + 1 : Nat)) : Int) - 1 = (j : Int) := by omega
        have e2 : ((j : Int) - 0).toNat = j := by omega
        repeat' first
          | (simp (disch := omega) only [e1, e2, Int.toNat_natCast, wkW, Int.reduceToNat, Int.reducePow])
          | (with_reducible first | refine PW.seq ?_ | refine PW.block ?_ | refine PW.fork ?_ | refine PW.skip ?_ | refine PW.exit ?_ | refine PW.ret ?_ | refine PW.scope ?_ | refine PW.label ?_ | refine PW.goto ?_)
          | (with_reducible refine PW.region ttOk ?_ ?_
             · rfl)
          | (with_reducible refine PW.regionD ttOk mixed ?_ ?_ ?_
             · rfl
             · rfl) | (with_reducible refine ifW_dec (fun g => ?_) (fun g => ?_) <;> first | (exfalso; omega) | (simp -dsimp only [g, wkI])) | (with_reducible refine condE_dec (fun g => ?_) (fun g => ?_) <;> try (exfalso; omega)) | (with_reducible refine condE_not (fun g => ?_) (fun g => ?_) <;> try (exfalso; omega)) | (simp -dsimp only [↓wkA, ↓wkE, ↓wkJ, wkB, ↓tt, Nat.reduceBEq, Nat.reduceEqDiff, ↓reduceIte, Nat.reduceLT, Array.toList, Nat.reduceAdd, Nat.reduceMul, Int.reduceToNat, Int.reducePow, UInt8.reduceToNat]) | (simp -dsimp (disch := first | assumption | omega) only [dec_t, dec_f])
          | (refine And.intro ?_ ?_
             · first | omega | decide | (simp (disch := omega) only [wkW, Int.reduceToNat, Int.reducePow] <;> omega) | (simp <;> omega)) | (simp (disch := omega) only [wkW, Int.reduceToNat, Int.reducePow]) | fail
        · have hvj : vt t' j = T := by rw [← hvi]; simp only [vt]; rw [show t'.getD j 0 = 0 by assumption]; simp
          exact Again.mk j ((13, .int .u64 rest) :: ifO b k ℓ j rev.length) (ihO t' rev) (by omega) (Sub.norm ⟨rfl, rfl, rfl, rfl, rfl, rfl, rfl, trivial⟩ ⟨rfl, rfl, trivial⟩ (Nat.le_refl _) rfl rfl rfl rfl) ⟨by omega, hvj, rfl, rfl⟩
        · exact Meet.mk ((13, .int .u64 rest) :: ifO b k ℓ (j + 1) rev.length) (ihO t' rev) (Sub.norm ⟨rfl, rfl, rfl, rfl, rfl, rfl, rfl, trivial⟩ ⟨rfl, rfl, trivial⟩ (Nat.le_refl _) rfl rfl rfl rfl) ⟨j + 1, by omega, hvi, fun _ => by assumption, rfl, rfl⟩
    rintro F H ⟨n', hn', hvn', htop', rfl, rfl⟩
    -- the digits of this chunk
    obtain ⟨τ, rfl⟩ := Int.eq_ofNat_of_zero_le hT0
    obtain ⟨ρ, rfl⟩ := Int.eq_ofNat_of_zero_le hr0
    have hτ : n' ≠ 0 → τ ≠ 0 := by
      intro h0' hτ0
      obtain ⟨n2, rfl⟩ : ∃ n2, n' = n2 + 1 := ⟨n' - 1, by omega⟩
      have h1 := htop' h0'
      have h2 := getD_limb htL' n2
      rw [show n2 + 1 - 1 = n2 by omega] at h1
      have h3 := vt_bound htL' n2
      have h4 : 0 < B64 ^ n2 * t'.getD n2 0 := Int.mul_pos (pow_pos64 n2) (by omega)
      simp only [vt] at hvn'
      omega
    have hVe : (vt t n).toNat = ρ + b ^ k * τ := by
      have : vt t n = ((ρ + b ^ k * τ : Nat) : Int) := by rw [← hdm]; simp
      rw [this, Int.toNat_natCast]
    have hlt : τ < (vt t n).toNat := by
      rw [hVe]
      have : 2 * τ ≤ b ^ k * τ := Nat.mul_le_mul_right _ hp2
      have : 0 < ρ + b ^ k * τ := by omega
      rcases Nat.eq_zero_or_pos τ with h | h
      · subst h; omega
      · omega
    rw [hVe] at hrev
    have hb64 : IntKind.wrap .u64 (b : Int) = (b : Int) := wrap_u64 (by omega)
    repeat' first
      | (with_reducible first | refine PW.seq ?_ | refine PW.block ?_ | refine PW.fork ?_ | refine PW.skip ?_ | refine PW.exit ?_ | refine PW.ret ?_ | refine PW.scope ?_ | refine PW.label ?_ | refine PW.goto ?_)
      | (with_reducible refine PW.region ttOk ?_ ?_
         · rfl)
      | (with_reducible refine PW.regionD ttOk mixed ?_ ?_ ?_
         · rfl
         · rfl) | (with_reducible refine ifW_dec (fun g => ?_) (fun g => ?_) <;> first | (exfalso; omega) | (simp -dsimp only [g, wkI])) | (with_reducible refine condE_dec (fun g => ?_) (fun g => ?_) <;> try (exfalso; omega)) | (with_reducible refine condE_not (fun g => ?_) (fun g => ?_) <;> try (exfalso; omega)) | (simp -dsimp only [↓wkA, ↓wkE, ↓wkJ, wkB, ↓tt, Nat.reduceBEq, Nat.reduceEqDiff, ↓reduceIte, Nat.reduceLT, Array.toList, Nat.reduceAdd, Nat.reduceMul, Int.reduceToNat, Int.reducePow, UInt8.reduceToNat]) | (simp -dsimp (disch := first | assumption | omega) only [dec_t, dec_f])
      | (refine And.intro ?_ ?_
         · first | omega | decide | (simp (disch := omega) only [wkW, Int.reduceToNat, Int.reducePow] <;> omega) | (simp <;> omega)) | (simp (disch := omega) only [wkW, Int.reduceToNat, Int.reducePow]) | fail
    · refine PW.loopA (IDig b k ℓ R t' n' τ) k ((15, .int .i64 ((0 : Nat) : Int)) :: (13, .int .u64 ((ρ : Nat) : Int)) :: ifO b k ℓ n' rev.length) (ihO t' rev) (Sub.norm ⟨rfl, rfl, rfl, rfl, rfl, rfl, rfl, rfl, trivial⟩ ⟨rfl, rfl, trivial⟩ (Nat.le_refl _) rfl rfl rfl rfl) ⟨0, ρ, rev, by omega, by omega, hrev, rfl, rfl⟩ ?_
      rintro i F H ⟨j, r, rv, hji, hri, hrv, rfl, rfl⟩
      have hrvl : rv.length ≤ 262144 := by
        have := congrArg List.length hrv
        rw [List.length_append] at this
        omega
      cases i with
      | zero =>
        have hr00 : r = 0 := by simpa using hri
        subst hr00
        repeat' first
          | (with_reducible first | refine PW.seq ?_ | refine PW.block ?_ | refine PW.fork ?_ | refine PW.skip ?_ | refine PW.exit ?_ | refine PW.ret ?_ | refine PW.scope ?_ | refine PW.label ?_ | refine PW.goto ?_)
          | (with_reducible refine PW.region ttOk ?_ ?_
             · rfl)
          | (with_reducible refine PW.regionD ttOk mixed ?_ ?_ ?_
             · rfl
             · rfl) | (with_reducible refine ifW_dec (fun g => ?_) (fun g => ?_) <;> first | (exfalso; omega) | (simp -dsimp only [g, wkI])) | (with_reducible refine condE_dec (fun g => ?_) (fun g => ?_) <;> try (exfalso; omega)) | (with_reducible refine condE_not (fun g => ?_) (fun g => ?_) <;> try (exfalso; omega)) | (simp -dsimp only [↓wkA, ↓wkE, ↓wkJ, wkB, ↓tt, Nat.reduceBEq, Nat.reduceEqDiff, ↓reduceIte, Nat.reduceLT, Array.toList, Nat.reduceAdd, Nat.reduceMul, Int.reduceToNat, Int.reducePow, UInt8.reduceToNat]) | (simp -dsimp (disch := first | assumption | omega) only [dec_t, dec_f])
          | (refine And.intro ?_ ?_
             · first | omega | decide | (simp (disch := omega) only [wkW, Int.reduceToNat, Int.reducePow] <;> omega) | (simp <;> omega)) | (simp (disch := omega) only [wkW, Int.reduceToNat, Int.reducePow]) | fail
        exact Again.mk τ (ifO b k ℓ n' rv.length) (ihO t' rv) (by omega) (Sub.norm ⟨rfl, rfl, rfl, rfl, rfl, rfl, trivial⟩ ⟨rfl, rfl, trivial⟩ (Nat.le_refl _) rfl rfl rfl rfl) ⟨n', t', rv, ht', by omega, htL', htop', by rw [hvn']; simpa using hrv, by rw [hvn']; rfl, rfl, rfl⟩
      | succ i =>
        have hmod : ((r : Nat) : Int).tmod (b : Int) = ((r % b : Nat) : Int) := by
          rw [tmod_pos (by omega)]; exact (Int.natCast_emod r b).symm
        have hdiv : ((r : Nat) : Int).tdiv (b : Int) = ((r / b : Nat) : Int) := by
          rw [tdiv_pos (by omega)]; exact (Int.natCast_ediv r b).symm
        have hmb : r % b < 36 := Nat.lt_of_lt_of_le (Nat.mod_lt _ (by omega)) hb.2
        have hdl : r / b ≤ r := Nat.div_le_self r b
        have hr64 : r < 18446744073709551616 := by
          refine Nat.lt_trans (Nat.lt_of_lt_of_le hri ?_) hk3
          exact Nat.pow_le_pow_right (by omega) (by omega)
        have hw0 : ∀ q : Nat, q ≤ r → IntKind.wrap .u64 (q : Int) = (q : Int) := fun q hq => wrap_u64 (by omega)
        have hw := hw0 (r / b) hdl
        by_cases hbr : r = 0 ∧ n' = 0
        · obtain ⟨rfl, rfl⟩ := hbr
          have hτ0 : τ = 0 := by
            have : ((τ : Nat) : Int) = 0 := hvn'.symm.trans rfl
            omega
          subst hτ0
          repeat' first
            | (simp only [hb64, hmod, hdiv, hw])
            | (with_reducible first | refine PW.seq ?_ | refine PW.block ?_ | refine PW.fork ?_ | refine PW.skip ?_ | refine PW.exit ?_ | refine PW.ret ?_ | refine PW.scope ?_ | refine PW.label ?_ | refine PW.goto ?_)
            | (with_reducible refine PW.region ttOk ?_ ?_
               · rfl)
            | (with_reducible refine PW.regionD ttOk mixed ?_ ?_ ?_
               · rfl
               · rfl) | (with_reducible refine ifW_dec (fun g => ?_) (fun g => ?_) <;> first | (exfalso; omega) | (simp -dsimp only [g, wkI])) | (with_reducible refine condE_dec (fun g => ?_) (fun g => ?_) <;> try (exfalso; omega)) | (with_reducible refine condE_not (fun g => ?_) (fun g => ?_) <;> try (exfalso; omega)) | (simp -dsimp only [↓wkA, ↓wkE, ↓wkJ, wkB, ↓tt, Nat.reduceBEq, Nat.reduceEqDiff, ↓reduceIte, Nat.reduceLT, Array.toList, Nat.reduceAdd, Nat.reduceMul, Int.reduceToNat, Int.reducePow, UInt8.reduceToNat]) | (simp -dsimp (disch := first | assumption | omega) only [dec_t, dec_f])
            | (refine And.intro ?_ ?_
               · first | omega | decide | (simp (disch := omega) only [wkW, Int.reduceToNat, Int.reducePow] <;> omega) | (simp <;> omega)) | (simp (disch := omega) only [wkW, Int.reduceToNat, Int.reducePow]) | fail
          exact Again.mk 0 (ifO b k ℓ 0 rv.length) (ihO t' rv) (by omega) (Sub.norm ⟨rfl, rfl, rfl, rfl, rfl, rfl, trivial⟩ ⟨rfl, rfl, trivial⟩ (Nat.le_refl _) rfl rfl rfl rfl) ⟨0, t', rv, ht', by omega, htL', htop', by rw [hvn']; simpa using hrv, by rw [hvn']; rfl, rfl, rfl⟩
        · have hne : r ≠ 0 ∨ τ ≠ 0 := by
            rcases Nat.eq_zero_or_pos r with h | h
            · right; exact hτ (fun h' => hbr ⟨h, h'⟩)
            · left; omega
          rw [digs_part hb.1 hne, List.map_cons] at hrv
          have hnext : (rv ++ [ℓ.getD (r % b) 0]) ++ (digs b (r / b + b ^ i * τ)).map (fun d => ℓ.getD d 0) = R := by rw [← hrv]; simp
          have hri' : r / b < b ^ i := by
            rw [Nat.pow_succ, Nat.mul_comm] at hri
            exact Nat.div_lt_of_lt_mul hri
          repeat' first
            | (simp only [hb64, hmod, hdiv, hw, Int.toNat_natCast])
            | (with_reducible first | refine PW.seq ?_ | refine PW.block ?_ | refine PW.fork ?_ | refine PW.skip ?_ | refine PW.exit ?_ | refine PW.ret ?_ | refine PW.scope ?_ | refine PW.label ?_ | refine PW.goto ?_)
            | (with_reducible refine PW.region ttOk ?_ ?_
               · rfl)
            | (with_reducible refine PW.regionD ttOk mixed ?_ ?_ ?_
               · rfl
               · rfl) | (with_reducible refine ifW_dec (fun g => ?_) (fun g => ?_) <;> first | (exfalso; omega) | (simp -dsimp only [g, wkI])) | (with_reducible refine condE_dec (fun g => ?_) (fun g => ?_) <;> try (exfalso; omega)) | (with_reducible refine condE_not (fun g => ?_) (fun g => ?_) <;> try (exfalso; omega)) | (simp -dsimp only [↓wkA, ↓wkE, ↓wkJ, wkB, ↓tt, Nat.reduceBEq, Nat.reduceEqDiff, ↓reduceIte, Nat.reduceLT, Array.toList, Nat.reduceAdd, Nat.reduceMul, Int.reduceToNat, Int.reducePow, UInt8.reduceToNat]) | (simp -dsimp (disch := first | assumption | omega) only [dec_t, dec_f])
            | (refine And.intro ?_ ?_
               · first | omega | decide | (simp (disch := omega) only [wkW, Int.reduceToNat, Int.reducePow] <;> omega) | (simp <;> omega)) | (simp (disch := omega) only [wkW, Int.reduceToNat, Int.reducePow]) | fail
          · obtain rfl : r = 0 := by omega
            simp only [Int.zero_ediv, Int.zero_emod, Int.toNat_zero, show IntKind.wrap .u64 0 = 0 from rfl]
            simp only [Nat.zero_mod, Nat.zero_div] at hnext hri'
            refine Again.mk i ((15, .int .i64 ((j + 1 : Nat) : Int)) :: (13, .int .u64 ((0 : Nat) : Int)) :: ifO b k ℓ n' (rv ++ [ℓ.getD 0 0]).length) (ihO t' (rv ++ [ℓ.getD 0 0])) (by omega) (Sub.norm ⟨rfl, rfl, rfl, rfl, rfl, rfl, rfl, ?_, trivial⟩ ⟨rfl, rfl, trivial⟩ (by simp) rfl rfl rfl rfl) ⟨j + 1, 0, rv ++ [ℓ.getD 0 0], by omega, hri', hnext, rfl, rfl⟩
            simp -dsimp only [↓wkA, ↓wkE, ↓wkJ, wkB, ↓tt, Nat.reduceBEq, Nat.reduceEqDiff, ↓reduceIte, Nat.reduceLT, Array.toList, Nat.reduceAdd, Nat.reduceMul, Int.reduceToNat, Int.reducePow, UInt8.reduceToNat]
          · refine Again.mk i ((15, .int .i64 ((j + 1 : Nat) : Int)) :: (13, .int .u64 ((r / b : Nat) : Int)) :: ifO b k ℓ n' (rv ++ [ℓ.getD (r % b) 0]).length) (ihO t' (rv ++ [ℓ.getD (r % b) 0])) (by omega) (Sub.norm ⟨rfl, rfl, rfl, rfl, rfl, rfl, rfl, ?_, trivial⟩ ⟨rfl, rfl, trivial⟩ (by simp) rfl rfl rfl rfl) ⟨j + 1, r / b, rv ++ [ℓ.getD (r % b) 0], by omega, hri', hnext, rfl, rfl⟩
            simp -dsimp only [↓wkA, ↓wkE, ↓wkJ, wkB, ↓tt, Nat.reduceBEq, Nat.reduceEqDiff, ↓reduceIte, Nat.reduceLT, Array.toList, Nat.reduceAdd, Nat.reduceMul, Int.reduceToNat, Int.reducePow, UInt8.reduceToNat]
  · rintro F H ⟨rfl, rfl⟩
    have hR0 : R ≠ [] := by
      intro h
      rw [h] at hR
      have h3 : (val a).toNat ≠ 0 := by
        obtain ⟨n, hn⟩ : ∃ n, size a = n + 1 := ⟨size a - 1, by omega⟩
        have h4 := sizeN_top a a.length h2
        have h5 : a.getD n 0 ≠ 0 := by
          have : size a - 1 = n := by omega
          rw [← this]; exact h4
        have h6 := getD_limb ha n
        have h7 := vt_bound ha n
        have h8 : 0 < B64 ^ n * a.getD n 0 := Int.mul_pos (pow_pos64 n) (by omega)
        have h9 := vt_size a
        rw [hn] at h9
        simp only [vt] at h9
        omega
      rw [digs_step hb.1 h3] at hR
      cases hR
    repeat' first
      | (with_reducible first | refine PW.seq ?_ | refine PW.block ?_ | refine PW.fork ?_ | refine PW.skip ?_ | refine PW.exit ?_ | refine PW.ret ?_ | refine PW.scope ?_ | refine PW.label ?_ | refine PW.goto ?_)
      | (with_reducible refine PW.region ttOk ?_ ?_
         · rfl)
      | (with_reducible refine PW.regionD ttOk mixed ?_ ?_ ?_
         · rfl
         · rfl) | (with_reducible refine ifW_dec (fun g => ?_) (fun g => ?_) <;> first | (exfalso; omega) | (simp -dsimp only [g, wkI])) | (with_reducible refine condE_dec (fun g => ?_) (fun g => ?_) <;> try (exfalso; omega)) | (with_reducible refine condE_not (fun g => ?_) (fun g => ?_) <;> try (exfalso; omega)) | (simp -dsimp only [↓wkA, ↓wkE, ↓wkJ, wkB, ↓tt, Nat.reduceBEq, Nat.reduceEqDiff, ↓reduceIte, Nat.reduceLT, Array.toList, Nat.reduceAdd, Nat.reduceMul, Int.reduceToNat, Int.reducePow, UInt8.reduceToNat]) | (simp -dsimp (disch := first | assumption | omega) only [dec_t, dec_f])
      | (refine And.intro ?_ ?_
         · first | omega | decide | (simp (disch := omega) only [wkW, Int.reduceToNat, Int.reducePow] <;> omega) | (simp <;> omega)) | (simp (disch := omega) only [wkW, Int.reduceToNat, Int.reducePow]) | fail
    refine PW.meetB (fun F H => ∃ p, F = [(16, .ptr 2 0 0)] ∧ H = ⟨4, [(2, .var [p, .sl 3 0 R.reverse.length true]), (3, .ints .u8 R.reverse)], [], [(3, 5), (2, 177)]⟩) ?_ ?_
    · refine PW.loopA (IBuild R) R.length [(17, .int .i64 ((R.length : Int) - 1)), (16, .ptr 2 0 0), (12, .sl 1 0 R.length true)] (ihB R .nilptr []) (Sub.trans (Sub.nilField 2 [.nilptr, .nil] 1 5 .u8 rfl rfl (by decide) (by show 2 < 3; omega)) (Sub.norm ⟨?_, rfl, rfl, trivial⟩ ⟨rfl, rfl, rfl, trivial⟩ (Nat.le_refl _) rfl rfl rfl rfl (tyOk_spec rfl))) ⟨.nilptr, Nat.le_refl _, .inl rfl, rfl, by rw [List.drop_length]; rfl⟩ ?_
      · simp (disch := omega) only [↓wkA, ↓wkE, ↓wkJ, wkB, ↓tt, Nat.reduceBEq, Nat.reduceEqDiff, ↓reduceIte, Nat.reduceLT, Array.toList, Nat.reduceAdd, Nat.reduceMul, Int.reduceToNat, Int.reducePow, UInt8.reduceToNat, wkW, Int.reduceToNat, Int.reducePow]
      rintro i F H ⟨p, hin, hp, rfl, rfl⟩
      cases i with
      | zero =>
        simp only [List.drop_zero]
        repeat' first
          | (with_reducible first | refine PW.seq ?_ | refine PW.block ?_ | refine PW.fork ?_ | refine PW.skip ?_ | refine PW.exit ?_ | refine PW.ret ?_ | refine PW.scope ?_ | refine PW.label ?_ | refine PW.goto ?_)
          | (with_reducible refine PW.region ttOk ?_ ?_
             · rfl)
          | (with_reducible refine PW.regionD ttOk mixed ?_ ?_ ?_
             · rfl
             · rfl) | (with_reducible refine ifW_dec (fun g => ?_) (fun g => ?_) <;> first | (exfalso; omega) | (simp -dsimp only [g, wkI])) | (with_reducible refine condE_dec (fun g => ?_) (fun g => ?_) <;> try (exfalso; omega)) | (with_reducible refine condE_not (fun g => ?_) (fun g => ?_) <;> try (exfalso; omega)) | (simp -dsimp only [↓wkA, ↓wkE, ↓wkJ, wkB, ↓tt, Nat.reduceBEq, Nat.reduceEqDiff, ↓reduceIte, Nat.reduceLT, Array.toList, Nat.reduceAdd, Nat.reduceMul, Int.reduceToNat, Int.reducePow, UInt8.reduceToNat]) | (simp -dsimp (disch := first | assumption | omega) only [dec_t, dec_f])
          | (refine And.intro ?_ ?_
             · first | omega | decide | (simp (disch := omega) only [wkW, Int.reduceToNat, Int.reducePow] <;> omega) | (simp <;> omega)) | (simp (disch := omega) only [wkW, Int.reduceToNat, Int.reducePow]) | fail
        refine Meet.mk [(16, .ptr 2 0 0)] ⟨4, [(2, .var [p, .sl 3 0 R.reverse.length true]), (3, .ints .u8 R.reverse)], [], [(3, 5), (2, 177)]⟩ (Sub.norm ⟨rfl, trivial⟩ ⟨rfl, rfl, trivial⟩ (Nat.le_refl _) rfl rfl rfl ?_ (tyOk_spec rfl)) ⟨p, rfl, rfl⟩
        rcases hp with rfl | rfl <;> rfl
      | succ i =>
        have e : (((i + 1 : Nat)) : Int) - 1 = (i : Int) := by omega
        rw [e]
        simp only [ihB]
        have hlen : (R.drop (i + 1)).reverse.length ≤ 100000000000000 := by simp; omega
        have hnext : (R.drop (i + 1)).reverse ++ [R.getD i 0] = (R.drop i).reverse := by
          rw [List.drop_eq_getElem_cons (show i < R.length by omega), List.reverse_cons, List.getD_eq_getElem?_getD, List.getElem?_eq_getElem (by omega)]; rfl
        have hll : (R.drop (i + 1)).reverse.length + 1 = (R.drop i).reverse.length := by rw [← hnext]; simp
        repeat' first
          | (with_reducible first | refine PW.seq ?_ | refine PW.block ?_ | refine PW.fork ?_ | refine PW.skip ?_ | refine PW.exit ?_ | refine PW.ret ?_ | refine PW.scope ?_ | refine PW.label ?_ | refine PW.goto ?_)
          | (with_reducible refine PW.region ttOk ?_ ?_
             · rfl)
          | (with_reducible refine PW.regionD ttOk mixed ?_ ?_ ?_
             · rfl
             · rfl) | (with_reducible refine ifW_dec (fun g => ?_) (fun g => ?_) <;> first | (exfalso; omega) | (simp -dsimp only [g, wkI])) | (with_reducible refine condE_dec (fun g => ?_) (fun g => ?_) <;> try (exfalso; omega)) | (with_reducible refine condE_not (fun g => ?_) (fun g => ?_) <;> try (exfalso; omega)) | (simp -dsimp only [↓wkA, ↓wkE, ↓wkJ, wkB, ↓tt, Nat.reduceBEq, Nat.reduceEqDiff, ↓reduceIte, Nat.reduceLT, Array.toList, Nat.reduceAdd, Nat.reduceMul, Int.reduceToNat, Int.reducePow, UInt8.reduceToNat]) | (refine call_h (builder_WriteByte _ (r := 2) (r2 := 3) (by decide) (Nat.lt_of_lt_of_le (by decide : 2 < 4) (Nat.le_refl _)) (Nat.lt_of_lt_of_le (by decide : 3 < 4) (Nat.le_refl _)) rfl rfl hp rfl rfl hlen) (fun res H' hR' => ?_); obtain ⟨rfl, rfl⟩ := hR'; refine ⟨_, _, rfl, ?_⟩) | (simp -dsimp only [hnext, hll]) | (simp -dsimp (disch := first | assumption | omega) only [dec_t, dec_f])
          | (refine And.intro ?_ ?_
             · first | omega | decide | (simp (disch := omega) only [wkW, Int.reduceToNat, Int.reducePow] <;> omega) | (simp <;> omega)) | (simp (disch := omega) only [wkW, Int.reduceToNat, Int.reducePow]) | fail
        exact Again.mk i [(17, .int .i64 ((i : Int) - 1)), (16, .ptr 2 0 0), (12, .sl 1 0 R.length true)] (ihB R (.ptr 2 0 0) (R.drop i).reverse) (by omega) (Sub.norm ⟨rfl, rfl, rfl, trivial⟩ ⟨rfl, rfl, rfl, trivial⟩ (by show 4 ≤ 5; omega) rfl rfl rfl rfl (tyOk_spec rfl)) ⟨_, by omega, .inr rfl, rfl, rfl⟩
    rintro F H ⟨p, rfl, rfl⟩
    repeat' first
      | (with_reducible first | refine PW.seq ?_ | refine PW.block ?_ | refine PW.fork ?_ | refine PW.skip ?_ | refine PW.exit ?_ | refine PW.ret ?_ | refine PW.scope ?_ | refine PW.label ?_ | refine PW.goto ?_)
      | (with_reducible refine PW.region ttOk ?_ ?_
         · rfl)
      | (with_reducible refine PW.regionD ttOk mixed ?_ ?_ ?_
         · rfl
         · rfl) | (with_reducible refine ifW_dec (fun g => ?_) (fun g => ?_) <;> first | (exfalso; omega) | (simp -dsimp only [g, wkI])) | (with_reducible refine condE_dec (fun g => ?_) (fun g => ?_) <;> try (exfalso; omega)) | (with_reducible refine condE_not (fun g => ?_) (fun g => ?_) <;> try (exfalso; omega)) | (simp -dsimp only [↓wkA, ↓wkE, ↓wkJ, wkB, ↓tt, Nat.reduceBEq, Nat.reduceEqDiff, ↓reduceIte, Nat.reduceLT, Array.toList, Nat.reduceAdd, Nat.reduceMul, Int.reduceToNat, Int.reducePow, UInt8.reduceToNat]) | (refine call_h (builder_String (H := ⟨_, _, _, _⟩) (r := 2) (r2 := 3) (by decide) rfl rfl rfl rfl (by simpa using hR0) (fun x hx => hRb x (List.mem_reverse.1 hx)) (by simp; omega)) (fun res H' hR' => ?_); obtain ⟨rfl, rfl⟩ := hR'; refine ⟨_, _, rfl, ?_⟩) | (simp -dsimp (disch := first | assumption | omega) only [dec_t, dec_f])
      | (refine And.intro ?_ ?_
         · first | omega | decide | (simp (disch := omega) only [wkW, Int.reduceToNat, Int.reducePow] <;> omega) | (simp <;> omega)) | (simp (disch := omega) only [wkW, Int.reduceToNat, Int.reducePow]) | fail
    rw [text, hℓ, hR]
theorem in_base (a : List Int) (ha : Limbs a) (hla : a.length ≤ 17592186043904) (base : Int) (hb : -9223372036854775808 ≤ base ∧ base ≤ 9223372036854775807) (u : Bool) :
    Meets Tryz.prog 129 [.ints .u64 a, .int .i64 base, .bool u] (inBaseR a base u) := by
  by_cases h : 4096 < size a ∨ (base < 2 ∨ 36 < base) ∨ size a = 0
  · exact in_base_err a hla base hb u h
  · have h' := in_base_main a ha hla base.toNat (by omega) u (by omega) (by omega)
    rw [show ((base.toNat : Nat) : Int) = base by omega] at h'
    unfold inBaseR
    rw [if_neg (by omega), if_neg (by omega), if_neg (by omega)]
    exact h'
theorem list_ext {a b : List Int} (hl : a.length = b.length) (h : ∀ j, j < a.length → a.getD j 0 = b.getD j 0) : a = b := by
  refine List.ext_getElem hl fun i h1 h2 => ?_
  have := h i h1
  simpa [List.getD_eq_getElem?_getD, List.getElem?_eq_getElem h1, List.getElem?_eq_getElem h2] using this
def letter (u : Bool) (d : Nat) : Int := (lettersOf u).getD d 0
theorem letter_all : ∀ u : Bool, ∀ d : Fin 36, worth (letter u d.val) = (d.val : Int) ∧ (letter u d.val = 48 → d.val = 0) ∧ 0 ≤ letter u d.val ∧ letter u d.val < 256 ∧ (u = true → ¬ (97 ≤ letter u d.val ∧ letter u d.val ≤ 122)) ∧ (u = false → ¬ (65 ≤ letter u d.val ∧ letter u d.val ≤ 90)) := by decide
theorem text_nil (b : Nat) (u : Bool) : text b u 0 = [] := by simp [text, digs_zero]
theorem text_step {b : Nat} (hb : 2 ≤ b) (u : Bool) {v : Nat} (hv : v ≠ 0) : text b u v = text b u (v / b) ++ [letter u (v % b)] := by
  unfold text letter
  rw [digs_step hb hv, List.map_cons, List.reverse_cons]
theorem numN_append (b : Nat) (l : List Int) (x : Int) : ∀ i, i ≤ l.length → numN b (l ++ [x]) i = numN b l i
  | 0, _ => rfl
  | i + 1, h => by
    simp only [numN]
    rw [numN_append b l x i (by omega)]
    rw [show (l ++ [x]).getD i 0 = l.getD i 0 by simp [List.getD_eq_getElem?_getD, List.getElem?_append_left (show i < l.length by omega)]]
theorem num_append (b : Nat) (l : List Int) (x : Int) : num b (l ++ [x]) = num b l * b + (worth x).toNat := by
  unfold num
  rw [List.length_append, List.length_singleton]
  simp only [numN]
  rw [numN_append b l x _ (Nat.le_refl _)]
  rw [show (l ++ [x]).getD l.length 0 = x by simp [List.getD_eq_getElem?_getD]]
theorem num_text {b : Nat} (hb : 2 ≤ b ∧ b ≤ 36) (u : Bool) : ∀ v, num b (text b u v) = v := by
  intro v
  induction v using Nat.strongRecOn with
  | _ v ih =>
    by_cases h0 : v = 0
    · subst h0; rw [text_nil]; rfl
    · have hm := Nat.mod_lt v (show b > 0 by omega)
      have hl := (letter_all u ⟨v % b, by omega⟩).1
      simp only at hl
      rw [text_step hb.1 u h0, num_append, ih _ (Nat.div_lt_self (by omega) (by omega)), hl, Int.toNat_natCast]
      exact Nat.div_add_mod' v b
theorem text_ne {b : Nat} (hb : 2 ≤ b) (u : Bool) {v : Nat} (hv : v ≠ 0) : text b u v ≠ [] := by
  rw [text_step hb u hv]; simp
theorem text_head {b : Nat} (hb : 2 ≤ b ∧ b ≤ 36) (u : Bool) : ∀ v, v ≠ 0 → (text b u v).getD 0 0 ≠ 48 := by
  intro v
  induction v using Nat.strongRecOn with
  | _ v ih =>
    intro h0
    have hm := Nat.mod_lt v (show b > 0 by omega)
    rw [text_step hb.1 u h0]
    by_cases h1 : v / b = 0
    · rw [h1, text_nil]
      have hl := (letter_all u ⟨v % b, by omega⟩).2.1
      simp only at hl
      intro h
      have h2 := hl (by simpa using h)
      have := Nat.div_add_mod v b
      rw [h1, h2] at this
      simp at this; omega
    · have h2 := ih _ (Nat.div_lt_self (by omega) (by omega)) h1
      have h3 := text_ne hb.1 u h1
      cases hc : text b u (v / b) with
      | nil => exact absurd hc h3
      | cons x l => rw [hc] at h2; simpa using h2
theorem text_all {b : Nat} (hb : 2 ≤ b ∧ b ≤ 36) (u : Bool) (v : Nat) : ∀ x ∈ text b u v, ∃ d : Nat, d < b ∧ x = letter u d := by
  intro x hx
  unfold text at hx
  rw [List.mem_reverse] at hx
  obtain ⟨d, hd, rfl⟩ := List.mem_map.1 hx
  exact ⟨d, digs_lt hb.1 _ d hd, rfl⟩
def written (b : Nat) (u : Bool) (v : Nat) : List Int := if v = 0 then [48] else text b u v
theorem num_zero (b : Nat) : num b [48] = 0 := by
  have h : worth 48 = 0 := by decide
  simp [num, numN, h]
theorem written_num {b : Nat} (hb : 2 ≤ b ∧ b ≤ 36) (u : Bool) (v : Nat) : num b (written b u v) = v := by
  unfold written
  split
  · rename_i h; rw [h]; exact num_zero b
  · exact num_text hb u v
theorem written_ne {b : Nat} (hb : 2 ≤ b ∧ b ≤ 36) (u : Bool) (v : Nat) : written b u v ≠ [] := by
  unfold written
  split
  · simp
  · exact text_ne hb.1 u (by assumption)
theorem val_nonneg {a : List Int} (ha : Limbs a) : 0 ≤ val a := (vt_bound ha a.length).1
theorem size_zero {a : List Int} (ha : Limbs a) : size a = 0 ↔ val a = 0 := by
  constructor
  · intro h
    have := vt_size a
    rw [h] at this
    exact this.symm
  · intro h
    have h1 := trim_eq ha
    rw [h] at h1
    have h2 := trim_len a
    rw [h1] at h2
    rw [← h2]
    simp [natL, digs_zero]
set_option exponentiation.threshold 300000 in
theorem pow4096 : B64 ^ 4096 = ((2 ^ 262144 : Nat) : Int) := by
  rw [show (262144 : Nat) = 64 * 4096 from rfl, Nat.pow_mul, Int.natCast_pow]; rfl
theorem in_base_ok {a : List Int} (ha : Limbs a) (hla : a.length ≤ 17592186043904) {b : Nat} (hb : 2 ≤ b ∧ b ≤ 36) (u : Bool) (h : size a ≤ 4096) : Meets Tryz.prog 129 [.ints .u64 a, .int .i64 (b : Int), .bool u] (.tup [.str (written b u (val a).toNat), .int .i64 0]) := by
  have h1 := in_base a ha hla (b : Int) (by omega) u
  unfold inBaseR at h1
  rw [if_neg (by omega), if_neg (by omega)] at h1
  unfold written
  by_cases h0 : size a = 0
  · rw [if_pos h0] at h1
    rw [if_pos (by rw [(size_zero ha).1 h0]; rfl)]
    exact h1
  · rw [if_neg h0] at h1
    have := val_nonneg ha
    rw [if_neg (fun h => h0 ((size_zero ha).2 (by omega)))]
    rw [Int.toNat_natCast] at h1
    exact h1
theorem from_base_ok {s : List Int} (hs : Bytes' s) (hsl : s.length ≤ 1000000000000000) {b : Nat} (hb : 2 ≤ b ∧ b ≤ 36) (hne : s ≠ []) (hok : ∀ j, j < s.length → worth (s.getD j 0) < b) (hv : ((num b s : Nat) : Int) < B64 ^ 4096) :
    Meets Tryz.prog 59 [.str s, .int .i64 (b : Int)] (.tup [.ints .u64 (natL (num b s)), .int .i64 0, .int .i64 0]) :=
  from_base_main s hs hsl b hb hne hok _ (fun _ => rfl) (fun h => absurd hv h)
-- limbs of a number
theorem natL_limbs : ∀ v, Limbs (natL v) := by
  intro v x hx
  unfold natL at hx
  obtain ⟨d, hd, rfl⟩ := List.mem_map.1 hx
  have := digs_lt (b := 18446744073709551616) (by decide) v d hd
  omega
theorem val_natL : ∀ v : Nat, val (natL v) = (v : Int) := by
  intro v
  induction v using Nat.strongRecOn with
  | _ v ih =>
    by_cases h0 : v = 0
    · subst h0; simp [natL, digs_zero, val, vt]
    · have e : natL v = ((v % 18446744073709551616 : Nat) : Int) :: natL (v / 18446744073709551616) := by
        unfold natL
        rw [digs_step (b := 18446744073709551616) (by decide) h0, List.map_cons]
      rw [e, val_cons, ih _ (Nat.div_lt_self (by omega) (by decide))]
      simp only [B64]
      omega
theorem natL_size {v : Nat} (h : ((v : Nat) : Int) < B64 ^ 4096) : size (natL v) ≤ 4096 := by
  have h1 := nrm_bound (nrm_trim (natL_limbs v)) (k := 4096) (by rw [val_trim, val_natL]; exact h)
  rwa [trim_len] at h1
set_option exponentiation.threshold 300000 in
theorem natL_len {v : Nat} (h : ((v : Nat) : Int) < B64 ^ 4096) : (natL v).length ≤ 262144 := by
  unfold natL
  rw [List.length_map]
  refine digs_len (by decide) 262144 v ?_
  rw [pow4096] at h
  omega
theorem forth_in {b : Nat} (hb : 2 ≤ b ∧ b ≤ 36) {v : Nat} (h : ((v : Nat) : Int) < B64 ^ 4096) : Meets Tryz.prog 129 [.ints .u64 (natL v), .int .i64 (b : Int), .bool false] (.tup [.str (written b false v), .int .i64 0]) := by
  have := in_base_ok (natL_limbs v) (by have := natL_len h; omega) hb false (natL_size h)
  rwa [val_natL, Int.toNat_natCast] at this
end Go.Proofs.YtbmhnjghpjkjpaaGreatDoor

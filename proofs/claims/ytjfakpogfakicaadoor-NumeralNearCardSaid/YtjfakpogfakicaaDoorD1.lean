import Derived.Test.YtjfakpogfakicaaDoorN3
set_option linter.unusedVariables false
set_option linter.unusedSimpArgs false
namespace Go.Proofs.YtjfakpogfakicaaDoor
open Go Go.PV

/-- How many bits a number takes. -/
def bitlen (n : Nat) : Nat := if n = 0 then 0 else n.log2 + 1

theorem bitlen_eq {n k : Nat} (h1 : 2 ^ k ≤ n) (h2 : n < 2 ^ (k + 1)) : bitlen n = k + 1 := by
  have h0 : n ≠ 0 := by have := Nat.two_pow_pos k; omega
  unfold bitlen
  rw [if_neg h0, (Nat.log2_eq_iff h0).2 ⟨h1, h2⟩]

theorem bitlen_spec {n : Nat} (h : n ≠ 0) : ∃ k, bitlen n = k + 1 ∧ 2 ^ k ≤ n ∧ n < 2 ^ (k + 1) := by
  refine ⟨n.log2, by simp [bitlen, h], ?_⟩
  exact (Nat.log2_eq_iff h).1 rfl

theorem bitlen_div {n : Nat} (m : Nat) (h : 2 ^ m ≤ n) : bitlen n = bitlen (n / 2 ^ m) + m := by
  have hp := Nat.two_pow_pos m
  have h0 : n / 2 ^ m ≠ 0 := by
    have := Nat.div_pos h hp; omega
  obtain ⟨k, hk, h1, h2⟩ := bitlen_spec h0
  rw [hk]
  have h3 : 2 ^ (k + m) ≤ n := by
    rw [Nat.pow_add]; exact (Nat.le_div_iff_mul_le hp).1 h1
  have h4 : n < 2 ^ (k + m + 1) := by
    rw [show k + m + 1 = (k + 1) + m by omega, Nat.pow_add]
    exact (Nat.div_lt_iff_lt_mul hp).1 h2
  rw [bitlen_eq h3 h4]; omega

def len8 : List Int := (List.range 256).map fun k => ((bitlen k : Nat) : Int)

theorem len8_at (L : List Int) (hL : L = len8) (k : Nat) (hk : k < 256) : L.getD k 0 = ((bitlen k : Nat) : Int) := by
  subst hL
  simp [len8, hk]

theorem len8_len (L : List Int) (hL : L = len8) : L.length = 256 := by subst hL; simp [len8]

theorem u64_shr (x : Int) (hx : 0 ≤ x) (k : Nat) : (x / 2 ^ k).toNat = x.toNat / 2 ^ k := by
  obtain ⟨n, rfl⟩ := Int.eq_ofNat_of_zero_le hx
  have : ((n : Int) / 2 ^ k) = ((n / 2 ^ k : Nat) : Int) := by simp
  rw [this, Int.toNat_natCast, Int.toNat_natCast]

theorem bl_step (x : Int) (m : Nat) (M : Int) (hM : M = 2 ^ m) (hx : M ≤ x) : ((bitlen x.toNat : Nat) : Int) = ((bitlen (x / M).toNat : Nat) : Int) + m := by
  subst hM
  have hp : (0 : Int) < 2 ^ m := Int.pow_pos (by decide)
  rw [u64_shr x (by omega), bitlen_div m (n := x.toNat) (by
    have : ((2 ^ m : Nat) : Int) ≤ x := by simpa using hx
    omega)]
  omega

theorem bitlen_le {n : Nat} {k : Nat} (h : n < 2 ^ k) : bitlen n ≤ k := by
  by_cases h0 : n = 0
  · subst h0; simp [bitlen]
  · obtain ⟨j, hj, h1, _⟩ := bitlen_spec h0
    rw [hj]
    have : 2 ^ j < 2 ^ k := Nat.lt_of_le_of_lt h1 h
    have := (Nat.pow_lt_pow_iff_right (by decide)).1 this
    omega

theorem wrapbl (y : Int) (h : 0 ≤ y ∧ y < 256) : IntKind.wrap .i64 ((bitlen y.toNat : Nat) : Int) = ((bitlen y.toNat : Nat) : Int) := by
  have := bitlen_le (n := y.toNat) (k := 8) (by simp only [Nat.reducePow]; omega)
  exact wrap_i64 (by omega)
theorem wrapbl2 (c y : Int) (hc : 0 ≤ c ∧ c ≤ 100) (h : 0 ≤ y ∧ y < 256) : IntKind.wrap .i64 (c + ((bitlen y.toNat : Nat) : Int)) = c + ((bitlen y.toNat : Nat) : Int) := by
  have := bitlen_le (n := y.toNat) (k := 8) (by simp only [Nat.reducePow]; omega)
  exact wrap_i64 (by omega)

set_option maxRecDepth 100000 in
set_option maxHeartbeats 2000000 in
theorem len64 (x : Int) (hx : 0 ≤ x ∧ x < B64) : Meets Tryd.prog 39 [.int .u64 x] (.int .i64 ((bitlen x.toNat : Nat) : Int)) := by
  refine meets_by ttOk Tryd.func39 Tryd.ntmps39 Tryd.results39 (by kernel_rfl) (c := _) rfl rfl rfl fun E => ?_
  simp only [B64] at hx
  simp only [argsFrame]
  have h32 := fun h : 4294967296 ≤ x => bl_step x 32 4294967296 (by decide) h
  have h16 := fun (y : Int) (h : 65536 ≤ y) => bl_step y 16 65536 (by decide) h
  have h8 := fun (y : Int) (h : 256 ≤ y) => bl_step y 8 256 (by decide) h
  have bound := fun (y : Int) (h : 0 ≤ y) (h2 : y < 256) => bitlen_le (n := y.toNat) (k := 8) (by simp only [Nat.reducePow]; omega)
  repeat' first
    | (simp (disch := omega) only [wkW, Int.reduceToNat, Int.reducePow])
    | (with_reducible first | refine PW.seq ?_ | refine PW.block ?_ | refine PW.fork ?_ | refine PW.skip ?_ | refine PW.exit ?_ | refine PW.ret ?_)
    | (with_reducible refine PW.region ttOk ?_ ?_
       · rfl)
    | (with_reducible refine PW.regionD ttOk mixed ?_ ?_ ?_
       · rfl
       · rfl)
    | (with_reducible refine ifW_dec (fun g => ?_) (fun g => ?_) <;> first | (exfalso; omega) | (simp -dsimp only [g, wkI]))
    | (with_reducible refine condE_dec (fun g => ?_) (fun g => ?_) <;> try (exfalso; omega))
    | (with_reducible refine condE_not (fun g => ?_) (fun g => ?_) <;> try (exfalso; omega))
    | (simp -dsimp only [↓wkA, wkB, ↓tt, Nat.reduceBEq, Nat.reduceEqDiff, ↓reduceIte, Nat.reduceLT, Array.toList, Nat.reduceAdd, Nat.reduceMul, Int.reduceToNat, Int.reducePow, UInt8.reduceToNat])
    | (rw [len8_len _ (by decide +kernel)])
    | (simp -dsimp (disch := first | assumption | omega) only [dec_t, dec_f])
    | (refine And.intro ?_ ?_
       · first | omega | decide | (simp (disch := omega) only [wkW, Int.reduceToNat, Int.reducePow] <;> omega) | (simp <;> omega))
    | (simp (disch := omega) only [wkW, Int.reduceToNat, Int.reducePow])
    | fail
  all_goals
    rw [len8_at _ (by decide +kernel) _ (by omega)]
    refine congrArg _ ?_
    try rw [h32 (by assumption)]
    try rw [h16 _ (by assumption)]
    try rw [h8 _ (by assumption)]
    simp (disch := omega) only [wrapbl, wrapbl2]
    omega

end Go.Proofs.YtjfakpogfakicaaDoor


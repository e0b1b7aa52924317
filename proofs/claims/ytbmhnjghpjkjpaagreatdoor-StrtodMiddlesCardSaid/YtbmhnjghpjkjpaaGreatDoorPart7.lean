/- Contracts and laws that the row leans on, part 7: texts that were built one by one, laid together. -/
import Derived.Test.YtbmhnjghpjkjpaaGreatDoorPart6
set_option maxHeartbeats 4000000
set_option maxRecDepth 4000
set_option exponentiation.threshold 300000
set_option linter.unusedVariables false
set_option linter.unusedSimpArgs false
namespace Go.Proofs.YtbmhnjghpjkjpaaGreatDoor
open Go Go.PV
theorem pow64_two (k : Nat) : 18446744073709551616 ^ k = 2 ^ (64 * k) := by rw [Nat.pow_mul]
theorem odd_unique {a b m n : Nat} (h : 2 ^ a * (2 * m + 1) = 2 ^ b * (2 * n + 1)) : a = b := by
  have key : ∀ a c m n : Nat, 2 ^ a * (2 * m + 1) = 2 ^ (a + c) * (2 * n + 1) → c = 0 := by
    intro a c m n h
    rw [Nat.pow_add, Nat.mul_assoc] at h
    have h2 := Nat.eq_of_mul_eq_mul_left (Nat.pow_pos (by decide)) h
    cases c with
    | zero => rfl
    | succ c =>
      rw [Nat.pow_succ, Nat.mul_comm (2 ^ c), Nat.mul_assoc] at h2
      omega
  rcases Nat.le_total a b with hab | hab
  · obtain ⟨c, rfl⟩ := Nat.le.dest hab
    have := key a c m n h; omega
  · obtain ⟨c, rfl⟩ := Nat.le.dest hab
    have := key b c n m h.symm; omega
theorem odd_part {v : Nat} (h : v ≠ 0) : ∃ t m, v = 2 ^ t * (2 * m + 1) := by
  obtain ⟨m, h1, _⟩ := Lib.ctzFrom_spec v v (by omega) Nat.lt_two_pow_self
  exact ⟨_, m, h1⟩
theorem limb_zero {v i : Nat} (h : v % 18446744073709551616 ^ i = 0) (hx : v / 18446744073709551616 ^ i % 18446744073709551616 = 0) : v % 18446744073709551616 ^ (i + 1) = 0 := by
  rw [Nat.pow_succ, Nat.mod_mul, h, hx]; rfl
theorem nat_trail_l {l : List Int} {v t m : Nat} (hl : l.length ≤ 5000) (hg : ∀ k, l.getD k 0 = ((v / 18446744073709551616 ^ k % 18446744073709551616 : Nat) : Int)) (hlt : v < 18446744073709551616 ^ l.length) (hd : v = 2 ^ t * (2 * m + 1)) : Meets Tryz.prog 185 [.ints .u64 l] (.int .i64 (t : Int)) := by
  have hv0 : v ≠ 0 := by rw [hd]; exact Nat.ne_of_gt (Nat.mul_pos (Nat.pow_pos (by decide)) (by omega))
  have hfin : v % 18446744073709551616 ^ l.length ≠ 0 := by rw [Nat.mod_eq_of_lt hlt]; exact hv0
  have hhit : ∀ i, v % 18446744073709551616 ^ i = 0 → v / 18446744073709551616 ^ i % 18446744073709551616 ≠ 0 → t = 64 * i + Lib.ctz 64 (v / 18446744073709551616 ^ i % 18446744073709551616) ∧ Lib.ctz 64 (v / 18446744073709551616 ^ i % 18446744073709551616) < 64 := fun i h1 h2 => by
    obtain ⟨h3, k, h4⟩ := ctz_spec h2 (Nat.mod_lt _ (by decide))
    refine ⟨?_, h3⟩
    generalize Lib.ctz 64 (v / 18446744073709551616 ^ i % 18446744073709551616) = c at *
    have h5 := Nat.div_add_mod v (18446744073709551616 ^ i)
    rw [h1, Nat.add_zero] at h5
    have h6 := Nat.div_add_mod (v / 18446744073709551616 ^ i) 18446744073709551616
    rw [h4] at h6
    generalize v / 18446744073709551616 ^ i / 18446744073709551616 = r at *
    have h7 : (18446744073709551616 : Nat) = 2 ^ c * (2 * 2 ^ (63 - c)) := by
      rw [← Nat.pow_succ', ← Nat.pow_add, show c + (63 - c).succ = 64 by omega]
    have h8 : 18446744073709551616 * r = 2 ^ c * (2 * (2 ^ (63 - c) * r)) := by
      conv => lhs; rw [h7]
      rw [Nat.mul_assoc, Nat.mul_assoc]
    rw [h8, ← Nat.mul_add] at h6
    have h9 : v = 2 ^ (64 * i + c) * (2 * (2 ^ (63 - c) * r + k) + 1) := by
      rw [← h5, ← h6, pow64_two, ← Nat.mul_assoc, ← Nat.pow_add]
      congr 1
      omega
    exact odd_unique (hd.symm.trans h9)
  clear hlt
  refine meets_by ttOk Tryz.func185 Tryz.ntmps185 Tryz.results185 (by kernel_rfl) (c := _) rfl rfl rfl fun E => ?_
  simp only [argsFrame]
  repeat' first
    | (with_reducible first | refine PW.seq ?_ | refine PW.block ?_ | refine PW.fork ?_ | refine PW.skip ?_ | refine PW.exit ?_ | refine PW.ret ?_ | refine PW.scope ?_ | refine PW.label ?_ | refine PW.goto ?_)
    | (with_reducible refine PW.region ttOk ?_ ?_
       · rfl)
    | (with_reducible refine PW.regionD ttOk mixed ?_ ?_ ?_
       · rfl
       · rfl) | (with_reducible refine ifW_dec (fun g => ?_) (fun g => ?_) <;> first | (exfalso; omega) | (simp -dsimp only [g, wkI])) | (with_reducible refine condE_dec (fun g => ?_) (fun g => ?_) <;> try (exfalso; omega)) | (with_reducible refine condE_not (fun g => ?_) (fun g => ?_) <;> try (exfalso; omega)) | (simp -dsimp only [↓wkA, ↓wkE, ↓wkJ, wkB, ↓tt, Nat.reduceBEq, Nat.reduceEqDiff, ↓reduceIte, Nat.reduceLT, Array.toList, Nat.reduceAdd, Nat.reduceMul, Int.reduceToNat, Int.reducePow, UInt8.reduceToNat]) | (simp -dsimp (disch := first | assumption | omega) only [dec_t, dec_f])
    | (refine And.intro ?_ ?_
       · first | omega | decide | (simp (disch := omega) only [wkW, Int.reduceToNat, Int.reducePow] <;> omega) | (simp <;> omega)) | (simp (disch := omega) only [wkW, Int.reduceToNat, Int.reducePow]) | fail
  refine PW.loopA (fun n F H => ∃ i, i + n = l.length ∧ v % 18446744073709551616 ^ i = 0 ∧ F = [(7, .int .i64 (i : Int)), (6, .int .i64 l.length), (5, .ints .u64 l)] ∧ H = ⟨0, [], [], []⟩) l.length [(7, .int .i64 ((0 : Nat) : Int)), (6, .int .i64 l.length), (5, .ints .u64 l)] ⟨0, [], [], []⟩ (Sub.norm ⟨rfl, rfl, rfl, trivial⟩ trivial (Nat.le_refl _) rfl rfl rfl rfl) ⟨0, by omega, Nat.mod_one _, rfl, rfl⟩ ?_
  rintro n F H ⟨i, hi, hz, rfl, rfl⟩
  cases n with
  | zero =>
    obtain rfl : i = l.length := by omega
    exact absurd hz hfin
  | succ n =>
    have hgi := hg i
    have hhi := hhit i hz
    have hlz := limb_zero hz
    have hxl := Nat.mod_lt (v / 18446744073709551616 ^ i) (show 18446744073709551616 > 0 by decide)
    clear hg hhit hfin hz hd
    generalize v / 18446744073709551616 ^ i % 18446744073709551616 = x at *
    have hil : i < l.length := by omega
    by_cases hx : x = 0
    · subst hx
      have hz2 := hlz rfl
      clear hlz hhi
      have hx0 : ((0 : Nat) : Int) = 0 := rfl
      rw [hx0] at hgi
      repeat' first
        | (simp only [hgi, Int.toNat_natCast])
        | (with_reducible first | refine PW.seq ?_ | refine PW.block ?_ | refine PW.fork ?_ | refine PW.skip ?_ | refine PW.exit ?_ | refine PW.ret ?_ | refine PW.scope ?_ | refine PW.label ?_ | refine PW.goto ?_)
        | (with_reducible refine PW.region ttOk ?_ ?_
           · rfl)
        | (with_reducible refine PW.regionD ttOk mixed ?_ ?_ ?_
           · rfl
           · rfl) | (with_reducible refine ifW_dec (fun g => ?_) (fun g => ?_) <;> first | (exfalso; omega) | (simp -dsimp only [g, wkI])) | (with_reducible refine condE_dec (fun g => ?_) (fun g => ?_) <;> try (exfalso; omega)) | (with_reducible refine condE_not (fun g => ?_) (fun g => ?_) <;> try (exfalso; omega)) | (simp -dsimp only [↓wkA, ↓wkE, ↓wkJ, wkB, ↓tt, Nat.reduceBEq, Nat.reduceEqDiff, ↓reduceIte, Nat.reduceLT, Array.toList, Nat.reduceAdd, Nat.reduceMul, Int.reduceToNat, Int.reducePow, UInt8.reduceToNat]) | (simp -dsimp (disch := first | assumption | omega) only [dec_t, dec_f])
        | (refine And.intro ?_ ?_
           · first | omega | decide | (simp (disch := omega) only [wkW, Int.reduceToNat, Int.reducePow] <;> omega) | (simp <;> omega)) | (simp (disch := omega) only [wkW, Int.reduceToNat, Int.reducePow]) | fail
      exact Again.mk n [(7, .int .i64 ((i + 1 : Nat) : Int)), (6, .int .i64 l.length), (5, .ints .u64 l)] ⟨0, [], [], []⟩ (by omega) (Sub.norm ⟨rfl, rfl, rfl, trivial⟩ trivial (Nat.le_refl _) rfl rfl rfl rfl) ⟨i + 1, by omega, hz2, rfl, rfl⟩
    · obtain ⟨h1, h2⟩ := hhi hx
      have htr := trailing64 x hxl
      have hne : (x : Int) ≠ 0 := by omega
      have w1 : IntKind.wrap .i64 (64 * (i : Int)) = 64 * (i : Int) := wrap_i64 (by omega)
      have w2 : IntKind.wrap .i64 (64 * (i : Int) + ((Lib.ctz 64 x : Nat) : Int)) = (t : Int) := by rw [wrap_i64 (by omega)]; omega
      have hdec : decide ((x : Int) = 0) = false := decide_eq_false hne
      clear hlz h1 hhi
      generalize Lib.ctz 64 x = c at *
      repeat' first
        | (simp only [hgi, w1, w2, hdec, Int.toNat_natCast])
        | (with_reducible first | refine PW.seq ?_ | refine PW.block ?_ | refine PW.fork ?_ | refine PW.skip ?_ | refine PW.exit ?_ | refine PW.ret ?_ | refine PW.scope ?_ | refine PW.label ?_ | refine PW.goto ?_)
        | (with_reducible refine PW.region ttOk ?_ ?_
           · rfl)
        | (with_reducible refine PW.regionD ttOk mixed ?_ ?_ ?_
           · rfl
           · rfl) | (with_reducible refine ifW_dec (fun g => ?_) (fun g => ?_) <;> first | (exfalso; omega) | (simp -dsimp only [g, wkI])) | (with_reducible refine condE_dec (fun g => ?_) (fun g => ?_) <;> try (exfalso; omega)) | (with_reducible refine condE_not (fun g => ?_) (fun g => ?_) <;> try (exfalso; omega)) | (simp -dsimp only [↓wkA, ↓wkE, ↓wkJ, wkB, ↓tt, Nat.reduceBEq, Nat.reduceEqDiff, ↓reduceIte, Nat.reduceLT, Array.toList, Nat.reduceAdd, Nat.reduceMul, Int.reduceToNat, Int.reducePow, UInt8.reduceToNat]) | (refine call_by (htr) (views_data rfl) ⟨trivial, trivial⟩ rfl ?_) | (simp -dsimp (disch := first | assumption | omega) only [dec_t, dec_f])
        | (refine And.intro ?_ ?_
           · first | omega | decide | (simp (disch := omega) only [wkW, Int.reduceToNat, Int.reducePow] <;> omega) | (simp <;> omega)) | (simp (disch := omega) only [wkW, Int.reduceToNat, Int.reducePow]) | fail
theorem nat_trail {v t m : Nat} (hv : v < NMax) (hd : v = 2 ^ t * (2 * m + 1)) : Meets Tryz.prog 185 [.ints .u64 (natL v)] (.int .i64 (t : Int)) := nat_trail_l (by have := natL_small hv; omega) (natL_getD v) (natL_lt v) hd
theorem lost_iff {u t m : Nat} (hd : u = 2 ^ t * (2 * m + 1)) (n : Nat) : t < n ↔ u % 2 ^ n ≠ 0 := by
  constructor
  · intro h h0
    obtain ⟨c, rfl⟩ : ∃ c, n = t + (c + 1) := ⟨n - t - 1, by omega⟩
    rw [hd, Nat.pow_add, Nat.mul_mod_mul_left] at h0
    have h1 : (2 * m + 1) % 2 ^ (c + 1) = 0 := by
      rcases Nat.mul_eq_zero.1 h0 with h | h
      · exact absurd h (Nat.ne_of_gt (Nat.pow_pos (by decide)))
      · exact h
    rw [Nat.pow_succ'] at h1
    have := Nat.mod_mul (x := 2 * m + 1) (a := 2) (b := 2 ^ c)
    omega
  · intro h
    refine Nat.lt_of_not_le fun hle => h ?_
    obtain ⟨c, rfl⟩ := Nat.le.dest hle
    rw [hd, Nat.pow_add, Nat.mul_assoc]
    exact Nat.mul_mod_right _ _
theorem shr_limb (u q p j : Nat) (hp : p < 64) : u / 2 ^ (64 * q + p) / 18446744073709551616 ^ j % 18446744073709551616 =
    (u / 18446744073709551616 ^ (q + j) % 18446744073709551616) / 2 ^ p + (u / 18446744073709551616 ^ (q + j + 1) % 18446744073709551616) * 2 ^ (64 - p) % 18446744073709551616 := by
  rw [Nat.div_div_eq_div_mul, Nat.pow_add 2 (64 * q), ← pow64_two, Nat.mul_right_comm, ← Nat.pow_add, ← Nat.div_div_eq_div_mul, Nat.pow_succ, ← Nat.div_div_eq_div_mul]
  generalize u / 18446744073709551616 ^ (q + j) = w
  have e : (18446744073709551616 : Nat) = 2 ^ p * 2 ^ (64 - p) := by rw [← Nat.pow_add, show p + (64 - p) = 64 by omega]
  have hP : 0 < 2 ^ p := Nat.pow_pos (by decide)
  have hQ : 0 < 2 ^ (64 - p) := Nat.pow_pos (by decide)
  -- w = lo + B hi
  have h1 := Nat.div_add_mod w 18446744073709551616
  generalize w / 18446744073709551616 = h at *
  generalize hlo : w % 18446744073709551616 = lo at *
  have hlo2 : lo < 18446744073709551616 := by rw [← hlo]; exact Nat.mod_lt _ (by decide)
  have e1 : w / 2 ^ p = lo / 2 ^ p + h * 2 ^ (64 - p) := by
    rw [← h1]
    have : 18446744073709551616 * h + lo = lo + 2 ^ p * (h * 2 ^ (64 - p)) := by
      have e' : 18446744073709551616 * h = 2 ^ p * 2 ^ (64 - p) * h := by rw [← e]
      rw [e']; grind
    rw [this, Nat.add_mul_div_left _ _ hP]
  rw [e1]
  have h3 : lo / 2 ^ p < 2 ^ (64 - p) := by
    rw [Nat.div_lt_iff_lt_mul hP, Nat.mul_comm, ← e]; exact hlo2
  -- h * 2^(64-p) mod B is a multiple of 2^(64-p)
  have h4 : h * 2 ^ (64 - p) % 18446744073709551616 = h % 2 ^ p * 2 ^ (64 - p) := by
    rw [e, Nat.mul_mod_mul_right]
  have h5 : h % 18446744073709551616 * 2 ^ (64 - p) % 18446744073709551616 = h % 2 ^ p * 2 ^ (64 - p) := by
    rw [Nat.mod_mul_mod, h4]
  rw [h5, Nat.add_mod, h4]
  have h6 : lo / 2 ^ p + h % 2 ^ p * 2 ^ (64 - p) < 18446744073709551616 := by
    have h7 : h % 2 ^ p + 1 ≤ 2 ^ p := Nat.mod_lt _ hP
    have h8 := Nat.mul_le_mul_right (2 ^ (64 - p)) h7
    rw [← e, Nat.add_mul] at h8
    omega
  rw [Nat.mod_eq_of_lt (show lo / 2 ^ p < 18446744073709551616 from Nat.lt_of_le_of_lt (Nat.div_le_self _ _) hlo2), Nat.mod_eq_of_lt h6]
theorem or_nat {x y k : Nat} (hx : x < 2 ^ k) (hy : y % 2 ^ k = 0) (hy2 : y < 18446744073709551616) (hx2 : x < 18446744073709551616) : ibits .or .u64 (x : Int) (y : Int) = ((x + y : Nat) : Int) := by
  have h2 : ((2 : Int) ^ k) = ((2 ^ k : Nat) : Int) := by simp
  rw [or_apart k ⟨Int.natCast_nonneg _, by rw [h2]; exact Int.ofNat_lt.2 hx⟩ ⟨Int.natCast_nonneg _, by omega⟩ (by rw [h2, ← Int.natCast_emod, hy]; rfl) (by omega)]
  omega
abbrev srF (a : List Int) (q p N i : Nat) (b : Bool) : PV.Frame := [(50, .int .i64 (i : Int)), (49, .int .i64 (N : Int)), (10, .sl 0 0 N true), (9, .int .u64 (p : Int)), (8, .int .i64 (q : Int)), (7, .bool b), (0, .ints .u64 a)]
theorem shr_list (a0 a : List Int) (lim : Nat → Nat) (L n q p N : Nat) (hL : a.length = L) (hL2 : L ≤ 4096) (s1 : Meets Tryz.prog 77 [.ints .u64 a0] (.int .i64 (L : Int))) (b1 : Meets Tryz.prog 76 [.ints .u64 a0] (.bool false)) (htk : a0.take L = a) (h0 : 0 < L) (hg : ∀ k, a.getD k 0 = (lim k : Int)) (hlim : ∀ k, lim k < 18446744073709551616) (htop : ∀ k, L ≤ k → lim k = 0) (hn : n ≤ 9223372036854775807) (hq : n / 64 = q) (hp : n % 64 = p) (hqL : q < L) (hN : N = L - q)
    (out : List Int) (hol : out.length = N) (ho : ∀ j, j < N → out.getD j 0 = ((lim (q + j) / 2 ^ p + lim (q + j + 1) * 2 ^ (64 - p) % 18446744073709551616 : Nat) : Int)) (t : Int) (b : Bool) (hb : decide (t < (n : Int)) = b) (htr : Meets Tryz.prog 185 [.ints .u64 a0] (.int .i64 t)) (res : List Int) (hcut : Meets Tryz.prog 79 [.ints .u64 out] (.tup [.ints .u64 res, .int .i64 0])) :
    Meets Tryz.prog 146 [.ints .u64 a0, .int .i64 (n : Int)] (.tup [.ints .u64 res, .bool b, .int .i64 0]) := by
  have hp64 : p < 64 := by omega
  have e1 : ((n : Int)).tdiv 64 = (q : Int) := by rw [Int.tdiv_eq_ediv_of_nonneg (by omega)]; omega
  have e2 : ((n : Int)).tmod 64 = (p : Int) := by rw [Int.tmod_eq_emod_of_nonneg (by omega)]; omega
  have w1 : IntKind.wrap .i64 (q : Int) = (q : Int) := wrap_i64 (by omega)
  have w2 : IntKind.wrap .u64 (p : Int) = (p : Int) := wrap_u64 (by omega)
  have w3 : IntKind.wrap .i64 ((L : Int) - (q : Int)) = (N : Int) := by rw [wrap_i64 (by omega)]; omega
  have w4 : IntKind.wrap .i64 (64 * (L : Int)) = 64 * (L : Int) := wrap_i64 (by omega)
  have w5 : IntKind.wrap .u64 (64 - (p : Int)) = ((64 - p : Nat) : Int) := by rw [wrap_u64 (by omega)]; omega
  have hnl : (n : Int) < 64 * (L : Int) := by omega
  have hpos : decide ((0 : Int) < (L : Int)) = true := decide_eq_true (by omega)
  have hLa : L ≤ a0.length := by have h := congrArg List.length htk; rw [List.length_take, hL] at h; omega
  refine meets_by ttOk Tryz.func146 Tryz.ntmps146 Tryz.results146 (by kernel_rfl) (c := _) rfl rfl rfl fun E => ?_
  simp only [argsFrame]
  repeat' first
    | (simp only [htk, e1, e2, w1, w2, w3, w4, hb, hpos, hL])
    | (with_reducible first | refine PW.seq ?_ | refine PW.block ?_ | refine PW.fork ?_ | refine PW.skip ?_ | refine PW.exit ?_ | refine PW.ret ?_ | refine PW.scope ?_ | refine PW.label ?_ | refine PW.goto ?_)
    | (with_reducible refine PW.region ttOk ?_ ?_
       · rfl)
    | (with_reducible refine PW.regionD ttOk mixed ?_ ?_ ?_
       · rfl
       · rfl) | (with_reducible refine ifW_dec (fun g => ?_) (fun g => ?_) <;> first | (exfalso; omega) | (simp -dsimp only [g, wkI])) | (with_reducible refine condE_dec (fun g => ?_) (fun g => ?_) <;> try (exfalso; omega)) | (with_reducible refine condE_not (fun g => ?_) (fun g => ?_) <;> try (exfalso; omega)) | (simp -dsimp only [↓wkA, ↓wkE, ↓wkJ, wkB, ↓tt, Nat.reduceBEq, Nat.reduceEqDiff, ↓reduceIte, Nat.reduceLT, Array.toList, Nat.reduceAdd, Nat.reduceMul, Int.reduceToNat, Int.reducePow, UInt8.reduceToNat]) | (refine call_by (b1) (views_data rfl) ⟨trivial, trivial⟩ rfl ?_) | (refine call_by (s1) (views_data rfl) ⟨trivial, trivial⟩ rfl ?_) | (refine call_by (htr) (views_data rfl) ⟨trivial, trivial⟩ rfl ?_) | (simp -dsimp (disch := first | assumption | omega) only [dec_t, dec_f])
    | (refine And.intro ?_ ?_
       · first | omega | decide | (simp (disch := omega) only [wkW, Int.reduceToNat, Int.reducePow] <;> omega) | (simp <;> omega)) | (simp (disch := omega) only [wkW, Int.reduceToNat, Int.reducePow]) | fail
  refine PW.loopA (fun m F H => ∃ i o, i + m = N ∧ o.length = N ∧ (∀ j, j < i → o.getD j 0 = out.getD j 0) ∧ F = srF a q p N i b ∧ H = ⟨1, [(0, .ints .u64 o)], [], []⟩) N (srF a q p N 0 b) ⟨1, [(0, .ints .u64 (List.replicate N 0))], [], []⟩ (Sub.norm ⟨rfl, rfl, rfl, rfl, rfl, rfl, rfl, trivial⟩ ⟨rfl, trivial⟩ (by simp) rfl rfl rfl rfl) ⟨0, _, by omega, by simp, fun j hj => absurd hj (by omega), rfl, rfl⟩ ?_
  rintro m F H ⟨i, o, hi, hoL, hoj, rfl, rfl⟩
  cases m with
  | zero =>
    obtain rfl : i = N := by omega
    obtain rfl : o = out := list_ext (by omega) fun j hj => hoj j (by omega)
    repeat' first
      | (with_reducible first | refine PW.seq ?_ | refine PW.block ?_ | refine PW.fork ?_ | refine PW.skip ?_ | refine PW.exit ?_ | refine PW.ret ?_ | refine PW.scope ?_ | refine PW.label ?_ | refine PW.goto ?_)
      | (with_reducible refine PW.region ttOk ?_ ?_
         · rfl)
      | (with_reducible refine PW.regionD ttOk mixed ?_ ?_ ?_
         · rfl
         · rfl) | (with_reducible refine ifW_dec (fun g => ?_) (fun g => ?_) <;> first | (exfalso; omega) | (simp -dsimp only [g, wkI])) | (with_reducible refine condE_dec (fun g => ?_) (fun g => ?_) <;> try (exfalso; omega)) | (with_reducible refine condE_not (fun g => ?_) (fun g => ?_) <;> try (exfalso; omega)) | (simp -dsimp only [↓wkA, ↓wkE, ↓wkJ, wkB, ↓tt, Nat.reduceBEq, Nat.reduceEqDiff, ↓reduceIte, Nat.reduceLT, Array.toList, Nat.reduceAdd, Nat.reduceMul, Int.reduceToNat, Int.reducePow, UInt8.reduceToNat]) | (refine call_drop (args' := [.ints .u64 o]) (by simp -dsimp only [↓wkA, ↓wkE, ↓wkJ, wkB, ↓tt, Nat.reduceBEq, Nat.reduceEqDiff, ↓reduceIte, Nat.reduceLT, Array.toList, Nat.reduceAdd, Nat.reduceMul, Int.reduceToNat, Int.reducePow, UInt8.reduceToNat] <;> rw [List.take_of_length_le (by omega)]) hcut (by simp -dsimp only [okViews, ↓wkA, ↓wkE, ↓wkJ, wkB, ↓tt, Nat.reduceBEq, Nat.reduceEqDiff, ↓reduceIte, Nat.reduceLT, Array.toList, Nat.reduceAdd, Nat.reduceMul, Int.reduceToNat, Int.reducePow, UInt8.reduceToNat] <;> omega) rfl ?_) | (simp -dsimp (disch := first | assumption | omega) only [dec_t, dec_f])
      | (refine And.intro ?_ ?_
         · first | omega | decide | (simp (disch := omega) only [wkW, Int.reduceToNat, Int.reducePow] <;> omega) | (simp <;> omega)) | (simp (disch := omega) only [wkW, Int.reduceToNat, Int.reducePow]) | fail
  | succ m =>
    have hlo := hlim (q + i)
    have hhi := hlim (q + i + 1)
    have g1 := hg (q + i)
    have g2 := hg (q + i + 1)
    have hoi := ho i (by omega)
    have hP : 0 < 2 ^ p := Nat.pow_pos (by decide)
    have hQ : 0 < 2 ^ (64 - p) := Nat.pow_pos (by decide)
    have hPQ : (18446744073709551616 : Nat) = 2 ^ p * 2 ^ (64 - p) := by rw [← Nat.pow_add, show p + (64 - p) = 64 by omega]
    have w6 : IntKind.wrap .i64 ((q : Int) + (i : Int)) = ((q + i : Nat) : Int) := by rw [wrap_i64 (by omega)]; omega
    have w7 : IntKind.wrap .i64 (((q + i : Nat) : Int) + 1) = ((q + i + 1 : Nat) : Int) := by rw [wrap_i64 (by omega)]; omega
    have htopi := htop (q + i + 1)
    generalize lim (q + i) = lo at *
    generalize lim (q + i + 1) = hi' at *
    have e3 : ((lo : Int)).fdiv (2 ^ min p 64) = ((lo / 2 ^ p : Nat) : Int) := by
      rw [Nat.min_eq_left (by omega), Int.fdiv_eq_ediv_of_nonneg _ (by exact_mod_cast Nat.zero_le _)]
      simp
    have e4 : IntKind.wrap .u64 ((hi' : Int) * 2 ^ min (64 - p) 64) = ((hi' * 2 ^ (64 - p) % 18446744073709551616 : Nat) : Int) := by
      rw [wrap_u64', Nat.min_eq_left (by omega)]
      simp
    have hx1 : lo / 2 ^ p < 2 ^ (64 - p) := by
      rw [Nat.div_lt_iff_lt_mul hP, Nat.mul_comm, ← hPQ]; exact hlo
    have hx2 : hi' * 2 ^ (64 - p) % 18446744073709551616 % 2 ^ (64 - p) = 0 := by
      rw [hPQ, Nat.mul_mod_mul_right]
      exact Nat.mul_mod_left _ _
    have hy := Nat.mod_lt (hi' * 2 ^ (64 - p)) (show 18446744073709551616 > 0 by decide)
    have hlo1 : lo / 2 ^ p < 18446744073709551616 := Nat.lt_of_le_of_lt (Nat.div_le_self _ _) hlo
    have hor := or_nat hx1 hx2 hy hlo1
    have hzero : p = 0 → hi' * 2 ^ (64 - p) % 18446744073709551616 = 0 := fun h => by
      subst h
      exact Nat.mul_mod_left _ _
    have hzero2 : L ≤ q + i + 1 → hi' * 2 ^ (64 - p) % 18446744073709551616 = 0 := fun h => by
      rw [htopi h, Nat.zero_mul]
    clear hx1 hx2 hPQ hP hQ htopi
    generalize hi' * 2 ^ (64 - p) % 18446744073709551616 = y at *
    generalize lo / 2 ^ p = x at *
    have hnext : ∀ z : Int, z = ((x + y : Nat) : Int) → ∀ j, j < i + 1 → (o.set i z).getD j 0 = out.getD j 0 := fun z hz j hj => by
      rw [getD_set _ _ _ _ (by omega)]
      by_cases e : j = i
      · rw [if_pos e, e, hoi, hz]
      · rw [if_neg e]; exact hoj j (by omega)
    repeat' first
      | (simp only [e3, e4, w5, w6, w7, g1, g2, hor, hL, Int.toNat_natCast])
      | (with_reducible first | refine PW.seq ?_ | refine PW.block ?_ | refine PW.fork ?_ | refine PW.skip ?_ | refine PW.exit ?_ | refine PW.ret ?_ | refine PW.scope ?_ | refine PW.label ?_ | refine PW.goto ?_)
      | (with_reducible refine PW.region ttOk ?_ ?_
         · rfl)
      | (with_reducible refine PW.regionD ttOk mixed ?_ ?_ ?_
         · rfl
         · rfl) | (with_reducible refine ifW_dec (fun g => ?_) (fun g => ?_) <;> first | (exfalso; omega) | (simp -dsimp only [g, wkI])) | (with_reducible refine condE_dec (fun g => ?_) (fun g => ?_) <;> try (exfalso; omega)) | (with_reducible refine condE_not (fun g => ?_) (fun g => ?_) <;> try (exfalso; omega)) | (simp -dsimp only [↓wkA, ↓wkE, ↓wkJ, wkB, ↓tt, Nat.reduceBEq, Nat.reduceEqDiff, ↓reduceIte, Nat.reduceLT, Array.toList, Nat.reduceAdd, Nat.reduceMul, Int.reduceToNat, Int.reducePow, UInt8.reduceToNat]) | (simp -dsimp (disch := first | assumption | omega) only [dec_t, dec_f])
      | (refine And.intro ?_ ?_
         · first | omega | decide | (simp (disch := omega) only [wkW, Int.reduceToNat, Int.reducePow] <;> omega) | (simp <;> omega)) | (simp (disch := omega) only [wkW, Int.reduceToNat, Int.reducePow]) | fail
    all_goals exact Again.mk m (srF a q p N (i + 1) b) ⟨1, [(0, .ints .u64 _)], [], []⟩ (by omega) (Sub.norm ⟨rfl, rfl, rfl, rfl, rfl, rfl, rfl, trivial⟩ ⟨rfl, trivial⟩ (Nat.le_refl _) rfl rfl rfl rfl) ⟨i + 1, _, by omega, by simp [hoL], hnext _ (by omega), rfl, rfl⟩
theorem nat_shr {u n : Nat} (hu : u < NMax) (hn : n ≤ 9223372036854775807) : Meets Tryz.prog 146 [.ints .u64 (natL u), .int .i64 (n : Int)] (.tup [.ints .u64 (natL (u / 2 ^ n)), .bool (decide (u % 2 ^ n ≠ 0)), .int .i64 0]) := by
  have hl := natL_small hu
  by_cases h0 : u = 0
  · subst h0
    rw [Nat.zero_div, Nat.zero_mod, natL_zero]
    have s1 := size_as (a := []) (by decide) rfl
    have b1 := big_as (a := []) (by decide) rfl
    refine Meets.nil_head .u64 ?_
    refine meets_by ttOk Tryz.func146 Tryz.ntmps146 Tryz.results146 (by kernel_rfl) (c := _) rfl rfl rfl fun E => ?_
    simp only [argsFrame]
    have w0 : IntKind.wrap .i64 (64 * 0) = 0 := rfl
    have hd0 : decide ((0 : Nat) ≠ 0) = false := rfl
    rw [hd0]
    repeat' first
      | (simp only [w0])
      | (with_reducible first | refine PW.seq ?_ | refine PW.block ?_ | refine PW.fork ?_ | refine PW.skip ?_ | refine PW.exit ?_ | refine PW.ret ?_ | refine PW.scope ?_ | refine PW.label ?_ | refine PW.goto ?_)
      | (with_reducible refine PW.region ttOk ?_ ?_
         · rfl)
      | (with_reducible refine PW.regionD ttOk mixed ?_ ?_ ?_
         · rfl
         · rfl) | (with_reducible refine ifW_dec (fun g => ?_) (fun g => ?_) <;> first | (exfalso; omega) | (simp -dsimp only [g, wkI])) | (with_reducible refine condE_dec (fun g => ?_) (fun g => ?_) <;> try (exfalso; omega)) | (with_reducible refine condE_not (fun g => ?_) (fun g => ?_) <;> try (exfalso; omega)) | (simp -dsimp only [↓wkA, ↓wkE, ↓wkJ, wkB, ↓tt, Nat.reduceBEq, Nat.reduceEqDiff, ↓reduceIte, Nat.reduceLT, Array.toList, Nat.reduceAdd, Nat.reduceMul, Int.reduceToNat, Int.reducePow, UInt8.reduceToNat]) | (refine call_by (b1) (views_data rfl) ⟨trivial, trivial⟩ rfl ?_) | (refine call_by (s1) (views_data rfl) ⟨trivial, trivial⟩ rfl ?_) | (simp -dsimp (disch := first | assumption | omega) only [dec_t, dec_f])
      | (refine And.intro ?_ ?_
         · first | omega | decide | (simp (disch := omega) only [wkW, Int.reduceToNat, Int.reducePow] <;> omega) | (simp <;> omega)) | (simp (disch := omega) only [wkW, Int.reduceToNat, Int.reducePow]) | fail
  obtain ⟨t, m, hd⟩ := odd_part h0
  have htr := nat_trail hu hd
  have hlost : decide ((t : Int) < (n : Int)) = decide (u % 2 ^ n ≠ 0) := decide_eq_decide.2 (by rw [← lost_iff hd n]; omega)
  obtain ⟨h1, _⟩ := natL_ge h0
  have hlt := natL_lt u
  by_cases hbig : 64 * (natL u).length ≤ n
  · have hz : u / 2 ^ n = 0 := Nat.div_eq_of_lt (Nat.lt_of_lt_of_le hlt (by rw [pow64_two]; exact Nat.pow_le_pow_right (by decide) hbig))
    rw [hz, natL_zero]
    have s1 := size_as hl (size_natL u)
    have b1 := big_as hl (size_natL u)
    have w4 : IntKind.wrap .i64 (64 * ((natL u).length : Int)) = 64 * ((natL u).length : Int) := wrap_i64 (by omega)
    clear hlt hd hz
    obtain ⟨Qd, hQd⟩ : ∃ b, decide (u % 2 ^ n ≠ 0) = b := ⟨_, rfl⟩
    rw [hQd] at hlost ⊢
    generalize natL u = a at *
    refine Meets.nil_head .u64 ?_
    refine meets_by ttOk Tryz.func146 Tryz.ntmps146 Tryz.results146 (by kernel_rfl) (c := _) rfl rfl rfl fun E => ?_
    simp only [argsFrame]
    repeat' first
      | (simp only [w4, hlost])
      | (with_reducible first | refine PW.seq ?_ | refine PW.block ?_ | refine PW.fork ?_ | refine PW.skip ?_ | refine PW.exit ?_ | refine PW.ret ?_ | refine PW.scope ?_ | refine PW.label ?_ | refine PW.goto ?_)
      | (with_reducible refine PW.region ttOk ?_ ?_
         · rfl)
      | (with_reducible refine PW.regionD ttOk mixed ?_ ?_ ?_
         · rfl
         · rfl) | (with_reducible refine ifW_dec (fun g => ?_) (fun g => ?_) <;> first | (exfalso; omega) | (simp -dsimp only [g, wkI])) | (with_reducible refine condE_dec (fun g => ?_) (fun g => ?_) <;> try (exfalso; omega)) | (with_reducible refine condE_not (fun g => ?_) (fun g => ?_) <;> try (exfalso; omega)) | (simp -dsimp only [↓wkA, ↓wkE, ↓wkJ, wkB, ↓tt, Nat.reduceBEq, Nat.reduceEqDiff, ↓reduceIte, Nat.reduceLT, Array.toList, Nat.reduceAdd, Nat.reduceMul, Int.reduceToNat, Int.reducePow, UInt8.reduceToNat]) | (refine call_by (b1) (views_data rfl) ⟨trivial, trivial⟩ rfl ?_) | (refine call_by (s1) (views_data rfl) ⟨trivial, trivial⟩ rfl ?_) | (refine call_by (htr) (views_data rfl) ⟨trivial, trivial⟩ rfl ?_) | (simp -dsimp (disch := first | assumption | omega) only [dec_t, dec_f])
      | (refine And.intro ?_ ?_
         · first | omega | decide | (simp (disch := omega) only [wkW, Int.reduceToNat, Int.reducePow] <;> omega) | (simp <;> omega)) | (simp (disch := omega) only [wkW, Int.reduceToNat, Int.reducePow]) | fail
  · have hq : n / 64 < (natL u).length := by omega
    have hv : u / 2 ^ n < 18446744073709551616 ^ ((natL u).length - n / 64) := by
      rw [Nat.div_lt_iff_lt_mul (Nat.pow_pos (by decide)), pow64_two, ← Nat.pow_add]
      rw [pow64_two] at hlt
      exact Nat.lt_of_lt_of_le hlt (Nat.pow_le_pow_right (by decide) (by omega))
    have hvN : u / 2 ^ n < NMax := Nat.lt_of_le_of_lt (Nat.div_le_self _ _) hu
    refine shr_list (natL u) (natL u) (fun k => u / 18446744073709551616 ^ k % 18446744073709551616) _ n _ _ _ rfl hl (size_as hl (size_natL u)) (big_as hl (size_natL u)) (List.take_of_length_le (Nat.le_refl _)) h1 (natL_getD u) (fun k => Nat.mod_lt _ (by decide)) (fun k hk => ?_) hn rfl rfl hq rfl (limbsOf ((natL u).length - n / 64) (u / 2 ^ n)) (limbsOf_length _ _) (fun j hj => ?_) t _ hlost htr _ (cut_as (limbsOf_limbs _ _) (by rw [limbsOf_length]; omega) (limbsOf_val hv) hvN)
    · show u / 18446744073709551616 ^ k % 18446744073709551616 = 0
      rw [Nat.div_eq_of_lt (Nat.lt_of_lt_of_le hlt (Nat.pow_le_pow_right (by decide) hk))]
    · rw [limbsOf_getD hj]
      have := shr_limb u (n / 64) (n % 64) j (Nat.mod_lt _ (by decide))
      rw [show 64 * (n / 64) + n % 64 = n by omega] at this
      rw [this]
theorem nat_shr_l {l : List Int} {u n : Nat} (hl : Limbs l) (hll : l.length ≤ 4096) (hu : val l = u) (hn : n ≤ 9223372036854775807) : Meets Tryz.prog 146 [.ints .u64 l, .int .i64 (n : Int)] (.tup [.ints .u64 (natL (u / 2 ^ n)), .bool (decide (u % 2 ^ n ≠ 0)), .int .i64 0]) := by
  have htk : l.take (size l) = natL u := by
    have := trim_eq hl
    rw [hu, Int.toNat_natCast] at this
    exact this
  have hsz : size l = (natL u).length := by rw [← htk]; exact (trim_len l).symm
  have s1 := nat_size l (by omega)
  have b1 := nat_big l (by omega)
  have hsl := size_le l
  rw [decide_eq_false (by omega)] at b1
  have hvl : u < 18446744073709551616 ^ l.length := by
    have h1 := (vt_bound hl l.length).2
    have h2 : vt l l.length = u := hu
    rw [h2] at h1
    have e : B64 ^ l.length = ((18446744073709551616 ^ l.length : Nat) : Int) := by rw [Int.natCast_pow]; rfl
    rw [e] at h1
    omega
  have huM : u < NMax := Nat.lt_of_lt_of_le hvl (pow64_mono hll)
  rw [hsz] at s1 htk
  by_cases h0 : u = 0
  · subst h0
    rw [natL_zero] at s1 htk
    rw [Nat.zero_div, Nat.zero_mod, natL_zero]
    refine Meets.nil_head .u64 ?_
    simp only [List.length_nil] at htk s1
    refine meets_by ttOk Tryz.func146 Tryz.ntmps146 Tryz.results146 (by kernel_rfl) (c := _) rfl rfl rfl fun E => ?_
    simp only [argsFrame]
    have w0 : IntKind.wrap .i64 (64 * 0) = 0 := rfl
    have hd0 : decide ((0 : Nat) ≠ 0) = false := rfl
    rw [hd0]
    repeat' first
      | (simp only [w0])
      | (with_reducible first | refine PW.seq ?_ | refine PW.block ?_ | refine PW.fork ?_ | refine PW.skip ?_ | refine PW.exit ?_ | refine PW.ret ?_ | refine PW.scope ?_ | refine PW.label ?_ | refine PW.goto ?_)
      | (with_reducible refine PW.region ttOk ?_ ?_
         · rfl)
      | (with_reducible refine PW.regionD ttOk mixed ?_ ?_ ?_
         · rfl
         · rfl) | (with_reducible refine ifW_dec (fun g => ?_) (fun g => ?_) <;> first | (exfalso; omega) | (simp -dsimp only [g, wkI])) | (with_reducible refine condE_dec (fun g => ?_) (fun g => ?_) <;> try (exfalso; omega)) | (with_reducible refine condE_not (fun g => ?_) (fun g => ?_) <;> try (exfalso; omega)) | (simp -dsimp only [↓wkA, ↓wkE, ↓wkJ, wkB, ↓tt, Nat.reduceBEq, Nat.reduceEqDiff, ↓reduceIte, Nat.reduceLT, Array.toList, Nat.reduceAdd, Nat.reduceMul, Int.reduceToNat, Int.reducePow, UInt8.reduceToNat]) | (refine call_by (b1) (views_data rfl) ⟨trivial, trivial⟩ rfl ?_) | (refine call_by (s1) (views_data rfl) ⟨trivial, trivial⟩ rfl ?_) | (simp -dsimp (disch := first | assumption | omega) only [dec_t, dec_f])
      | (refine And.intro ?_ ?_
         · first | omega | decide | (simp (disch := omega) only [wkW, Int.reduceToNat, Int.reducePow] <;> omega) | (simp <;> omega)) | (simp (disch := omega) only [wkW, Int.reduceToNat, Int.reducePow]) | fail
  obtain ⟨t, m, hd⟩ := odd_part h0
  have hgl : ∀ k, l.getD k 0 = ((u / 18446744073709551616 ^ k % 18446744073709551616 : Nat) : Int) := fun k => by
    rw [← natL_getD u k, ← htk]
    by_cases hk : k < (natL u).length
    · rw [getD_take' hk]
    · rw [List.getD_eq_getElem?_getD (l := l.take _), List.getElem?_take, if_neg hk]
      have hz := vt_inj hl (natL_limbs u) l.length (by
        rw [vt_beyond (b := natL u) _ (by omega), val_natL]
        exact hu) k
      by_cases hk2 : k < l.length
      · rw [hz hk2, List.getD_eq_getElem?_getD, List.getElem?_eq_none (by omega)]
      · rw [List.getD_eq_getElem?_getD, List.getElem?_eq_none (by omega)]
  have htr := nat_trail_l (l := l) (by omega) hgl hvl hd
  have hlost : decide ((t : Int) < (n : Int)) = decide (u % 2 ^ n ≠ 0) := decide_eq_decide.2 (by rw [← lost_iff hd n]; omega)
  obtain ⟨h1, _⟩ := natL_ge h0
  have hlt := natL_lt u
  have hul := natL_small huM
  by_cases hbig : 64 * (natL u).length ≤ n
  · have hz : u / 2 ^ n = 0 := Nat.div_eq_of_lt (Nat.lt_of_lt_of_le hlt (by rw [pow64_two]; exact Nat.pow_le_pow_right (by decide) hbig))
    rw [hz, natL_zero]
    have w4 : IntKind.wrap .i64 (64 * ((natL u).length : Int)) = 64 * ((natL u).length : Int) := wrap_i64 (by omega)
    have hpos : decide ((0 : Int) < ((natL u).length : Int)) = true := decide_eq_true (by omega)
    have hLa : (natL u).length ≤ l.length := by omega
    clear hlt hd hz hgl hvl huM hu
    obtain ⟨Qd, hQd⟩ : ∃ b, decide (u % 2 ^ n ≠ 0) = b := ⟨_, rfl⟩
    rw [hQd] at hlost ⊢
    generalize natL u = a at *
    refine Meets.nil_head .u64 ?_
    refine meets_by ttOk Tryz.func146 Tryz.ntmps146 Tryz.results146 (by kernel_rfl) (c := _) rfl rfl rfl fun E => ?_
    simp only [argsFrame]
    repeat' first
      | (simp only [w4, hlost, htk, hpos, Int.toNat_natCast])
      | (with_reducible first | refine PW.seq ?_ | refine PW.block ?_ | refine PW.fork ?_ | refine PW.skip ?_ | refine PW.exit ?_ | refine PW.ret ?_ | refine PW.scope ?_ | refine PW.label ?_ | refine PW.goto ?_)
      | (with_reducible refine PW.region ttOk ?_ ?_
         · rfl)
      | (with_reducible refine PW.regionD ttOk mixed ?_ ?_ ?_
         · rfl
         · rfl) | (with_reducible refine ifW_dec (fun g => ?_) (fun g => ?_) <;> first | (exfalso; omega) | (simp -dsimp only [g, wkI])) | (with_reducible refine condE_dec (fun g => ?_) (fun g => ?_) <;> try (exfalso; omega)) | (with_reducible refine condE_not (fun g => ?_) (fun g => ?_) <;> try (exfalso; omega)) | (simp -dsimp only [↓wkA, ↓wkE, ↓wkJ, wkB, ↓tt, Nat.reduceBEq, Nat.reduceEqDiff, ↓reduceIte, Nat.reduceLT, Array.toList, Nat.reduceAdd, Nat.reduceMul, Int.reduceToNat, Int.reducePow, UInt8.reduceToNat]) | (refine call_by (b1) (views_data rfl) ⟨trivial, trivial⟩ rfl ?_) | (refine call_by (s1) (views_data rfl) ⟨trivial, trivial⟩ rfl ?_) | (refine call_by (htr) (views_data rfl) ⟨trivial, trivial⟩ rfl ?_) | (simp -dsimp (disch := first | assumption | omega) only [dec_t, dec_f])
      | (refine And.intro ?_ ?_
         · first | omega | decide | (simp (disch := omega) only [wkW, Int.reduceToNat, Int.reducePow] <;> omega) | (simp <;> omega)) | (simp (disch := omega) only [wkW, Int.reduceToNat, Int.reducePow]) | fail
  · have hv : u / 2 ^ n < 18446744073709551616 ^ ((natL u).length - n / 64) := by
      rw [Nat.div_lt_iff_lt_mul (Nat.pow_pos (by decide)), pow64_two, ← Nat.pow_add]
      rw [pow64_two] at hlt
      exact Nat.lt_of_lt_of_le hlt (Nat.pow_le_pow_right (by decide) (by omega))
    have hvN : u / 2 ^ n < NMax := Nat.lt_of_le_of_lt (Nat.div_le_self _ _) huM
    refine shr_list l (natL u) (fun k => u / 18446744073709551616 ^ k % 18446744073709551616) _ n _ _ _ rfl hul s1 b1 htk h1 (natL_getD u) (fun k => Nat.mod_lt _ (by decide)) (fun k hk => ?_) hn rfl rfl (by omega) rfl (limbsOf ((natL u).length - n / 64) (u / 2 ^ n)) (limbsOf_length _ _) (fun j hj => ?_) t _ hlost htr _ (cut_as (limbsOf_limbs _ _) (by rw [limbsOf_length]; omega) (limbsOf_val hv) hvN)
    · show u / 18446744073709551616 ^ k % 18446744073709551616 = 0
      rw [Nat.div_eq_of_lt (Nat.lt_of_lt_of_le hlt (Nat.pow_le_pow_right (by decide) hk))]
    · rw [limbsOf_getD hj]
      have := shr_limb u (n / 64) (n % 64) j (Nat.mod_lt _ (by decide))
      rw [show 64 * (n / 64) + n % 64 = n by omega] at this
      rw [this]
def rhe (N U : Nat) : Nat := if 2 * (N % U) < U ∨ (2 * (N % U) = U ∧ N / U % 2 = 0) then N / U else N / U + 1
def dv (b : Nat) : Nat := if b < 4503599627370496 then b else (4503599627370496 + b % 4503599627370496) * 2 ^ (b / 4503599627370496 - 1)
abbrev infB : Nat := 9218868437227405312
structure IsRnd (N D b : Nat) : Prop where
  le : b ≤ infB
  up : b < infB → 2 * N ≤ (dv b + dv (b + 1)) * D ∧ (2 * N = (dv b + dv (b + 1)) * D → b % 2 = 0)
  dn : 0 < b → (dv (b - 1) + dv b) * D ≤ 2 * N ∧ ((dv (b - 1) + dv b) * D = 2 * N → b % 2 = 0)
theorem rhe_spec {N U m : Nat} (hU : 0 < U) (hm : rhe N U = m) : (2 * N ≤ 2 * (m * U) + U ∧ (2 * N = 2 * (m * U) + U → m % 2 = 0)) ∧ (0 < m → 2 * (m * U) ≤ 2 * N + U ∧ (2 * (m * U) = 2 * N + U → m % 2 = 0)) := by
  have h1 := Nat.div_add_mod N U
  have h2 := Nat.mod_lt N hU
  unfold rhe at hm
  have e : (N / U + 1) * U = U * (N / U) + U := by rw [Nat.add_mul, Nat.one_mul, Nat.mul_comm]
  have e2 : N / U * U = U * (N / U) := Nat.mul_comm _ _
  generalize hp : U * (N / U) = p at *
  split at hm
  · rw [← hm, e2]; omega
  · rw [← hm, e]; omega
theorem dv_at {m k : Nat} (h : m ≤ 9007199254740992) (h2 : k = 0 ∨ 4503599627370496 ≤ m) : dv (m + k * 4503599627370496) = m * 2 ^ k := by
  unfold dv
  by_cases h3 : m < 4503599627370496
  · obtain rfl : k = 0 := by omega
    rw [if_pos (by omega)]; simp
  · rw [if_neg (by omega)]
    by_cases h4 : m = 9007199254740992
    · subst h4
      rw [show (9007199254740992 + k * 4503599627370496) % 4503599627370496 = 0 by omega, show (9007199254740992 + k * 4503599627370496) / 4503599627370496 - 1 = k + 1 by omega, Nat.pow_succ]
      omega
    · rw [show (m + k * 4503599627370496) % 4503599627370496 = m - 4503599627370496 by omega, show (m + k * 4503599627370496) / 4503599627370496 - 1 = k by omega]
      rw [show 4503599627370496 + (m - 4503599627370496) = m by omega]
theorem dv_form (b : Nat) : ∃ m k, b = m + k * 4503599627370496 ∧ m < 9007199254740992 ∧ (k = 0 ∨ 4503599627370496 ≤ m) := by
  by_cases h : b < 9007199254740992
  · exact ⟨b, 0, by omega, h, .inl rfl⟩
  · exact ⟨4503599627370496 + b % 4503599627370496, b / 4503599627370496 - 1, by omega, by omega, .inr (by omega)⟩
theorem dv_succ (b : Nat) : dv b < dv (b + 1) := by
  obtain ⟨m, k, rfl, h1, h2⟩ := dv_form b
  have e : m + k * 4503599627370496 + 1 = (m + 1) + k * 4503599627370496 := by omega
  rw [e, dv_at (by omega) h2, dv_at (by omega) (by omega)]
  exact Nat.mul_lt_mul_of_pos_right (by omega) (Nat.two_pow_pos k)
theorem dv_lt : ∀ {c b : Nat}, b < c → dv b < dv c
  | 0, b, h => by omega
  | c + 1, b, h => by
    by_cases e : b = c
    · subst e; exact dv_succ b
    · exact Nat.lt_trans (dv_lt (show b < c by omega)) (dv_succ c)
theorem dv_le {b c : Nat} (h : b ≤ c) : dv b ≤ dv c := by
  by_cases e : b = c
  · subst e; exact Nat.le_refl _
  · exact Nat.le_of_lt (dv_lt (by omega))
theorem dv_zero : dv 0 = 0 := rfl
theorem rnd_of {N D m k U : Nat} (hD : 0 < D) (hU : D * 2 ^ k = U) (h1 : 2 * N ≤ 2 * (m * U) + U) (h2 : 2 * N = 2 * (m * U) + U → m % 2 = 0) (h3 : 0 < m → 2 * (m * U) ≤ 2 * N + U) (h4 : 0 < m → 2 * (m * U) = 2 * N + U → m % 2 = 0) (hk : k = 0 ∨ 4503599627370496 * U ≤ N) (htop : N < 9007199254740992 * U) :
    IsRnd N D (min (m + k * 4503599627370496) infB) := by
  have hU0 : 0 < U := by rw [← hU]; exact Nat.mul_pos hD (Nat.two_pow_pos k)
  have hm : m ≤ 9007199254740992 := by
    refine Nat.le_of_not_lt fun h => ?_
    have h5 := h3 (by omega)
    have h6 : 9007199254740993 * U ≤ m * U := Nat.mul_le_mul_right _ (by omega)
    omega
  have hk2 : k = 0 ∨ 4503599627370496 ≤ m := by
    rcases hk with h | h
    · exact .inl h
    · refine .inr (Nat.le_of_not_lt fun h5 => ?_)
      have h6 : m * U ≤ 4503599627370495 * U := Nat.mul_le_mul_right _ (by omega)
      omega
  have ed : dv (m + k * 4503599627370496) = m * 2 ^ k := dv_at hm hk2
  have emul : ∀ x : Nat, x * 2 ^ k * D = x * U := fun x => by rw [Nat.mul_assoc, Nat.mul_comm (2 ^ k) D, hU]
  -- the middle above
  have hup : 2 * N ≤ (dv (m + k * 4503599627370496) + dv (m + k * 4503599627370496 + 1)) * D ∧ (2 * N = (dv (m + k * 4503599627370496) + dv (m + k * 4503599627370496 + 1)) * D → (m + k * 4503599627370496) % 2 = 0) := by
    have hge : (m + 1) * 2 ^ k ≤ dv (m + k * 4503599627370496 + 1) := by
      by_cases h9 : m = 9007199254740992
      · have e2 : m + k * 4503599627370496 + 1 = 4503599627370497 + (k + 1) * 4503599627370496 := by omega
        rw [e2, dv_at (by omega) (by omega), Nat.pow_succ, h9]
        omega
      · have e2 : m + k * 4503599627370496 + 1 = (m + 1) + k * 4503599627370496 := by omega
        rw [e2, dv_at (by omega) (by omega)]
        exact Nat.le_refl _
    have hge2 : (m * 2 ^ k + (m + 1) * 2 ^ k) * D ≤ (dv (m + k * 4503599627370496) + dv (m + k * 4503599627370496 + 1)) * D := Nat.mul_le_mul_right _ (by rw [ed]; omega)
    have e3 : (m * 2 ^ k + (m + 1) * 2 ^ k) * D = 2 * (m * U) + U := by rw [Nat.add_mul, emul, emul, Nat.add_mul, Nat.one_mul]; omega
    rw [e3] at hge2
    refine ⟨by omega, fun h => ?_⟩
    have := h2 (by omega)
    omega
  have hdn : 0 < m + k * 4503599627370496 → (dv (m + k * 4503599627370496 - 1) + dv (m + k * 4503599627370496)) * D ≤ 2 * N ∧ ((dv (m + k * 4503599627370496 - 1) + dv (m + k * 4503599627370496)) * D = 2 * N → (m + k * 4503599627370496) % 2 = 0) := fun h0 => by
    by_cases h9 : k ≠ 0 ∧ m = 4503599627370496
    · obtain ⟨h9, rfl⟩ := h9
      have hlt := dv_lt (show 4503599627370496 + k * 4503599627370496 - 1 < 4503599627370496 + k * 4503599627370496 by omega)
      rw [ed] at hlt
      have hN : 4503599627370496 * U ≤ N := hk.resolve_left h9
      have : (dv (4503599627370496 + k * 4503599627370496 - 1) + dv (4503599627370496 + k * 4503599627370496)) * D < 2 * (4503599627370496 * U) := by
        rw [ed, ← emul, ← Nat.mul_assoc 2]
        exact Nat.mul_lt_mul_of_pos_right (by omega) hD
      omega
    · have hm0 : 0 < m := by omega
      have e2 : m + k * 4503599627370496 - 1 = (m - 1) + k * 4503599627370496 := by omega
      have e4 : (m - 1) * U = m * U - U := by rw [Nat.sub_mul, Nat.one_mul]
      have e5 : U ≤ m * U := Nat.le_mul_of_pos_left _ hm0
      have e3 : ((m - 1) * 2 ^ k + m * 2 ^ k) * D = 2 * (m * U) - U := by rw [Nat.add_mul, emul, emul]; omega
      rw [ed, e2, dv_at (by omega) (by omega), e3]
      have g1 := h3 hm0
      have g2 := h4 hm0
      refine ⟨by omega, fun h => ?_⟩
      have := g2 (by omega)
      omega
  by_cases hi : m + k * 4503599627370496 ≤ infB
  · rw [Nat.min_eq_left hi]
    exact ⟨hi, fun _ => hup, hdn⟩
  · rw [Nat.min_eq_right (by omega)]
    refine ⟨Nat.le_refl _, fun h => absurd h (Nat.lt_irrefl _), fun _ => ?_⟩
    refine ⟨Nat.le_trans (Nat.mul_le_mul_right _ (Nat.add_le_add (dv_le ?_) (dv_le ?_))) (hdn (by omega)).1, fun _ => by decide⟩ <;> omega
theorem rnd_mono {N1 D1 b1 N2 D2 b2 : Nat} (hD1 : 0 < D1) (hD2 : 0 < D2) (h1 : IsRnd N1 D1 b1) (h2 : IsRnd N2 D2 b2) (h : N1 * D2 ≤ N2 * D1) : b1 ≤ b2 := by
  refine Nat.le_of_not_lt fun hlt => ?_
  obtain ⟨u1, u2⟩ := h2.up (by have := h1.le; omega)
  obtain ⟨d1, d2⟩ := h1.dn (by omega)
  have hB : dv b2 + dv (b2 + 1) ≤ dv (b1 - 1) + dv b1 := Nat.add_le_add (dv_le (by omega)) (dv_le (by omega))
  have hB2 : b2 + 1 ≠ b1 → dv b2 + dv (b2 + 1) < dv (b1 - 1) + dv b1 := fun hne => Nat.add_lt_add_of_lt_of_le (dv_lt (by omega)) (dv_le (by omega))
  generalize dv b2 + dv (b2 + 1) = B at *
  generalize dv (b1 - 1) + dv b1 = A at *
  have g1 : A * D1 * D2 ≤ 2 * N1 * D2 := Nat.mul_le_mul_right _ d1
  have g2 : 2 * N2 * D1 ≤ B * D2 * D1 := Nat.mul_le_mul_right _ u1
  have g3 : 2 * N1 * D2 ≤ 2 * N2 * D1 := by rw [Nat.mul_assoc, Nat.mul_assoc]; exact Nat.mul_le_mul_left _ h
  have e1 : B * D2 * D1 = B * (D1 * D2) := by rw [Nat.mul_assoc, Nat.mul_comm D2]
  have e2 : A * D1 * D2 = A * (D1 * D2) := Nat.mul_assoc ..
  have hDD : 0 < D1 * D2 := Nat.mul_pos hD1 hD2
  have g4 : A * (D1 * D2) ≤ B * (D1 * D2) := by omega
  have hAB : A ≤ B := Nat.le_of_mul_le_mul_right g4 hDD
  have hE : A = B := by omega
  have hb : b2 + 1 = b1 := Decidable.byContradiction fun hne => by have := hB2 hne; omega
  subst hE
  have k1 : A * D1 = 2 * N1 := Nat.eq_of_mul_eq_mul_right hD2 (by omega)
  have k2 : 2 * N2 = A * D2 := Nat.eq_of_mul_eq_mul_right hD1 (by omega)
  have := d2 k1
  have := u2 k2
  omega
theorem rnd_eq {N1 D1 b1 N2 D2 b2 : Nat} (hD1 : 0 < D1) (hD2 : 0 < D2) (h1 : IsRnd N1 D1 b1) (h2 : IsRnd N2 D2 b2) (h : N1 * D2 = N2 * D1) : b1 = b2 :=
  Nat.le_antisymm (rnd_mono hD1 hD2 h1 h2 (Nat.le_of_eq h)) (rnd_mono hD2 hD1 h2 h1 (Nat.le_of_eq h.symm))
def rndU (N D : Nat) : Nat := min (rhe N (D * 2 ^ (bitlen (N / D) - 53)) + (bitlen (N / D) - 53) * 4503599627370496) infB
theorem rndU_is {N D : Nat} (hD : 0 < D) : IsRnd N D (rndU N D) := by
  have hU : 0 < D * 2 ^ (bitlen (N / D) - 53) := Nat.mul_pos hD (Nat.two_pow_pos _)
  obtain ⟨⟨a1, a2⟩, a3⟩ := rhe_spec (N := N) hU rfl
  refine rnd_of hD rfl a1 a2 (fun h => (a3 h).1) (fun h => (a3 h).2) ?_ ?_
  · by_cases h : bitlen (N / D) ≤ 53
    · exact .inl (by omega)
    · refine .inr ?_
      obtain ⟨k, hk, h1, h2⟩ := bitlen_spec (n := N / D) (fun e => by rw [e] at h; simp [bitlen] at h)
      rw [hk]
      rw [Nat.le_div_iff_mul_le hD] at h1
      rw [show (4503599627370496 : Nat) = 2 ^ 52 from rfl, Nat.mul_comm, Nat.mul_assoc, ← Nat.pow_add, show k + 1 - 53 + 52 = k by omega, Nat.mul_comm]
      exact h1
  · by_cases h0 : N / D = 0
    · have : N < D := by rw [Nat.div_eq_zero_iff] at h0; omega
      rw [h0]; simp [bitlen]; omega
    · obtain ⟨k, hk, h1, h2⟩ := bitlen_spec h0
      rw [hk]
      rw [Nat.div_lt_iff_lt_mul hD] at h2
      refine Nat.lt_of_lt_of_le h2 ?_
      rw [show (9007199254740992 : Nat) = 2 ^ 53 from rfl, Nat.mul_comm D, ← Nat.mul_assoc, ← Nat.pow_add]
      exact Nat.mul_le_mul_right _ (Nat.pow_le_pow_right (by decide) (by omega))
theorem rndU_eq {N D b : Nat} (hD : 0 < D) (h : IsRnd N D b) : rndU N D = b := rnd_eq hD hD (rndU_is hD) h rfl
theorem rndU_congr {N D N' D' : Nat} (hD : 0 < D) (hD' : 0 < D') (h : N * D' = N' * D) : rndU N D = rndU N' D' := rnd_eq hD hD' (rndU_is hD) (rndU_is hD') h
theorem rndU_mono {N D N' D' : Nat} (hD : 0 < D) (hD' : 0 < D') (h : N * D' ≤ N' * D) : rndU N D ≤ rndU N' D' := rnd_mono hD hD' (rndU_is hD) (rndU_is hD') h
theorem rndU_le {N D : Nat} : rndU N D ≤ infB := Nat.min_le_right ..
theorem rndU_zero {D : Nat} (hD : 0 < D) : rndU 0 D = 0 := rndU_eq hD ⟨by decide, fun _ => ⟨Nat.zero_le _, fun _ => by decide⟩, fun h => absurd h (by decide)⟩
theorem rndU_dv {b D : Nat} (hD : 0 < D) (hb : b ≤ infB) : rndU (dv b * D) D = b := rndU_eq hD ⟨hb, fun _ => by
    have := dv_succ b
    have h : dv b * D < dv (b + 1) * D := Nat.mul_lt_mul_of_pos_right this hD
    rw [Nat.add_mul]
    exact ⟨by omega, fun h => by omega⟩, fun h0 => by
    have := dv_lt (show b - 1 < b by omega)
    have h : dv (b - 1) * D < dv b * D := Nat.mul_lt_mul_of_pos_right this hD
    rw [Nat.add_mul]
    exact ⟨by omega, fun h => by omega⟩⟩
def RelR (more : Bool) (n a c N D : Nat) : Prop := (more = false ∧ N * 2 ^ c = n * (2 ^ a * D)) ∨ (more = true ∧ n * (2 ^ a * D) < N * 2 ^ c ∧ N * 2 ^ c < n * (2 ^ a * D) + 2 ^ a * D)
def upB (more : Bool) (n mv : Nat) : Prop := n / 2 ^ (mv - 1) % 2 = 1 ∧ (more = true ∨ n / 2 ^ mv % 2 = 1 ∨ n % 2 ^ (mv - 1) ≠ 0)
instance (more : Bool) (n mv : Nat) : Decidable (upB more n mv) := inferInstanceAs (Decidable (_ ∧ _))
def magM (more : Bool) (n mv : Nat) : Nat := if upB more n mv then n / 2 ^ mv + 1 else n / 2 ^ mv
theorem half_parts {n h : Nat} (hh : 0 < h) : n / (2 * h) = n / h / 2 ∧ n % (2 * h) = n / h % 2 * h + n % h := by
  refine ⟨by rw [Nat.mul_comm, Nat.div_div_eq_div_mul], ?_⟩
  have h1 := Nat.div_add_mod n (2 * h)
  have h2 := Nat.div_add_mod n h
  have h3 := Nat.div_add_mod (n / h) 2
  have h4 : n / (2 * h) = n / h / 2 := by rw [Nat.mul_comm, Nat.div_div_eq_div_mul]
  rw [h4] at h1
  have h5 : h * (n / h) = 2 * h * (n / h / 2) + n / h % 2 * h := by
    conv => lhs; rw [← h3]
    rw [Nat.mul_add, ← Nat.mul_assoc, Nat.mul_comm h 2, Nat.mul_comm h (n / h % 2)]
  omega
theorem mag_near {more : Bool} {n mv X N' V m : Nat} (hmv : 1 ≤ mv) (hX : 0 < X) (hV : V = 2 ^ mv * X) (hm : magM more n mv = m) (hr : (more = false ∧ N' = n * X) ∨ (more = true ∧ n * X < N' ∧ N' < n * X + X)) :
    (2 * N' ≤ 2 * (m * V) + V ∧ (2 * N' = 2 * (m * V) + V → m % 2 = 0)) ∧ (0 < m → 2 * (m * V) ≤ 2 * N' + V ∧ (2 * (m * V) = 2 * N' + V → m % 2 = 0)) := by
  obtain ⟨j, rfl⟩ : ∃ j, mv = j + 1 := ⟨mv - 1, by omega⟩
  unfold magM at hm
  have hh : 0 < 2 ^ j := Nat.two_pow_pos j
  have e2 : 2 ^ (j + 1) = 2 * 2 ^ j := by rw [Nat.pow_succ, Nat.mul_comm]
  have hup : upB more n (j + 1) ↔ n / 2 ^ j % 2 = 1 ∧ (more = true ∨ n / (2 * 2 ^ j) % 2 = 1 ∨ n % 2 ^ j ≠ 0) := by unfold upB; rw [Nat.add_sub_cancel, e2]
  rw [e2] at hm hV
  generalize 2 ^ j = h at *
  obtain ⟨p1, p2⟩ := half_parts (n := n) hh
  have h1 := Nat.div_add_mod n (2 * h)
  have h2 := Nat.mod_lt n (show 0 < 2 * h by omega)
  have hlo := Nat.mod_lt n hh
  have hb := Nat.mod_lt (n / h) (show 0 < 2 by decide)
  generalize n / (2 * h) = q at *
  generalize n % (2 * h) = r at *
  generalize n % h = lo at *
  generalize n / h % 2 = b at *
  have hbit : (b = 1 ∧ r = h + lo) ∨ (b = 0 ∧ r = lo) := by
    rcases (show b = 0 ∨ b = 1 by omega) with rfl | rfl
    · right; omega
    · left; omega
  have eV : V = 2 * (h * X) := by rw [hV, Nat.mul_assoc]
  have enX : n * X = q * V + r * X := by
    rw [← h1, Nat.add_mul, eV]
    congr 1
    ac_rfl
  have r1 : r < h → r * X + X ≤ h * X := fun hlt => by
    have := Nat.mul_le_mul_right X (show r + 1 ≤ h by omega)
    rw [Nat.add_mul, Nat.one_mul] at this; exact this
  have r2 : h ≤ r → h * X ≤ r * X := fun hle => Nat.mul_le_mul_right X hle
  have r3 : r * X + X ≤ V := by
    have := Nat.mul_le_mul_right X (show r + 1 ≤ 2 * h by omega)
    rw [Nat.add_mul, Nat.one_mul, Nat.mul_assoc] at this; omega
  have r4 : h < r → h * X + X ≤ r * X := fun hlt => by
    have := Nat.mul_le_mul_right X (show h + 1 ≤ r by omega)
    rw [Nat.add_mul, Nat.one_mul] at this; exact this
  have r5 : r = h → r * X = h * X := fun e => by rw [e]
  have eq1 : (q + 1) * V = q * V + V := by rw [Nat.add_mul, Nat.one_mul]
  rw [enX] at hr
  have hhX : 0 < h * X := Nat.mul_pos hh hX
  generalize hqV : q * V = qV at *
  generalize r * X = rX at *
  generalize hX' : h * X = hx at *
  split at hm
  · rename_i hu
    rw [hup] at hu
    subst hm
    rw [eq1]
    rcases hbit with ⟨rfl, hr1⟩ | ⟨rfl, hr1⟩
    · have := r2 (by omega)
      rcases hr with ⟨hm, hN⟩ | ⟨hm, hN1, hN2⟩
      · refine ⟨by omega, fun _ => ⟨by omega, fun he => ?_⟩⟩
        have hrh : ¬ h < r := fun hlt => by have := r4 hlt; omega
        rw [hm] at hu
        simp only [Bool.false_eq_true, false_or] at hu
        omega
      · exact ⟨by omega, fun _ => by omega⟩
    · exact absurd hu.1 (by omega)
  · rename_i hu
    rw [hup] at hu
    subst hm
    rw [hqV]
    rcases hbit with ⟨rfl, hr1⟩ | ⟨rfl, hr1⟩
    · simp only [true_and, not_or, Bool.not_eq_true] at hu
      have := r5 (by omega)
      rcases hr with ⟨hm, hN⟩ | ⟨hm, hN1, hN2⟩
      · exact ⟨by omega, fun _ => by omega⟩
      · rw [hm] at hu; exact absurd hu.1 (by decide)
    · have := r1 (by omega)
      rcases hr with ⟨hm, hN⟩ | ⟨hm, hN1, hN2⟩
      · exact ⟨by omega, fun _ => by omega⟩
      · exact ⟨by omega, fun _ => by omega⟩
theorem lt_bitlen (n : Nat) : n < 2 ^ bitlen n := by
  by_cases h : n = 0
  · subst h; exact Nat.two_pow_pos _
  · obtain ⟨k, hk, _, h2⟩ := bitlen_spec h
    rw [hk]; exact h2
theorem round_low {more : Bool} {n a c N D : Nat} (hD : 0 < D) (hr : RelR more n a c N D) (h : bitlen n + a < c) : IsRnd N D 0 := by
  have hl := lt_bitlen n
  have hX : 0 < 2 ^ a * D := Nat.mul_pos (Nat.two_pow_pos a) hD
  have h1 : N * 2 ^ c < 2 ^ bitlen n * (2 ^ a * D) := by
    have h2 : n * (2 ^ a * D) + 2 ^ a * D ≤ 2 ^ bitlen n * (2 ^ a * D) := by
      have := Nat.mul_le_mul_right (2 ^ a * D) (show n + 1 ≤ 2 ^ bitlen n by omega)
      rw [Nat.add_mul, Nat.one_mul] at this; exact this
    rcases hr with ⟨_, h3⟩ | ⟨_, h3, h4⟩ <;> omega
  have h3 : 2 ^ bitlen n * (2 ^ a * D) * 2 ≤ D * 2 ^ c := by
    rw [← Nat.mul_assoc, ← Nat.pow_add, Nat.mul_comm _ D, Nat.mul_assoc, ← Nat.pow_succ]
    exact Nat.mul_le_mul_left _ (Nat.pow_le_pow_right (by decide) (by omega))
  have h4 : 2 * N < D := by
    refine Nat.lt_of_mul_lt_mul_right (a := 2 ^ c) ?_
    rw [Nat.mul_assoc]
    omega
  refine ⟨by decide, fun _ => ?_, fun h => absurd h (by decide)⟩
  rw [show dv 0 + dv (0 + 1) = 1 from rfl, Nat.one_mul]
  exact ⟨by omega, fun _ => rfl⟩
theorem round_high {more : Bool} {n a c N D : Nat} (hD : 0 < D) (hn : n ≠ 0) (hr : RelR more n a c N D) (h : c + 2098 < bitlen n + a) : IsRnd N D infB := by
  obtain ⟨k, hk, h1, _⟩ := bitlen_spec hn
  have h2 : 2 ^ k * (2 ^ a * D) ≤ N * 2 ^ c := by
    have := Nat.mul_le_mul_right (2 ^ a * D) h1
    rcases hr with ⟨_, h3⟩ | ⟨_, h3, h4⟩ <;> omega
  have h3 : dv infB * D ≤ N := by
    refine Nat.le_of_mul_le_mul_right (c := 2 ^ c) ?_ (Nat.two_pow_pos c)
    refine Nat.le_trans ?_ h2
    rw [← Nat.mul_assoc, ← Nat.pow_add, show dv infB = 2 ^ 2098 by decide +kernel, Nat.mul_right_comm, ← Nat.pow_add]
    exact Nat.mul_le_mul_right _ (Nat.pow_le_pow_right (by decide) (by omega))
  refine ⟨Nat.le_refl _, fun h => absurd h (Nat.lt_irrefl _), fun _ => ?_⟩
  have h4 := dv_lt (show infB - 1 < infB by decide)
  have h5 : (dv (infB - 1) + dv infB) * D ≤ 2 * (dv infB * D) := by
    rw [← Nat.mul_assoc]; exact Nat.mul_le_mul_right _ (by omega)
  exact ⟨by omega, fun _ => by decide⟩
theorem round_cut {more : Bool} {n a c N D k mv : Nat} (hD : 0 < D) (hn : n ≠ 0) (hr : RelR more n a c N D) (hmv : 1 ≤ mv) (hk : k + c = mv + a) (hk1 : k = 0 ∨ bitlen n = 53 + mv) (hk2 : bitlen n ≤ 53 + mv) (hk3 : k ≤ 2045) :
    IsRnd N D (magM more n mv + k * 4503599627370496) ∧ magM more n mv ≤ 9007199254740992 := by
  have hX : 0 < 2 ^ a * D := Nat.mul_pos (Nat.two_pow_pos a) hD
  have hV : D * 2 ^ k * 2 ^ c = 2 ^ mv * (2 ^ a * D) := by
    rw [Nat.mul_assoc, ← Nat.pow_add, hk, Nat.pow_add]
    ac_rfl
  obtain ⟨⟨a1, a2⟩, a3⟩ := mag_near (m := magM more n mv) hmv hX hV rfl hr
  generalize hm : magM more n mv = m at *
  have hl := lt_bitlen n
  have hc := Nat.two_pow_pos c
  generalize hU : D * 2 ^ k = U at *
  have sc : ∀ x y : Nat, x * 2 ^ c ≤ y * 2 ^ c → x ≤ y := fun x y h => Nat.le_of_mul_le_mul_right h hc
  have se : ∀ x y : Nat, x = y → x * 2 ^ c = y * 2 ^ c := fun x y h => by rw [h]
  have e1 : ∀ x : Nat, (2 * (x * U) + U) * 2 ^ c = 2 * (x * (U * 2 ^ c)) + U * 2 ^ c := fun x => by rw [Nat.add_mul, Nat.mul_assoc, Nat.mul_assoc]
  have e2 : (2 * N) * 2 ^ c = 2 * (N * 2 ^ c) := Nat.mul_assoc ..
  have e3 : (2 * (m * U)) * 2 ^ c = 2 * (m * (U * 2 ^ c)) := by rw [Nat.mul_assoc, Nat.mul_assoc]
  have e4 : (2 * N + U) * 2 ^ c = 2 * (N * 2 ^ c) + U * 2 ^ c := by rw [Nat.add_mul, Nat.mul_assoc]
  have htop : N < 9007199254740992 * U := by
    refine Nat.lt_of_mul_lt_mul_right (a := 2 ^ c) ?_
    rw [Nat.mul_assoc, hV, show (9007199254740992 : Nat) = 2 ^ 53 from rfl, ← Nat.mul_assoc, ← Nat.pow_add]
    have h1 : n * (2 ^ a * D) + 2 ^ a * D ≤ 2 ^ (53 + mv) * (2 ^ a * D) := by
      have := Nat.mul_le_mul_right (2 ^ a * D) (show n + 1 ≤ 2 ^ (53 + mv) from Nat.le_trans hl (Nat.pow_le_pow_right (by decide) hk2))
      rw [Nat.add_mul, Nat.one_mul] at this; exact this
    rcases hr with ⟨_, h3⟩ | ⟨_, h3, h4⟩ <;> omega
  have hU0 : 0 < U := by rw [← hU]; exact Nat.mul_pos hD (Nat.two_pow_pos k)
  have b1 : 2 * N ≤ 2 * (m * U) + U := sc _ _ (by rw [e2, e1]; exact a1)
  have b3 : 0 < m → 2 * (m * U) ≤ 2 * N + U := fun h => sc _ _ (by rw [e3, e4]; exact (a3 h).1)
  have hm2 : m ≤ 9007199254740992 := by
    refine Nat.le_of_not_lt fun h => ?_
    have h5 := b3 (by omega)
    have h6 : 9007199254740993 * U ≤ m * U := Nat.mul_le_mul_right _ (by omega)
    omega
  have h := rnd_of (m := m) hD hU b1 (fun h => a2 (by rw [← e2, ← e1, h])) b3 (fun h h' => (a3 h).2 (by rw [← e3, ← e4, h'])) (by
    rcases hk1 with h | h
    · exact .inl h
    · refine .inr ?_
      obtain ⟨j, hj, h1, _⟩ := bitlen_spec hn
      refine Nat.le_of_mul_le_mul_right (c := 2 ^ c) ?_ hc
      rw [Nat.mul_assoc, hV, show (4503599627370496 : Nat) = 2 ^ 52 from rfl, ← Nat.mul_assoc, ← Nat.pow_add, show 52 + mv = j by omega]
      have := Nat.mul_le_mul_right (2 ^ a * D) h1
      rcases hr with ⟨_, h3⟩ | ⟨_, h3, h4⟩ <;> omega) htop
  rw [Nat.min_eq_left (by unfold infB; omega)] at h
  exact ⟨h, hm2⟩
theorem round_whole {n a c N D k s : Nat} (hD : 0 < D) (hn : n ≠ 0) (hr : N * 2 ^ c = n * (2 ^ a * D)) (hk : k + c + s = a) (hk1 : k = 0 ∨ bitlen n + s = 53) (hk2 : bitlen n + s ≤ 53) (hk3 : k ≤ 2045) :
    IsRnd N D (n * 2 ^ s + k * 4503599627370496) ∧ n * 2 ^ s < 9007199254740992 := by
  have hc := Nat.two_pow_pos c
  have hl := lt_bitlen n
  have hm : n * 2 ^ s < 9007199254740992 := by
    rw [show (9007199254740992 : Nat) = 2 ^ 53 from rfl]
    refine Nat.lt_of_lt_of_le (Nat.mul_lt_mul_of_pos_right hl (Nat.two_pow_pos s)) ?_
    rw [← Nat.pow_add]; exact Nat.pow_le_pow_right (by decide) hk2
  have hN : N = n * 2 ^ s * (D * 2 ^ k) := by
    refine Nat.eq_of_mul_eq_mul_right hc ?_
    rw [hr, ← hk, show k + c + s = s + k + c by omega, Nat.pow_add, Nat.pow_add]
    ac_rfl
  have hU0 : 0 < D * 2 ^ k := Nat.mul_pos hD (Nat.two_pow_pos k)
  have h := rnd_of (m := n * 2 ^ s) (N := N) (k := k) hD rfl (by omega) (fun h => by omega) (fun _ => by omega) (fun _ h => by omega) (by
    rcases hk1 with h | h
    · exact .inl h
    · refine .inr ?_
      obtain ⟨j, hj, h1, _⟩ := bitlen_spec hn
      rw [hN]
      refine Nat.mul_le_mul_right _ ?_
      have : 2 ^ 52 ≤ n * 2 ^ s := by
        rw [show 52 = j + s by omega, Nat.pow_add]; exact Nat.mul_le_mul_right _ h1
      exact this) (by rw [hN]; exact Nat.mul_lt_mul_of_pos_right hm hU0)
  rw [Nat.min_eq_left (by unfold infB; omega)] at h
  exact ⟨h, hm⟩
theorem mid_gap {T w b : Nat} (hT : 10 ^ 769 ≤ T) (h : T * 2 ^ 1075 < (dv b + dv (b + 1)) * 10 ^ w) : (T + 1) * 2 ^ 1075 ≤ (dv b + dv (b + 1)) * 10 ^ w := by
  obtain ⟨m, k, rfl, h1, h2⟩ := dv_form b
  have e : m + k * 4503599627370496 + 1 = (m + 1) + k * 4503599627370496 := by omega
  rw [e, dv_at (by omega) h2, dv_at (by omega) (by omega), ← Nat.add_mul] at h ⊢
  generalize hM : m + (m + 1) = M at *
  have hMb : M ≤ 2 ^ 54 := by rw [← hM]; omega
  by_cases hw : 1075 ≤ w + k
  · have e2 : M * 2 ^ k * 10 ^ w = M * 5 ^ w * 2 ^ (w + k - 1075) * 2 ^ 1075 := by
      rw [show (10 : Nat) = 2 * 5 from rfl, Nat.mul_pow, Nat.mul_assoc (M * 5 ^ w), ← Nat.pow_add, show w + k - 1075 + 1075 = w + k by omega, Nat.pow_add]
      simp only [Nat.mul_assoc, Nat.mul_left_comm, Nat.mul_comm]
    rw [e2] at h ⊢
    exact Nat.mul_le_mul_right _ (Nat.lt_of_mul_lt_mul_right h)
  · exfalso
    have h3 : M * 2 ^ k * 10 ^ w ≤ 2 ^ 54 * 10 ^ 1074 := by
      rw [Nat.mul_assoc]
      refine Nat.mul_le_mul hMb ?_
      refine Nat.le_trans (Nat.mul_le_mul_right _ (Nat.pow_le_pow_left (show 2 ≤ 10 by decide) k)) ?_
      rw [← Nat.pow_add]
      exact Nat.pow_le_pow_right (by decide) (by omega)
    have h4 : 10 ^ 769 * 2 ^ 1075 ≤ T * 2 ^ 1075 := Nat.mul_le_mul_right _ hT
    have h5 : 2 ^ 54 * 10 ^ 1074 ≤ 10 ^ 769 * 2 ^ 1075 := by decide +kernel
    exact Nat.lt_irrefl _ (Nat.lt_of_lt_of_le h (Nat.le_trans h3 (Nat.le_trans h5 h4)))
theorem rnd_gap {N1 D1 N2 D2 T w b : Nat} (hD1 : 0 < D1) (hD2 : 0 < D2) (hT : 10 ^ 769 ≤ T) (h1 : T * 2 ^ 1074 * D1 < N1 * 10 ^ w) (h2 : N1 * 10 ^ w < (T + 1) * 2 ^ 1074 * D1) (g1 : T * 2 ^ 1074 * D2 < N2 * 10 ^ w) (g2 : N2 * 10 ^ w < (T + 1) * 2 ^ 1074 * D2) (h : IsRnd N1 D1 b) : IsRnd N2 D2 b := by
  have hw : 0 < 10 ^ w := Nat.pow_pos (by decide)
  have e0 : ∀ t d : Nat, t * 2 ^ 1075 * d = 2 * (t * 2 ^ 1074 * d) := fun t d => by
    rw [show (2 : Nat) ^ 1075 = 2 * 2 ^ 1074 by rw [← Nat.pow_succ'], ← Nat.mul_assoc t, Nat.mul_comm t 2, Nat.mul_assoc 2, Nat.mul_assoc 2]
  have e1 : ∀ n : Nat, 2 * n * 10 ^ w = 2 * (n * 10 ^ w) := fun n => Nat.mul_assoc ..
  have e2 : ∀ m d : Nat, m * d * 10 ^ w = m * 10 ^ w * d := fun m d => Nat.mul_right_comm ..
  refine ⟨h.le, fun hb => ?_, fun hb => ?_⟩
  · obtain ⟨u1, _⟩ := h.up hb
    generalize hM : dv b + dv (b + 1) = M at *
    have k1 : T * 2 ^ 1075 < M * 10 ^ w := by
      refine Nat.lt_of_mul_lt_mul_right (a := D1) ?_
      have := Nat.mul_le_mul_right (10 ^ w) u1
      rw [e1, e2] at this
      rw [e0]
      omega
    have k2 := mid_gap (b := b) hT (by rw [hM]; exact k1)
    rw [hM] at k2
    have k3 : 2 * N2 < M * D2 := by
      refine Nat.lt_of_mul_lt_mul_right (a := 10 ^ w) ?_
      have := Nat.mul_le_mul_right D2 k2
      rw [e0] at this
      rw [e1, e2]
      omega
    exact ⟨by omega, fun h => by omega⟩
  · obtain ⟨u1, _⟩ := h.dn hb
    have hM2 : dv (b - 1) + dv (b - 1 + 1) = dv (b - 1) + dv b := by rw [Nat.sub_add_cancel hb]
    generalize hM : dv (b - 1) + dv b = M at *
    have k1 : M * 10 ^ w < (T + 1) * 2 ^ 1075 := by
      refine Nat.lt_of_mul_lt_mul_right (a := D1) ?_
      have := Nat.mul_le_mul_right (10 ^ w) u1
      rw [e1, e2] at this
      rw [e0]
      omega
    have k2 : M * 10 ^ w ≤ T * 2 ^ 1075 := Nat.le_of_not_lt fun hlt => by
      have := mid_gap (b := b - 1) hT (by rw [hM2]; exact hlt)
      rw [hM2] at this
      omega
    have k3 : M * D2 < 2 * N2 := by
      refine Nat.lt_of_mul_lt_mul_right (a := 10 ^ w) ?_
      have := Nat.mul_le_mul_right D2 k2
      rw [e0] at this
      rw [e1, e2]
      omega
    exact ⟨by omega, fun h => by omega⟩
def rdec (v : Nat) (x : Int) : Nat := rndU (v * 10 ^ x.toNat * 2 ^ 1074) (10 ^ (-x).toNat)
theorem ten_pos (n : Nat) : 0 < 10 ^ n := Nat.pow_pos (by decide)
theorem rdec_le (v : Nat) (x : Int) : rdec v x ≤ infB := rndU_le
theorem rdec_zero (x : Int) : rdec 0 x = 0 := by
  unfold rdec; rw [Nat.zero_mul, Nat.zero_mul]; exact rndU_zero (ten_pos _)
theorem rdec_mono {v u : Nat} {x y : Int} (h : v * 10 ^ x.toNat * 10 ^ (-y).toNat ≤ u * 10 ^ y.toNat * 10 ^ (-x).toNat) : rdec v x ≤ rdec u y := by
  refine rndU_mono (ten_pos _) (ten_pos _) ?_
  rw [Nat.mul_right_comm _ (2 ^ 1074), Nat.mul_right_comm _ (2 ^ 1074)]
  exact Nat.mul_le_mul_right _ h
theorem rdec_eq {v u : Nat} {x y : Int} (h : v * 10 ^ x.toNat * 10 ^ (-y).toNat = u * 10 ^ y.toNat * 10 ^ (-x).toNat) : rdec v x = rdec u y :=
  Nat.le_antisymm (rdec_mono (Nat.le_of_eq h)) (rdec_mono (Nat.le_of_eq h.symm))
theorem rdec_scale (v j : Nat) (x : Int) : rdec (v * 10 ^ j) x = rdec v (x + j) := by
  refine rdec_eq ?_
  rw [Nat.mul_assoc, Nat.mul_assoc, ← Nat.pow_add, ← Nat.pow_add, Nat.mul_assoc, ← Nat.pow_add]
  congr 2
  omega
theorem rdec_low {v n : Nat} {x : Int} (h : v < 10 ^ n) (hx : (n : Int) + x < -400) : rdec v x = 0 := by
  unfold rdec
  rw [show x.toNat = 0 by omega, Nat.pow_zero, Nat.mul_one]
  refine rndU_eq (ten_pos _) ⟨by decide, fun _ => ?_, fun h => absurd h (by decide)⟩
  rw [show dv 0 + dv (0 + 1) = 1 from rfl, Nat.one_mul]
  have h1 : 2 * (v * 2 ^ 1074) < 10 ^ (-x).toNat := by
    obtain ⟨j, hj⟩ : ∃ j, (-x).toNat = n + (401 + j) := ⟨(-x).toNat - n - 401, by omega⟩
    rw [hj, Nat.pow_add, Nat.mul_left_comm]
    refine Nat.mul_lt_mul_of_lt_of_le h ?_ (ten_pos _)
    exact Nat.le_trans (show 2 * 2 ^ 1074 ≤ 10 ^ 401 by decide +kernel) (Nat.pow_le_pow_right (by decide) (by omega))
  exact ⟨by omega, fun _ => rfl⟩
theorem rdec_high {v n : Nat} {x : Int} (h : 10 ^ n ≤ v) (hx : 400 < (n : Int) + 1 + x) : rdec v x = infB := by
  unfold rdec
  refine rndU_eq (ten_pos _) ⟨Nat.le_refl _, fun h => absurd h (Nat.lt_irrefl _), fun _ => ?_⟩
  have h4 := dv_lt (show infB - 1 < infB by decide)
  have h3 : dv infB * 10 ^ (-x).toNat ≤ v * 10 ^ x.toNat * 2 ^ 1074 := by
    rw [show dv infB = 2 ^ 1024 * 2 ^ 1074 by decide +kernel, Nat.mul_right_comm]
    refine Nat.mul_le_mul_right _ ?_
    refine Nat.le_trans (Nat.mul_le_mul_right _ (show 2 ^ 1024 ≤ 10 ^ 400 by decide +kernel)) ?_
    refine Nat.le_trans ?_ (Nat.mul_le_mul_right _ h)
    rw [← Nat.pow_add, ← Nat.pow_add]
    exact Nat.pow_le_pow_right (by decide) (by omega)
  have h5 : (dv (infB - 1) + dv infB) * 10 ^ (-x).toNat ≤ 2 * (dv infB * 10 ^ (-x).toNat) := by
    rw [← Nat.mul_assoc]; exact Nat.mul_le_mul_right _ (by omega)
  exact ⟨by omega, fun _ => by decide⟩
theorem rdec_gap {v u T w : Nat} {x y : Int} (hT : 10 ^ 769 ≤ T) (h1 : T * 10 ^ (-x).toNat < v * 10 ^ x.toNat * 10 ^ w) (h2 : v * 10 ^ x.toNat * 10 ^ w < (T + 1) * 10 ^ (-x).toNat) (g1 : T * 10 ^ (-y).toNat < u * 10 ^ y.toNat * 10 ^ w) (g2 : u * 10 ^ y.toNat * 10 ^ w < (T + 1) * 10 ^ (-y).toNat) : rdec v x = rdec u y := by
  have hp := Nat.two_pow_pos 1074
  have e1 : ∀ a b : Nat, a * 2 ^ 1074 * b = a * b * 2 ^ 1074 := fun a b => Nat.mul_right_comm ..
  refine (rndU_eq (ten_pos _) (rnd_gap (w := w) (ten_pos _) (ten_pos _) hT ?_ ?_ ?_ ?_ (rndU_is (N := v * 10 ^ x.toNat * 2 ^ 1074) (ten_pos (-x).toNat)))).symm
  · rw [e1, e1]; exact Nat.mul_lt_mul_of_pos_right h1 hp
  · rw [e1, e1]; exact Nat.mul_lt_mul_of_pos_right h2 hp
  · rw [e1, e1]; exact Nat.mul_lt_mul_of_pos_right g1 hp
  · rw [e1, e1]; exact Nat.mul_lt_mul_of_pos_right g2 hp
theorem rdec_cut {T j r : Nat} {x : Int} (hT : 10 ^ 769 ≤ T) (hr : 0 < r ∧ r < 10 ^ j) (hx : x + j ≤ 0) (hj : 0 < j) : rdec (T * 10 + 1) (x + j - 1) = rdec (T * 10 ^ j + r) x := by
  refine rdec_gap (T := T) (w := (-(x + j)).toNat) hT ?_ ?_ ?_ ?_
  · rw [show (-(x + j - 1)).toNat = (-(x + j)).toNat + 1 by omega, show (x + j - 1).toNat = 0 by omega, Nat.pow_succ, Nat.pow_zero, Nat.mul_one, Nat.add_mul, Nat.mul_right_comm, Nat.one_mul, Nat.mul_assoc]
    have := ten_pos (-(x + j)).toNat
    omega
  · rw [show (-(x + j - 1)).toNat = (-(x + j)).toNat + 1 by omega, show (x + j - 1).toNat = 0 by omega, Nat.pow_succ, Nat.pow_zero, Nat.mul_one, Nat.add_mul, Nat.mul_right_comm, Nat.one_mul, Nat.mul_assoc, Nat.add_mul, Nat.one_mul]
    have := ten_pos (-(x + j)).toNat
    omega
  · rw [show (-x).toNat = (-(x + j)).toNat + j by omega, show x.toNat = 0 by omega, Nat.pow_add, Nat.pow_zero, Nat.mul_one, ← Nat.mul_assoc, Nat.mul_right_comm]
    exact Nat.mul_lt_mul_of_pos_right (by omega) (ten_pos _)
  · rw [show (-x).toNat = (-(x + j)).toNat + j by omega, show x.toNat = 0 by omega, Nat.pow_add, Nat.pow_zero, Nat.mul_one, ← Nat.mul_assoc, Nat.mul_right_comm]
    exact Nat.mul_lt_mul_of_pos_right (by rw [Nat.add_mul, Nat.one_mul]; omega) (ten_pos _)
theorem dv_parts (d : Nat) : dv (absD d) = mantD d * 2 ^ (expD d + 1074).toNat := by
  have h1 := abs_parts d
  have h2 := frac_lt d
  unfold dv mantD expD
  by_cases h : fieldD d = 0
  · rw [if_pos (by omega), if_pos h, if_pos h, show (-1074 + 1074 : Int).toNat = 0 from rfl, Nat.pow_zero, Nat.mul_one]
    omega
  · rw [if_neg (by omega), if_neg h, if_neg h, show absD d % 4503599627370496 = fracD d by omega, show absD d / 4503599627370496 - 1 = fieldD d - 1 by omega]
    congr 2
    omega
theorem limbs_zeros (n : Nat) : Limbs (List.replicate n 0) := fun x hx => by rw [List.eq_of_mem_replicate hx]; decide
theorem to_uint (v : Nat) (hv : v < 18446744073709551616) : Meets Tryz.prog 188 [.ints .u64 (natL v)] (.tup [.int .u64 (v : Int), .bool true]) := by
  by_cases h0 : v = 0
  · subst h0
    rw [natL_zero]
    have s1 := nat_size [] (by decide)
    have e : size [] = 0 := rfl
    rw [e] at s1
    refine meets_by ttOk Tryz.func188 Tryz.ntmps188 Tryz.results188 (by kernel_rfl) (c := _) rfl rfl rfl fun E => ?_
    simp only [argsFrame]
    repeat' first
      | (with_reducible first | refine PW.seq ?_ | refine PW.block ?_ | refine PW.fork ?_ | refine PW.skip ?_ | refine PW.exit ?_ | refine PW.ret ?_ | refine PW.scope ?_ | refine PW.label ?_ | refine PW.goto ?_)
      | (with_reducible refine PW.region ttOk ?_ ?_
         · rfl)
      | (with_reducible refine PW.regionD ttOk mixed ?_ ?_ ?_
         · rfl
         · rfl) | (with_reducible refine ifW_dec (fun g => ?_) (fun g => ?_) <;> first | (exfalso; omega) | (simp -dsimp only [g, wkI])) | (with_reducible refine condE_dec (fun g => ?_) (fun g => ?_) <;> try (exfalso; omega)) | (with_reducible refine condE_not (fun g => ?_) (fun g => ?_) <;> try (exfalso; omega)) | (simp -dsimp only [↓wkA, ↓wkE, ↓wkJ, wkB, ↓tt, Nat.reduceBEq, Nat.reduceEqDiff, ↓reduceIte, Nat.reduceLT, Array.toList, Nat.reduceAdd, Nat.reduceMul, Int.reduceToNat, Int.reducePow, UInt8.reduceToNat]) | (refine call_by (s1) (views_data rfl) ⟨trivial, trivial⟩ rfl ?_) | (simp -dsimp (disch := first | assumption | omega) only [dec_t, dec_f])
      | (refine And.intro ?_ ?_
         · first | omega | decide | (simp (disch := omega) only [wkW, Int.reduceToNat, Int.reducePow] <;> omega) | (simp <;> omega)) | (simp (disch := omega) only [wkW, Int.reduceToNat, Int.reducePow]) | fail
  · rw [natL_one v ⟨by omega, hv⟩]
    have s1 := size_as (a := [(v : Int)]) (by simp) (by
      have := size_natL v
      rwa [natL_one v ⟨by omega, hv⟩] at this)
    refine meets_by ttOk Tryz.func188 Tryz.ntmps188 Tryz.results188 (by kernel_rfl) (c := _) rfl rfl rfl fun E => ?_
    simp only [argsFrame]
    repeat' first
      | (with_reducible first | refine PW.seq ?_ | refine PW.block ?_ | refine PW.fork ?_ | refine PW.skip ?_ | refine PW.exit ?_ | refine PW.ret ?_ | refine PW.scope ?_ | refine PW.label ?_ | refine PW.goto ?_)
      | (with_reducible refine PW.region ttOk ?_ ?_
         · rfl)
      | (with_reducible refine PW.regionD ttOk mixed ?_ ?_ ?_
         · rfl
         · rfl) | (with_reducible refine ifW_dec (fun g => ?_) (fun g => ?_) <;> first | (exfalso; omega) | (simp -dsimp only [g, wkI])) | (with_reducible refine condE_dec (fun g => ?_) (fun g => ?_) <;> try (exfalso; omega)) | (with_reducible refine condE_not (fun g => ?_) (fun g => ?_) <;> try (exfalso; omega)) | (simp -dsimp only [↓wkA, ↓wkE, ↓wkJ, wkB, ↓tt, Nat.reduceBEq, Nat.reduceEqDiff, ↓reduceIte, Nat.reduceLT, Array.toList, Nat.reduceAdd, Nat.reduceMul, Int.reduceToNat, Int.reducePow, UInt8.reduceToNat]) | (refine call_by (s1) (views_data rfl) ⟨trivial, trivial⟩ rfl ?_) | (simp -dsimp (disch := first | assumption | omega) only [dec_t, dec_f])
      | (refine And.intro ?_ ?_
         · first | omega | decide | (simp (disch := omega) only [wkW, Int.reduceToNat, Int.reducePow] <;> omega) | (simp <;> omega)) | (simp (disch := omega) only [wkW, Int.reduceToNat, Int.reducePow]) | fail
structure AddS (a b o : List Int) (i : Nat) (c : Int) : Prop where
  len : o.length = a.length + 1
  lim : Limbs o
  car : 0 ≤ c ∧ c ≤ 1
  eq : vt o i + B64 ^ i * c = vt a i + vt b i
theorem AddS.step {a b o : List Int} {i : Nat} {c s : Int} (h : AddS a b o i c) (ha : Limbs a) (hb : Limbs b) (hi : i < a.length) (hs : s = a.getD i 0 + b.getD i 0 + c) : AddS a b (o.set i (s % 18446744073709551616)) (i + 1) (s / 18446744073709551616) := by
  have hlt : i < o.length := by rw [h.len]; omega
  have hx := getD_limb ha i
  have hy := getD_limb hb i
  have hc := h.car
  simp only [B64] at hx hy
  refine ⟨by rw [List.length_set, h.len], limbs_set h.lim _ ⟨Int.emod_nonneg _ (by decide), Int.emod_lt_of_pos _ (by decide)⟩, by omega, ?_⟩
  simp only [vt]
  rw [vt_set_ge _ _ _ _ hlt (Nat.le_refl _), getD_set _ _ _ _ hlt, if_pos rfl, Int.pow_succ]
  have hsum : 18446744073709551616 * (s / 18446744073709551616) + s % 18446744073709551616 = s := Int.mul_ediv_add_emod s 18446744073709551616
  have he := h.eq
  rw [hs] at hsum ⊢
  simp only [B64] at he ⊢
  generalize (18446744073709551616 : Int) ^ i = p at *
  generalize (a.getD i 0 + b.getD i 0 + c) / 18446744073709551616 = q at *
  generalize (a.getD i 0 + b.getD i 0 + c) % 18446744073709551616 = r at *
  grind
theorem AddS.fin {a b o : List Int} {c : Int} (h : AddS a b o a.length c) (hlen : b.length ≤ a.length) : val (o.set a.length c) = val a + val b ∧ Limbs (o.set a.length c) := by
  have hc := h.car
  have hlt : a.length < o.length := by rw [h.len]; omega
  refine ⟨?_, limbs_set h.lim _ ⟨hc.1, by simp only [B64]; omega⟩⟩
  unfold val
  rw [List.length_set, h.len]
  simp only [vt]
  rw [vt_set_ge _ _ _ _ hlt (Nat.le_refl _), getD_set _ _ _ _ hlt, if_pos rfl, h.eq, vt_beyond _ hlen]
  rfl
abbrev adF (x y : List Int) (i : Nat) (c : Int) : PV.Frame := [(38, .int .i64 (i : Int)), (37, .int .i64 x.length), (36, .ints .u64 x), (7, .int .u64 c), (6, .sl 0 0 (x.length + 1) true), (1, .ints .u64 y), (0, .ints .u64 x)]
theorem add_list (a b x y : List Int) (hxy : (a.length < b.length ∧ b = x ∧ a = y) ∨ (¬ a.length < b.length ∧ a = x ∧ b = y)) (ha : Limbs a) (hb : Limbs b) (hla : a.length ≤ 4096) (hlb : b.length ≤ 4096) (hsa : size a = a.length) (hsb : size b = b.length) (v : Nat) (hv : val a + val b = v) (hm : v < NMax) :
    Meets Tryz.prog 41 [.ints .u64 a, .ints .u64 b] (.tup [.ints .u64 (natL v), .int .i64 0]) := by
  have s1 := size_as hla hsa
  have s2 := size_as hlb hsb
  have b1 := big_as hla hsa
  have b2 := big_as hlb hsb
  have hcut : ∀ o, Limbs o → o.length ≤ 100000 → val o = v → Meets Tryz.prog 79 [.ints .u64 o] (.tup [.ints .u64 (natL v), .int .i64 0]) := fun o h1 h2 h3 => cut_as h1 h2 h3 hm
  have hlen : y.length ≤ x.length ∧ x.length ≤ 4096 := by rcases hxy with ⟨h1, rfl, rfl⟩ | ⟨h1, rfl, rfl⟩ <;> omega
  have hlim : Limbs x ∧ Limbs y := by rcases hxy with ⟨h1, rfl, rfl⟩ | ⟨h1, rfl, rfl⟩ <;> exact ⟨by assumption, by assumption⟩
  have hval : val x + val y = v := by rcases hxy with ⟨h1, rfl, rfl⟩ | ⟨h1, rfl, rfl⟩ <;> omega
  have w1 : IntKind.wrap .i64 ((x.length : Int) + 1) = ((x.length + 1 : Nat) : Int) := wrap_i64 (by omega)
  generalize natL v = res at *
  clear hm hsa hsb
  refine meets_by ttOk Tryz.func41 Tryz.ntmps41 Tryz.results41 (by kernel_rfl) (c := _) rfl rfl rfl fun E => ?_
  simp only [argsFrame]
  rcases hxy with ⟨h1, rfl, rfl⟩ | ⟨h1, rfl, rfl⟩
  all_goals
    repeat' first
      | (simp only [w1, Int.toNat_natCast])
      | (with_reducible first | refine PW.seq ?_ | refine PW.block ?_ | refine PW.fork ?_ | refine PW.skip ?_ | refine PW.exit ?_ | refine PW.ret ?_ | refine PW.scope ?_ | refine PW.label ?_ | refine PW.goto ?_)
      | (with_reducible refine PW.region ttOk ?_ ?_
         · rfl)
      | (with_reducible refine PW.regionD ttOk mixed ?_ ?_ ?_
         · rfl
         · rfl) | (with_reducible refine ifW_dec (fun g => ?_) (fun g => ?_) <;> first | (exfalso; omega) | (simp -dsimp only [g, wkI])) | (with_reducible refine condE_dec (fun g => ?_) (fun g => ?_) <;> try (exfalso; omega)) | (with_reducible refine condE_not (fun g => ?_) (fun g => ?_) <;> try (exfalso; omega)) | (simp -dsimp only [↓wkA, ↓wkE, ↓wkJ, wkB, ↓tt, Nat.reduceBEq, Nat.reduceEqDiff, ↓reduceIte, Nat.reduceLT, Array.toList, Nat.reduceAdd, Nat.reduceMul, Int.reduceToNat, Int.reducePow, UInt8.reduceToNat]) | (refine call_by (b1) (views_data rfl) ⟨trivial, trivial⟩ rfl ?_) | (refine call_by (b2) (views_data rfl) ⟨trivial, trivial⟩ rfl ?_) | (refine callD_by (s1) (views_data rfl) ⟨trivial, trivial⟩ rfl ?_) | (refine callD_by (s2) (views_data rfl) ⟨trivial, trivial⟩ rfl ?_) | (simp -dsimp (disch := first | assumption | omega) only [dec_t, dec_f])
      | (refine And.intro ?_ ?_
         · first | omega | decide | (simp (disch := omega) only [wkW, Int.reduceToNat, Int.reducePow] <;> omega) | (simp <;> omega)) | (simp (disch := omega) only [wkW, Int.reduceToNat, Int.reducePow]) | fail
  case' inl => have hgo := And.intro ha hb; clear hv; generalize hbx : b = x at *; generalize hay : a = y at *
  case' inr => have hgo := And.intro hb ha; clear hv; generalize hbx : a = x at *; generalize hay : b = y at *
  all_goals
    refine PW.loopA (fun m F H => ∃ i o c, i + m = x.length ∧ AddS x y o i c ∧ F = adF x y i c ∧ H = ⟨1, [(0, .ints .u64 o)], [], []⟩) x.length (adF x y 0 0) ⟨1, [(0, .ints .u64 (List.replicate (x.length + 1) 0))], [], []⟩ (Sub.norm ⟨rfl, rfl, rfl, rfl, rfl, rfl, rfl, trivial⟩ ⟨rfl, trivial⟩ (by simp) rfl rfl rfl rfl) ⟨0, _, 0, by omega, ⟨by simp, limbs_zeros _, by decide, by simp [vt]⟩, rfl, rfl⟩ ?_
    rintro m F H ⟨i, o, c, hi, hS, rfl, rfl⟩
    have hol := hS.len
    cases m with
    | zero =>
      obtain rfl : i = x.length := by omega
      obtain ⟨hf, hfl⟩ := hS.fin hlen.1
      have hc := hcut _ hfl (by rw [List.length_set]; omega) (by rw [hf]; exact hval)
      repeat' first
        | (simp only [w1, Int.toNat_natCast])
        | (with_reducible first | refine PW.seq ?_ | refine PW.block ?_ | refine PW.fork ?_ | refine PW.skip ?_ | refine PW.exit ?_ | refine PW.ret ?_ | refine PW.scope ?_ | refine PW.label ?_ | refine PW.goto ?_)
        | (with_reducible refine PW.region ttOk ?_ ?_
           · rfl)
        | (with_reducible refine PW.regionD ttOk mixed ?_ ?_ ?_
           · rfl
           · rfl) | (with_reducible refine ifW_dec (fun g => ?_) (fun g => ?_) <;> first | (exfalso; omega) | (simp -dsimp only [g, wkI])) | (with_reducible refine condE_dec (fun g => ?_) (fun g => ?_) <;> try (exfalso; omega)) | (with_reducible refine condE_not (fun g => ?_) (fun g => ?_) <;> try (exfalso; omega)) | (simp -dsimp only [↓wkA, ↓wkE, ↓wkJ, wkB, ↓tt, Nat.reduceBEq, Nat.reduceEqDiff, ↓reduceIte, Nat.reduceLT, Array.toList, Nat.reduceAdd, Nat.reduceMul, Int.reduceToNat, Int.reducePow, UInt8.reduceToNat]) | (refine call_drop (args' := [.ints .u64 (o.set x.length c)]) (by simp -dsimp only [↓wkA, ↓wkE, ↓wkJ, wkB, ↓tt, Nat.reduceBEq, Nat.reduceEqDiff, ↓reduceIte, Nat.reduceLT, Array.toList, Nat.reduceAdd, Nat.reduceMul, Int.reduceToNat, Int.reducePow, UInt8.reduceToNat] <;> rw [List.take_of_length_le (by rw [List.length_set]; omega)]) hc (by simp -dsimp only [okViews, ↓wkA, ↓wkE, ↓wkJ, wkB, ↓tt, Nat.reduceBEq, Nat.reduceEqDiff, ↓reduceIte, Nat.reduceLT, Array.toList, Nat.reduceAdd, Nat.reduceMul, Int.reduceToNat, Int.reducePow, UInt8.reduceToNat] <;> rw [List.length_set] <;> omega) rfl ?_) | (simp -dsimp (disch := first | assumption | omega) only [dec_t, dec_f])
        | (refine And.intro ?_ ?_
           · first | omega | decide | (simp (disch := omega) only [wkW, Int.reduceToNat, Int.reducePow] <;> omega) | (simp <;> omega)) | (simp (disch := omega) only [wkW, Int.reduceToNat, Int.reducePow]) | fail
    | succ m =>
      have hx := getD_limb hlim.1 i
      have hy := getD_limb hlim.2 i
      have hc := hS.car
      simp only [B64] at hx hy
      have hstep := hS.step hlim.1 hlim.2 (by omega) rfl
      have h64 := add64 hx.1 hy.1 hc
      by_cases hib : i < y.length
      · skip
        repeat' first
          | (with_reducible first | refine PW.seq ?_ | refine PW.block ?_ | refine PW.fork ?_ | refine PW.skip ?_ | refine PW.exit ?_ | refine PW.ret ?_ | refine PW.scope ?_ | refine PW.label ?_ | refine PW.goto ?_)
          | (with_reducible refine PW.region ttOk ?_ ?_
             · rfl)
          | (with_reducible refine PW.regionD ttOk mixed ?_ ?_ ?_
             · rfl
             · rfl) | (with_reducible refine ifW_dec (fun g => ?_) (fun g => ?_) <;> first | (exfalso; omega) | (simp -dsimp only [g, wkI])) | (with_reducible refine condE_dec (fun g => ?_) (fun g => ?_) <;> try (exfalso; omega)) | (with_reducible refine condE_not (fun g => ?_) (fun g => ?_) <;> try (exfalso; omega)) | (simp -dsimp only [↓wkA, ↓wkE, ↓wkJ, wkB, ↓tt, Nat.reduceBEq, Nat.reduceEqDiff, ↓reduceIte, Nat.reduceLT, Array.toList, Nat.reduceAdd, Nat.reduceMul, Int.reduceToNat, Int.reducePow, UInt8.reduceToNat]) | (refine call_by (h64) (views_data rfl) ⟨trivial, trivial, trivial, trivial⟩ rfl ?_) | (simp -dsimp (disch := first | assumption | omega) only [dec_t, dec_f])
          | (refine And.intro ?_ ?_
             · first | omega | decide | (simp (disch := omega) only [wkW, Int.reduceToNat, Int.reducePow] <;> omega) | (simp <;> omega)) | (simp (disch := omega) only [wkW, Int.reduceToNat, Int.reducePow]) | fail
        exact Again.mk m (adF x y (i + 1) _) ⟨1, [(0, .ints .u64 _)], [], []⟩ (by omega) (Sub.norm ⟨rfl, rfl, rfl, rfl, rfl, rfl, rfl, trivial⟩ ⟨rfl, trivial⟩ (Nat.le_refl _) rfl rfl rfl rfl) ⟨i + 1, _, _, by omega, hstep, rfl, rfl⟩
      · have hy0 : y.getD i 0 = 0 := by rw [List.getD_eq_getElem?_getD, List.getElem?_eq_none (by omega)]; rfl
        rw [hy0] at h64 hstep
        repeat' first
          | (with_reducible first | refine PW.seq ?_ | refine PW.block ?_ | refine PW.fork ?_ | refine PW.skip ?_ | refine PW.exit ?_ | refine PW.ret ?_ | refine PW.scope ?_ | refine PW.label ?_ | refine PW.goto ?_)
          | (with_reducible refine PW.region ttOk ?_ ?_
             · rfl)
          | (with_reducible refine PW.regionD ttOk mixed ?_ ?_ ?_
             · rfl
             · rfl) | (with_reducible refine ifW_dec (fun g => ?_) (fun g => ?_) <;> first | (exfalso; omega) | (simp -dsimp only [g, wkI])) | (with_reducible refine condE_dec (fun g => ?_) (fun g => ?_) <;> try (exfalso; omega)) | (with_reducible refine condE_not (fun g => ?_) (fun g => ?_) <;> try (exfalso; omega)) | (simp -dsimp only [↓wkA, ↓wkE, ↓wkJ, wkB, ↓tt, Nat.reduceBEq, Nat.reduceEqDiff, ↓reduceIte, Nat.reduceLT, Array.toList, Nat.reduceAdd, Nat.reduceMul, Int.reduceToNat, Int.reducePow, UInt8.reduceToNat]) | (refine call_by (h64) (views_data rfl) ⟨trivial, trivial, trivial, trivial⟩ rfl ?_) | (simp -dsimp (disch := first | assumption | omega) only [dec_t, dec_f])
          | (refine And.intro ?_ ?_
             · first | omega | decide | (simp (disch := omega) only [wkW, Int.reduceToNat, Int.reducePow] <;> omega) | (simp <;> omega)) | (simp (disch := omega) only [wkW, Int.reduceToNat, Int.reducePow]) | fail
        exact Again.mk m (adF x y (i + 1) _) ⟨1, [(0, .ints .u64 _)], [], []⟩ (by omega) (Sub.norm ⟨rfl, rfl, rfl, rfl, rfl, rfl, rfl, trivial⟩ ⟨rfl, trivial⟩ (Nat.le_refl _) rfl rfl rfl rfl) ⟨i + 1, _, _, by omega, hstep, rfl, rfl⟩
theorem add_nat {u v : Nat} (hu : u < NMax) (hv : v < NMax) (h : u + v < NMax) : Meets Tryz.prog 41 [.ints .u64 (natL u), .ints .u64 (natL v)] (.tup [.ints .u64 (natL (u + v)), .int .i64 0]) := by
  by_cases hc : (natL u).length < (natL v).length
  · exact add_list _ _ _ _ (.inl ⟨hc, rfl, rfl⟩) (natL_limbs u) (natL_limbs v) (natL_small hu) (natL_small hv) (size_natL u) (size_natL v) _ (by rw [val_natL, val_natL]; omega) h
  · exact add_list _ _ _ _ (.inr ⟨hc, rfl, rfl⟩) (natL_limbs u) (natL_limbs v) (natL_small hu) (natL_small hv) (size_natL u) (size_natL v) _ (by rw [val_natL, val_natL]; omega) h
structure MuaS (a o : List Int) (k c0 : Int) (i : Nat) (c : Int) : Prop where
  len : o.length = a.length + 1
  lim : Limbs o
  car : 0 ≤ c ∧ c < B64
  eq : vt o i + B64 ^ i * c = vt a i * k + c0
theorem MuaS.step {a o : List Int} {k c0 c s : Int} {i : Nat} (h : MuaS a o k c0 i c) (ha : Limbs a) (hk : 0 ≤ k ∧ k < B64) (hi : i < a.length) (hs : s = a.getD i 0 * k + c) : MuaS a (o.set i (s % 18446744073709551616)) k c0 (i + 1) (s / 18446744073709551616) := by
  have hlt : i < o.length := by rw [h.len]; omega
  have hx := getD_limb ha i
  have hc := h.car
  have hb := mul_bound hx hk
  simp only [B64] at hx hc hk
  refine ⟨by rw [List.length_set, h.len], limbs_set h.lim _ ⟨Int.emod_nonneg _ (by decide), Int.emod_lt_of_pos _ (by decide)⟩, by simp only [B64]; omega, ?_⟩
  simp only [vt]
  rw [vt_set_ge _ _ _ _ hlt (Nat.le_refl _), getD_set _ _ _ _ hlt, if_pos rfl, Int.pow_succ]
  have hsum : 18446744073709551616 * (s / 18446744073709551616) + s % 18446744073709551616 = s := Int.mul_ediv_add_emod s 18446744073709551616
  have he := h.eq
  rw [hs] at hsum ⊢
  simp only [B64] at he ⊢
  generalize (18446744073709551616 : Int) ^ i = p at *
  generalize (a.getD i 0 * k + c) / 18446744073709551616 = q at *
  generalize (a.getD i 0 * k + c) % 18446744073709551616 = r at *
  grind
theorem MuaS.fin {a o : List Int} {k c0 c : Int} (h : MuaS a o k c0 a.length c) : val (o.set a.length c) = val a * k + c0 ∧ Limbs (o.set a.length c) := by
  have hc := h.car
  have hlt : a.length < o.length := by rw [h.len]; omega
  refine ⟨?_, limbs_set h.lim _ hc⟩
  unfold val
  rw [List.length_set, h.len]
  simp only [vt]
  rw [vt_set_ge _ _ _ _ hlt (Nat.le_refl _), getD_set _ _ _ _ hlt, if_pos rfl, h.eq]
abbrev maF (a : List Int) (k : Int) (i : Nat) (c : Int) : PV.Frame := [(28, .int .i64 (i : Int)), (27, .int .i64 a.length), (26, .ints .u64 a), (9, .int .u64 c), (8, .sl 0 0 (a.length + 1) true), (0, .ints .u64 a), (1, .int .u64 k)]
theorem mul_add_list (a : List Int) (ha : Limbs a) (hla : a.length ≤ 4096) (hsa : size a = a.length) (k c0 : Int) (hk : 0 ≤ k ∧ k < B64) (hc0 : 0 ≤ c0 ∧ c0 < B64) (v : Nat) (hv : val a * k + c0 = v) (hm : v < NMax) :
    Meets Tryz.prog 201 [.ints .u64 a, .int .u64 k, .int .u64 c0] (.tup [.ints .u64 (natL v), .int .i64 0]) := by
  have s1 := size_as hla hsa
  have b1 := big_as hla hsa
  have hcut : ∀ o, Limbs o → o.length ≤ 100000 → val o = v → Meets Tryz.prog 79 [.ints .u64 o] (.tup [.ints .u64 (natL v), .int .i64 0]) := fun o h1 h2 h3 => cut_as h1 h2 h3 hm
  have w1 : IntKind.wrap .i64 ((a.length : Int) + 1) = ((a.length + 1 : Nat) : Int) := wrap_i64 (by omega)
  have htk : a.take a.length = a := List.take_of_length_le (Nat.le_refl _)
  generalize natL v = res at *
  clear hm hsa
  refine meets_by ttOk Tryz.func201 Tryz.ntmps201 Tryz.results201 (by kernel_rfl) (c := _) rfl rfl rfl fun E => ?_
  simp only [argsFrame]
  repeat' first
    | (simp only [w1, htk, Int.toNat_natCast])
    | (with_reducible first | refine PW.seq ?_ | refine PW.block ?_ | refine PW.fork ?_ | refine PW.skip ?_ | refine PW.exit ?_ | refine PW.ret ?_ | refine PW.scope ?_ | refine PW.label ?_ | refine PW.goto ?_)
    | (with_reducible refine PW.region ttOk ?_ ?_
       · rfl)
    | (with_reducible refine PW.regionD ttOk mixed ?_ ?_ ?_
       · rfl
       · rfl) | (with_reducible refine ifW_dec (fun g => ?_) (fun g => ?_) <;> first | (exfalso; omega) | (simp -dsimp only [g, wkI])) | (with_reducible refine condE_dec (fun g => ?_) (fun g => ?_) <;> try (exfalso; omega)) | (with_reducible refine condE_not (fun g => ?_) (fun g => ?_) <;> try (exfalso; omega)) | (simp -dsimp only [↓wkA, ↓wkE, ↓wkJ, wkB, ↓tt, Nat.reduceBEq, Nat.reduceEqDiff, ↓reduceIte, Nat.reduceLT, Array.toList, Nat.reduceAdd, Nat.reduceMul, Int.reduceToNat, Int.reducePow, UInt8.reduceToNat]) | (refine call_by (b1) (views_data rfl) ⟨trivial, trivial⟩ rfl ?_) | (refine call_by (s1) (views_data rfl) ⟨trivial, trivial⟩ rfl ?_) | (simp -dsimp (disch := first | assumption | omega) only [dec_t, dec_f])
    | (refine And.intro ?_ ?_
       · first | omega | decide | (simp (disch := omega) only [wkW, Int.reduceToNat, Int.reducePow] <;> omega) | (simp <;> omega)) | (simp (disch := omega) only [wkW, Int.reduceToNat, Int.reducePow]) | fail
  refine PW.loopA (fun m F H => ∃ i o c, i + m = a.length ∧ MuaS a o k c0 i c ∧ F = maF a k i c ∧ H = ⟨1, [(0, .ints .u64 o)], [], []⟩) a.length (maF a k 0 c0) ⟨1, [(0, .ints .u64 (List.replicate (a.length + 1) 0))], [], []⟩ (Sub.norm ⟨rfl, rfl, rfl, rfl, rfl, rfl, rfl, trivial⟩ ⟨rfl, trivial⟩ (by simp) rfl rfl rfl rfl) ⟨0, _, c0, by omega, ⟨by simp, limbs_zeros _, hc0, by simp [vt]⟩, rfl, rfl⟩ ?_
  rintro m F H ⟨i, o, c, hi, hS, rfl, rfl⟩
  have hol := hS.len
  cases m with
  | zero =>
    obtain rfl : i = a.length := by omega
    obtain ⟨hf, hfl⟩ := hS.fin
    have hc := hcut _ hfl (by rw [List.length_set]; omega) (by rw [hf]; exact hv)
    repeat' first
      | (simp only [w1, Int.toNat_natCast])
      | (with_reducible first | refine PW.seq ?_ | refine PW.block ?_ | refine PW.fork ?_ | refine PW.skip ?_ | refine PW.exit ?_ | refine PW.ret ?_ | refine PW.scope ?_ | refine PW.label ?_ | refine PW.goto ?_)
      | (with_reducible refine PW.region ttOk ?_ ?_
         · rfl)
      | (with_reducible refine PW.regionD ttOk mixed ?_ ?_ ?_
         · rfl
         · rfl) | (with_reducible refine ifW_dec (fun g => ?_) (fun g => ?_) <;> first | (exfalso; omega) | (simp -dsimp only [g, wkI])) | (with_reducible refine condE_dec (fun g => ?_) (fun g => ?_) <;> try (exfalso; omega)) | (with_reducible refine condE_not (fun g => ?_) (fun g => ?_) <;> try (exfalso; omega)) | (simp -dsimp only [↓wkA, ↓wkE, ↓wkJ, wkB, ↓tt, Nat.reduceBEq, Nat.reduceEqDiff, ↓reduceIte, Nat.reduceLT, Array.toList, Nat.reduceAdd, Nat.reduceMul, Int.reduceToNat, Int.reducePow, UInt8.reduceToNat]) | (refine call_drop (args' := [.ints .u64 (o.set a.length c)]) (by simp -dsimp only [↓wkA, ↓wkE, ↓wkJ, wkB, ↓tt, Nat.reduceBEq, Nat.reduceEqDiff, ↓reduceIte, Nat.reduceLT, Array.toList, Nat.reduceAdd, Nat.reduceMul, Int.reduceToNat, Int.reducePow, UInt8.reduceToNat] <;> rw [List.take_of_length_le (by rw [List.length_set]; omega)]) hc (by simp -dsimp only [okViews, ↓wkA, ↓wkE, ↓wkJ, wkB, ↓tt, Nat.reduceBEq, Nat.reduceEqDiff, ↓reduceIte, Nat.reduceLT, Array.toList, Nat.reduceAdd, Nat.reduceMul, Int.reduceToNat, Int.reducePow, UInt8.reduceToNat] <;> rw [List.length_set] <;> omega) rfl ?_) | (simp -dsimp (disch := first | assumption | omega) only [dec_t, dec_f])
      | (refine And.intro ?_ ?_
         · first | omega | decide | (simp (disch := omega) only [wkW, Int.reduceToNat, Int.reducePow] <;> omega) | (simp <;> omega)) | (simp (disch := omega) only [wkW, Int.reduceToNat, Int.reducePow]) | fail
  | succ m =>
    have hx := getD_limb ha i
    have hc := hS.car
    have hxy := mul_bound hx hk
    have hstep := hS.step ha hk (by omega) rfl
    have hmul := mul64 (a.getD i 0) k hx hk
    simp only [B64] at hx hk hc hmul
    have h64 := add64 (x := a.getD i 0 * k % 18446744073709551616) (y := c) (c := 0) (by omega) hc.1 (by decide)
    have e1 : (a.getD i 0 * k % 18446744073709551616 + c + 0) % 18446744073709551616 = (a.getD i 0 * k + c) % 18446744073709551616 := by omega
    have e2 : a.getD i 0 * k / 18446744073709551616 + (a.getD i 0 * k % 18446744073709551616 + c + 0) / 18446744073709551616 = (a.getD i 0 * k + c) / 18446744073709551616 := by omega
    have w2 : IntKind.wrap .u64 (a.getD i 0 * k / 18446744073709551616 + (a.getD i 0 * k % 18446744073709551616 + c + 0) / 18446744073709551616) = (a.getD i 0 * k + c) / 18446744073709551616 := by rw [e2]; exact wrap_u64 (by omega)
    repeat' first
      | (simp only [w2, e1])
      | (with_reducible first | refine PW.seq ?_ | refine PW.block ?_ | refine PW.fork ?_ | refine PW.skip ?_ | refine PW.exit ?_ | refine PW.ret ?_ | refine PW.scope ?_ | refine PW.label ?_ | refine PW.goto ?_)
      | (with_reducible refine PW.region ttOk ?_ ?_
         · rfl)
      | (with_reducible refine PW.regionD ttOk mixed ?_ ?_ ?_
         · rfl
         · rfl) | (with_reducible refine ifW_dec (fun g => ?_) (fun g => ?_) <;> first | (exfalso; omega) | (simp -dsimp only [g, wkI])) | (with_reducible refine condE_dec (fun g => ?_) (fun g => ?_) <;> try (exfalso; omega)) | (with_reducible refine condE_not (fun g => ?_) (fun g => ?_) <;> try (exfalso; omega)) | (simp -dsimp only [↓wkA, ↓wkE, ↓wkJ, wkB, ↓tt, Nat.reduceBEq, Nat.reduceEqDiff, ↓reduceIte, Nat.reduceLT, Array.toList, Nat.reduceAdd, Nat.reduceMul, Int.reduceToNat, Int.reducePow, UInt8.reduceToNat]) | (refine call_by (hmul) (views_data rfl) ⟨trivial, trivial, trivial⟩ rfl ?_) | (refine call_by (h64) (views_data rfl) ⟨trivial, trivial, trivial, trivial⟩ rfl ?_) | (simp -dsimp (disch := first | assumption | omega) only [dec_t, dec_f])
      | (refine And.intro ?_ ?_
         · first | omega | decide | (simp (disch := omega) only [wkW, Int.reduceToNat, Int.reducePow] <;> omega) | (simp <;> omega)) | (simp (disch := omega) only [wkW, Int.reduceToNat, Int.reducePow]) | fail
    exact Again.mk m (maF a k (i + 1) _) ⟨1, [(0, .ints .u64 _)], [], []⟩ (by omega) (Sub.norm ⟨rfl, rfl, rfl, rfl, rfl, rfl, rfl, trivial⟩ ⟨rfl, trivial⟩ (Nat.le_refl _) rfl rfl rfl rfl) ⟨i + 1, _, _, by omega, hstep, rfl, rfl⟩
theorem mul_add_nat {u k c : Nat} (hu : u < NMax) (hk : k < 18446744073709551616) (hc : c < 18446744073709551616) (h : u * k + c < NMax) : Meets Tryz.prog 201 [.ints .u64 (natL u), .int .u64 (k : Int), .int .u64 (c : Int)] (.tup [.ints .u64 (natL (u * k + c)), .int .i64 0]) :=
  mul_add_list _ (natL_limbs u) (natL_small hu) (size_natL u) _ _ ⟨by omega, by simp only [B64]; omega⟩ ⟨by omega, by simp only [B64]; omega⟩ _ (by rw [val_natL]; simp) h
structure DivS (a o : List Int) (d : Int) (i : Nat) (r : Int) : Prop where
  len : o.length = a.length
  lim : Limbs o
  car : 0 ≤ r ∧ r < d
  zero : ∀ j, j < i → o.getD j 0 = 0
  eq : vt a a.length = vt a i + vt o a.length * d + B64 ^ i * r
theorem DivS.step {a o : List Int} {d r s : Int} {i : Nat} (h : DivS a o d (i + 1) r) (ha : Limbs a) (hd : 0 < d ∧ d < B64) (hi : i < a.length) (hs : s = r * B64 + a.getD i 0) : DivS a (o.set i (s / d)) d i (s % d) := by
  have hlt : i < o.length := by rw [h.len]; exact hi
  have hx := getD_limb ha i
  have hc := h.car
  have hq : 0 ≤ s / d ∧ s / d < B64 := by
    simp only [B64] at *
    refine ⟨Int.ediv_nonneg (by omega) (by omega), ?_⟩
    rw [Int.ediv_lt_iff_lt_mul hd.1]
    have := Int.mul_le_mul_of_nonneg_right (show r + 1 ≤ d by omega) (show (0 : Int) ≤ 18446744073709551616 by decide)
    omega
  refine ⟨by rw [List.length_set, h.len], limbs_set h.lim _ hq, ⟨Int.emod_nonneg _ (by omega), Int.emod_lt_of_pos _ hd.1⟩, fun j hj => ?_, ?_⟩
  · rw [getD_set _ _ _ _ hlt, if_neg (by omega)]; exact h.zero j (by omega)
  · have he := h.eq
    rw [vt_set_add o i (s / d) hlt a.length hi, h.zero i (by omega)]
    have hsum : d * (s / d) + s % d = s := Int.mul_ediv_add_emod s d
    simp only [vt] at he
    rw [Int.pow_succ] at he
    rw [he]
    rw [hs] at hsum ⊢
    generalize B64 ^ i = p at *
    generalize (r * B64 + a.getD i 0) / d = q at *
    generalize (r * B64 + a.getD i 0) % d = t at *
    generalize B64 = bb at *
    grind
abbrev dsF (a : List Int) (d : Int) (i : Nat) (r : Int) : PV.Frame := [(9, .int .i64 ((i : Int) - 1)), (8, .int .u64 r), (7, .sl 0 0 a.length true), (0, .ints .u64 a), (1, .int .u64 d)]
theorem div_small_list (a : List Int) (ha : Limbs a) (hla : a.length ≤ 4096) (hsa : size a = a.length) (d : Int) (hd : 0 < d ∧ d < B64) (q r : Nat) (hq : val a / d = q) (hr : val a % d = r) (hm : q < NMax) :
    Meets Tryz.prog 186 [.ints .u64 a, .int .u64 d] (.tup [.ints .u64 (natL q), .int .u64 (r : Int), .int .i64 0]) := by
  have s1 := size_as hla hsa
  have b1 := big_as hla hsa
  have hcut : ∀ o, Limbs o → o.length ≤ 100000 → val o = q → Meets Tryz.prog 79 [.ints .u64 o] (.tup [.ints .u64 (natL q), .int .i64 0]) := fun o h1 h2 h3 => cut_as h1 h2 h3 hm
  have w1 : IntKind.wrap .i64 ((a.length : Int) - 1) = (a.length : Int) - 1 := wrap_i64 (by omega)
  have htk : a.take a.length = a := List.take_of_length_le (Nat.le_refl _)
  have hd0 : decide (d = 0) = false := decide_eq_false (by omega)
  generalize natL q = res at *
  clear hm hsa
  refine meets_by ttOk Tryz.func186 Tryz.ntmps186 Tryz.results186 (by kernel_rfl) (c := _) rfl rfl rfl fun E => ?_
  simp only [argsFrame]
  repeat' first
    | (simp only [w1, htk, hd0, Int.toNat_natCast])
    | (with_reducible first | refine PW.seq ?_ | refine PW.block ?_ | refine PW.fork ?_ | refine PW.skip ?_ | refine PW.exit ?_ | refine PW.ret ?_ | refine PW.scope ?_ | refine PW.label ?_ | refine PW.goto ?_)
    | (with_reducible refine PW.region ttOk ?_ ?_
       · rfl)
    | (with_reducible refine PW.regionD ttOk mixed ?_ ?_ ?_
       · rfl
       · rfl) | (with_reducible refine ifW_dec (fun g => ?_) (fun g => ?_) <;> first | (exfalso; omega) | (simp -dsimp only [g, wkI])) | (with_reducible refine condE_dec (fun g => ?_) (fun g => ?_) <;> try (exfalso; omega)) | (with_reducible refine condE_not (fun g => ?_) (fun g => ?_) <;> try (exfalso; omega)) | (simp -dsimp only [↓wkA, ↓wkE, ↓wkJ, wkB, ↓tt, Nat.reduceBEq, Nat.reduceEqDiff, ↓reduceIte, Nat.reduceLT, Array.toList, Nat.reduceAdd, Nat.reduceMul, Int.reduceToNat, Int.reducePow, UInt8.reduceToNat]) | (refine call_by (b1) (views_data rfl) ⟨trivial, trivial⟩ rfl ?_) | (refine call_by (s1) (views_data rfl) ⟨trivial, trivial⟩ rfl ?_) | (simp -dsimp (disch := first | assumption | omega) only [dec_t, dec_f])
    | (refine And.intro ?_ ?_
       · first | omega | decide | (simp (disch := omega) only [wkW, Int.reduceToNat, Int.reducePow] <;> omega) | (simp <;> omega)) | (simp (disch := omega) only [wkW, Int.reduceToNat, Int.reducePow]) | fail
  refine PW.loopA (fun i F H => ∃ o r, i ≤ a.length ∧ DivS a o d i r ∧ F = dsF a d i r ∧ H = ⟨1, [(0, .ints .u64 o)], [], []⟩) a.length (dsF a d a.length 0) ⟨1, [(0, .ints .u64 (List.replicate a.length 0))], [], []⟩ (Sub.norm ⟨rfl, rfl, rfl, rfl, rfl, trivial⟩ ⟨rfl, trivial⟩ (by simp) rfl rfl rfl rfl) ⟨_, 0, Nat.le_refl _, ⟨by simp, limbs_zeros _, ⟨by omega, hd.1⟩, fun j hj => getD_zeros _ _, by rw [vt_zeros]; simp⟩, rfl, rfl⟩ ?_
  rintro i F H ⟨o, t, hi, hS, rfl, rfl⟩
  have hol := hS.len
  cases i with
  | zero =>
    have he := hS.eq
    have hc := hS.car
    simp only [vt, Int.pow_zero, Int.zero_add, Int.one_mul] at he
    have hvo : val o = vt o a.length := by unfold val; rw [hol]
    have e1 : val o = q := by
      rw [← hq, hvo]
      show _ = vt a a.length / d
      rw [he, Int.add_comm, Int.add_mul_ediv_right _ _ (by omega), Int.ediv_eq_zero_of_lt hc.1 hc.2, Int.zero_add]
    have e2 : t = r := by
      rw [← hr]
      show _ = vt a a.length % d
      rw [he, Int.add_comm, Int.add_mul_emod_self_right, Int.emod_eq_of_lt hc.1 hc.2]
    have hct := hcut o hS.lim (by omega) e1
    subst e2
    repeat' first
      | (with_reducible first | refine PW.seq ?_ | refine PW.block ?_ | refine PW.fork ?_ | refine PW.skip ?_ | refine PW.exit ?_ | refine PW.ret ?_ | refine PW.scope ?_ | refine PW.label ?_ | refine PW.goto ?_)
      | (with_reducible refine PW.region ttOk ?_ ?_
         · rfl)
      | (with_reducible refine PW.regionD ttOk mixed ?_ ?_ ?_
         · rfl
         · rfl) | (with_reducible refine ifW_dec (fun g => ?_) (fun g => ?_) <;> first | (exfalso; omega) | (simp -dsimp only [g, wkI])) | (with_reducible refine condE_dec (fun g => ?_) (fun g => ?_) <;> try (exfalso; omega)) | (with_reducible refine condE_not (fun g => ?_) (fun g => ?_) <;> try (exfalso; omega)) | (simp -dsimp only [↓wkA, ↓wkE, ↓wkJ, wkB, ↓tt, Nat.reduceBEq, Nat.reduceEqDiff, ↓reduceIte, Nat.reduceLT, Array.toList, Nat.reduceAdd, Nat.reduceMul, Int.reduceToNat, Int.reducePow, UInt8.reduceToNat]) | (refine call_drop (args' := [.ints .u64 o]) (by simp -dsimp only [↓wkA, ↓wkE, ↓wkJ, wkB, ↓tt, Nat.reduceBEq, Nat.reduceEqDiff, ↓reduceIte, Nat.reduceLT, Array.toList, Nat.reduceAdd, Nat.reduceMul, Int.reduceToNat, Int.reducePow, UInt8.reduceToNat] <;> rw [List.take_of_length_le (by omega)]) hct (by simp -dsimp only [okViews, ↓wkA, ↓wkE, ↓wkJ, wkB, ↓tt, Nat.reduceBEq, Nat.reduceEqDiff, ↓reduceIte, Nat.reduceLT, Array.toList, Nat.reduceAdd, Nat.reduceMul, Int.reduceToNat, Int.reducePow, UInt8.reduceToNat] <;> omega) rfl ?_) | (simp -dsimp (disch := first | assumption | omega) only [dec_t, dec_f])
      | (refine And.intro ?_ ?_
         · first | omega | decide | (simp (disch := omega) only [wkW, Int.reduceToNat, Int.reducePow] <;> omega) | (simp <;> omega)) | (simp (disch := omega) only [wkW, Int.reduceToNat, Int.reducePow]) | fail
  | succ i =>
    have hx := getD_limb ha i
    have hc := hS.car
    have hstep := hS.step ha hd (by omega) rfl
    have h64 := div64 t (a.getD i 0) d hd hc hx
    have e0 : (((i + 1 : Nat) : Int) - 1) = (i : Int) := by omega
    have w2 : IntKind.wrap .i64 ((i : Int) - 1) = (i : Int) - 1 := wrap_i64 (by omega)
    repeat' first
      | (simp only [e0, w2, Int.toNat_natCast])
      | (with_reducible first | refine PW.seq ?_ | refine PW.block ?_ | refine PW.fork ?_ | refine PW.skip ?_ | refine PW.exit ?_ | refine PW.ret ?_ | refine PW.scope ?_ | refine PW.label ?_ | refine PW.goto ?_)
      | (with_reducible refine PW.region ttOk ?_ ?_
         · rfl)
      | (with_reducible refine PW.regionD ttOk mixed ?_ ?_ ?_
         · rfl
         · rfl) | (with_reducible refine ifW_dec (fun g => ?_) (fun g => ?_) <;> first | (exfalso; omega) | (simp -dsimp only [g, wkI])) | (with_reducible refine condE_dec (fun g => ?_) (fun g => ?_) <;> try (exfalso; omega)) | (with_reducible refine condE_not (fun g => ?_) (fun g => ?_) <;> try (exfalso; omega)) | (simp -dsimp only [↓wkA, ↓wkE, ↓wkJ, wkB, ↓tt, Nat.reduceBEq, Nat.reduceEqDiff, ↓reduceIte, Nat.reduceLT, Array.toList, Nat.reduceAdd, Nat.reduceMul, Int.reduceToNat, Int.reducePow, UInt8.reduceToNat]) | (refine call_by (h64) (views_data rfl) ⟨trivial, trivial, trivial, trivial⟩ rfl ?_) | (simp -dsimp (disch := first | assumption | omega) only [dec_t, dec_f])
      | (refine And.intro ?_ ?_
         · first | omega | decide | (simp (disch := omega) only [wkW, Int.reduceToNat, Int.reducePow] <;> omega) | (simp <;> omega)) | (simp (disch := omega) only [wkW, Int.reduceToNat, Int.reducePow]) | fail
    exact Again.mk i (dsF a d i _) ⟨1, [(0, .ints .u64 _)], [], []⟩ (by omega) (Sub.norm ⟨rfl, rfl, rfl, rfl, rfl, trivial⟩ ⟨rfl, trivial⟩ (Nat.le_refl _) rfl rfl rfl rfl) ⟨_, _, by omega, hstep, rfl, rfl⟩
theorem div_small_nat {u d : Nat} (hu : u < NMax) (hd : 0 < d ∧ d < 18446744073709551616) : Meets Tryz.prog 186 [.ints .u64 (natL u), .int .u64 (d : Int)] (.tup [.ints .u64 (natL (u / d)), .int .u64 ((u % d : Nat) : Int), .int .i64 0]) :=
  div_small_list _ (natL_limbs u) (natL_small hu) (size_natL u) _ ⟨by omega, by simp only [B64]; omega⟩ _ _ (by rw [val_natL]; rfl) (by rw [val_natL]; rfl) (Nat.lt_of_le_of_lt (Nat.div_le_self _ _) hu)
structure RaiS (a o : List Int) (s n i : Nat) : Prop where
  len : o.length = n
  lim : Limbs o
  eq : i < n → vt o (i + 1) = 2 ^ s * vt a i ∧ o.getD i 0 < 2 ^ s
  fin : i = n → vt o n = 2 ^ s * vt a n
  rest : ∀ k, i < k → o.getD k 0 = 0
theorem RaiS.step {a o : List Int} {s n i : Nat} (h : RaiS a o s n i) (ha : Limbs a) (hs : s < 64) (hi : i < a.length) (hn : i < n) {x : Int} (hx : a.getD i 0 = x) (hfit : i + 1 = n → x * 2 ^ s / B64 = 0) :
    RaiS a (if i + 1 < n then (o.set i (o.getD i 0 + x * 2 ^ s % B64)).set (i + 1) (x * 2 ^ s / B64) else o.set i (o.getD i 0 + x * 2 ^ s % B64)) s n (i + 1) := by
  have hxl := getD_limb ha i
  rw [hx] at hxl
  obtain ⟨p1, p2, p3, p4⟩ := shl_parts s hs hxl
  obtain ⟨e1, e2⟩ := h.eq hn
  have hol := h.len
  have hlo := getD_limb h.lim i
  have h0 : 0 ≤ x * 2 ^ s % B64 := Int.emod_nonneg _ (by decide)
  have hsum : B64 * (x * 2 ^ s / B64) + x * 2 ^ s % B64 = x * 2 ^ s := Int.mul_ediv_add_emod _ _
  have hP : (2 : Int) ^ s ≤ 2 ^ 63 := by exact_mod_cast Nat.pow_le_pow_right (by decide) (show s ≤ 63 by omega)
  have hP2 : (2 : Int) ^ 63 = 9223372036854775808 := by decide
  have hnew : 0 ≤ o.getD i 0 + x * 2 ^ s % B64 ∧ o.getD i 0 + x * 2 ^ s % B64 < B64 := by simp only [B64] at *; omega
  have hhi : 0 ≤ x * 2 ^ s / B64 ∧ x * 2 ^ s / B64 < B64 := by simp only [B64] at *; omega
  have hvt : vt (o.set i (o.getD i 0 + x * 2 ^ s % B64)) (i + 1) + B64 ^ (i + 1) * (x * 2 ^ s / B64) = 2 ^ s * vt a (i + 1) := by
    simp only [vt] at e1 ⊢
    rw [vt_set_ge _ _ _ _ (by omega) (Nat.le_refl _), getD_set _ _ _ _ (by omega), if_pos rfl, hx, Int.pow_succ]
    generalize B64 ^ i = p at *
    generalize x * 2 ^ s / B64 = q at *
    generalize x * 2 ^ s % B64 = r at *
    generalize B64 = bb at *
    grind
  by_cases hc : i + 1 < n
  · rw [if_pos hc]
    refine ⟨by rw [List.length_set, List.length_set, hol], limbs_set (limbs_set h.lim _ hnew) _ hhi, fun _ => ⟨?_, ?_⟩, fun e => by omega, fun k hk => ?_⟩
    · rw [← hvt]
      simp only [vt]
      rw [vt_set_ge _ _ _ _ (by rw [List.length_set]; omega) (by omega), vt_set_ge _ _ _ _ (by omega) (Nat.le_refl _), getD_set _ _ _ _ (by rw [List.length_set]; omega), if_neg (by omega), getD_set _ _ _ _ (by omega), if_pos rfl, getD_set _ _ _ _ (by rw [List.length_set]; omega), if_pos rfl]
    · rw [getD_set _ _ _ _ (by rw [List.length_set]; omega), if_pos rfl]; exact p1
    · rw [getD_set _ _ _ _ (by rw [List.length_set]; omega), if_neg (by omega), getD_set _ _ _ _ (by omega), if_neg (by omega)]; exact h.rest k (by omega)
  · rw [if_neg hc]
    refine ⟨by rw [List.length_set, hol], limbs_set h.lim _ hnew, fun e => absurd e hc, fun e => ?_, fun k hk => ?_⟩
    · rw [hfit e, Int.mul_zero, Int.add_zero] at hvt
      rw [← e]; exact hvt
    · rw [getD_set _ _ _ _ (by omega), if_neg (by omega)]; exact h.rest k (by omega)
abbrev raF (a : List Int) (s n r : Nat) (i : Nat) : PV.Frame := [(14, .int .i64 (i : Int)), (13, .int .i64 a.length), (12, .ints .u64 a), (7, .sl r 0 n true), (1, .int .i64 (s : Int)), (2, .int .i64 (n : Int))]
theorem raised_h (a : List Int) (ha : Limbs a) (s n : Nat) (hs : s < 64) (hn : n ≤ 5000) (han : a.length ≤ n) (v : Nat) (hv : val a * 2 ^ s = v) (hvn : v < 18446744073709551616 ^ n) (nx : Nat) (rows : List (Nat × PV.Row)) (gg : List PV.Frame) (ty : List (Nat × TypeId)) :
    HMeets Tryz.prog 204 [.ints .u64 a, .int .i64 (s : Int), .int .i64 (n : Int)] ⟨nx, rows, gg, ty⟩ fun res H' => ∃ o, o.length = n ∧ Limbs o ∧ val o = v ∧ res = .sl nx 0 n true ∧ H' = ⟨nx + 1, setRow rows nx (.ints .u64 o), gg, (nx, 27) :: ty⟩ := by
  refine hmeets_by ttOk Tryz.func204 Tryz.ntmps204 Tryz.results204 (by kernel_rfl) (c := _) rfl rfl fun E => ?_
  simp only [argsFrame]
  repeat' first
    | (simp only [Int.toNat_natCast, getRow_setRow_self, Go.PV.setRow_setRow])
    | (with_reducible first | refine PW.seq ?_ | refine PW.block ?_ | refine PW.fork ?_ | refine PW.skip ?_ | refine PW.exit ?_ | refine PW.ret ?_ | refine PW.scope ?_ | refine PW.label ?_ | refine PW.goto ?_)
    | (with_reducible refine PW.region ttOk ?_ ?_
       · rfl)
    | (with_reducible refine PW.regionD ttOk mixed ?_ ?_ ?_
       · rfl
       · rfl) | (with_reducible refine ifW_dec (fun g => ?_) (fun g => ?_) <;> first | (exfalso; omega) | (simp -dsimp only [g, wkI])) | (with_reducible refine condE_dec (fun g => ?_) (fun g => ?_) <;> try (exfalso; omega)) | (with_reducible refine condE_not (fun g => ?_) (fun g => ?_) <;> try (exfalso; omega)) | (simp -dsimp only [↓wkA, ↓wkE, ↓wkJ, wkB, ↓tt, Nat.reduceBEq, Nat.reduceEqDiff, ↓reduceIte, Nat.reduceLT, Array.toList, Nat.reduceAdd, Nat.reduceMul, Int.reduceToNat, Int.reducePow, UInt8.reduceToNat]) | (simp -dsimp (disch := first | assumption | omega) only [dec_t, dec_f])
    | (refine And.intro ?_ ?_
       · first | omega | decide | (simp (disch := omega) only [wkW, Int.reduceToNat, Int.reducePow] <;> omega) | (simp <;> omega)) | (simp (disch := omega) only [wkW, Int.reduceToNat, Int.reducePow]) | fail
  refine PW.loopA (fun m F H => ∃ i o, i + m = a.length ∧ RaiS a o s n i ∧ F = raF a s n nx i ∧ H = ⟨nx + 1, setRow rows nx (.ints .u64 o), gg, (nx, 27) :: ty⟩) a.length (raF a s n nx 0) ⟨nx + 1, setRow rows nx (.ints .u64 (List.replicate n 0)), gg, (nx, 27) :: ty⟩ (Sub.less ⟨rfl, rfl, rfl, rfl, rfl, rfl, trivial⟩ (fun _ _ h => h) rfl rfl) ⟨0, _, by omega, ⟨by simp, limbs_zeros _, fun _ => ⟨by rw [vt_zeros]; simp [vt], by rw [getD_zeros]; exact Int.pow_pos (by decide)⟩, fun e => by rw [vt_zeros, ← e]; simp [vt], fun k _ => getD_zeros _ _⟩, rfl, rfl⟩ ?_
  rintro m F H ⟨i, o, hi, hS, rfl, rfl⟩
  have hol := hS.len
  cases m with
  | zero =>
    obtain rfl : i = a.length := by omega
    have hval : val o = v := by
      rw [← hv]
      have hup := (vt_bound hS.lim n).2
      by_cases hc : a.length = n
      · have := hS.fin hc
        unfold val
        rw [hol, this, hc, Int.mul_comm]
      · obtain ⟨e1, _⟩ := hS.eq (by omega)
        unfold val
        rw [hol, Int.mul_comm, ← e1]
        have : ∀ k, a.length + 1 ≤ k → vt o k = vt o (a.length + 1) := fun k hk => by
          induction k with
          | zero => omega
          | succ k ih =>
            by_cases h : k = a.length
            · rw [h]
            · simp only [vt]
              rw [ih (by omega), hS.rest k (by omega)]
              simp [vt]
        exact this n (by omega)
    clear hvn
    repeat' first
      | (simp only [Int.toNat_natCast, getRow_setRow_self, Go.PV.setRow_setRow])
      | (with_reducible first | refine PW.seq ?_ | refine PW.block ?_ | refine PW.fork ?_ | refine PW.skip ?_ | refine PW.exit ?_ | refine PW.ret ?_ | refine PW.scope ?_ | refine PW.label ?_ | refine PW.goto ?_)
      | (with_reducible refine PW.region ttOk ?_ ?_
         · rfl)
      | (with_reducible refine PW.regionD ttOk mixed ?_ ?_ ?_
         · rfl
         · rfl) | (with_reducible refine ifW_dec (fun g => ?_) (fun g => ?_) <;> first | (exfalso; omega) | (simp -dsimp only [g, wkI])) | (with_reducible refine condE_dec (fun g => ?_) (fun g => ?_) <;> try (exfalso; omega)) | (with_reducible refine condE_not (fun g => ?_) (fun g => ?_) <;> try (exfalso; omega)) | (simp -dsimp only [↓wkA, ↓wkE, ↓wkJ, wkB, ↓tt, Nat.reduceBEq, Nat.reduceEqDiff, ↓reduceIte, Nat.reduceLT, Array.toList, Nat.reduceAdd, Nat.reduceMul, Int.reduceToNat, Int.reducePow, UInt8.reduceToNat]) | (simp -dsimp (disch := first | assumption | omega) only [dec_t, dec_f])
      | (refine And.intro ?_ ?_
         · first | omega | decide | (simp (disch := omega) only [wkW, Int.reduceToNat, Int.reducePow] <;> omega) | (simp <;> omega)) | (simp (disch := omega) only [wkW, Int.reduceToNat, Int.reducePow]) | fail
    exact ⟨o, hol, hS.lim, hval, rfl⟩
  | succ m =>
    have hx := getD_limb ha i
    have hlo := getD_limb hS.lim i
    obtain ⟨p1, p2, p3, p4⟩ := shl_parts s hs hx
    have hfit : i + 1 = n → a.getD i 0 * 2 ^ s / B64 = 0 := fun e => by
      -- the highest limb's high part counts B^n
      obtain ⟨e1, _⟩ := hS.eq (by omega)
      have hb := (vt_bound ha i).1
      have hval : val a = vt a i + B64 ^ i * a.getD i 0 := by
        unfold val
        rw [show a.length = i + 1 by omega]
        rfl
      have h1 : val a * 2 ^ s < B64 ^ n := by
        rw [hv]
        have e : B64 ^ n = ((18446744073709551616 ^ n : Nat) : Int) := by rw [Int.natCast_pow]; rfl
        rw [e]; exact Int.ofNat_lt.2 hvn
      have h2 : B64 ^ i * (a.getD i 0 * 2 ^ s) ≤ val a * 2 ^ s := by
        rw [hval, Int.add_mul, ← Int.mul_assoc]
        have := Int.mul_nonneg hb (show (0 : Int) ≤ 2 ^ s from Int.le_of_lt (Int.pow_pos (by decide)))
        omega
      have h3 : a.getD i 0 * 2 ^ s < B64 := by
        have : B64 ^ i * (a.getD i 0 * 2 ^ s) < B64 ^ i * B64 := by rw [← Int.pow_succ, show i.succ = n from e]; omega
        exact Int.lt_of_mul_lt_mul_left this (Int.le_of_lt (pow_pos64 i))
      exact Int.ediv_eq_zero_of_lt (Int.mul_nonneg hx.1 (Int.le_of_lt (Int.pow_pos (by decide)))) h3
    have hstep := hS.step ha hs (by omega) (by omega) rfl hfit
    obtain ⟨_, e2⟩ := hS.eq (by omega)
    generalize hax : a.getD i 0 = x at *
    have hQ : (18446744073709551616 : Int) = 2 ^ (64 - s) * 2 ^ s := by rw [← Int.pow_add, show 64 - s + s = 64 by omega]; rfl
    have hshl : IntKind.wrap .u64 (x * 2 ^ min s 64) = x * 2 ^ s % B64 := by rw [wrap_u64', Nat.min_eq_left (by omega)]
    have hor : ibits .or .u64 (o.getD i 0) (x * 2 ^ s % B64) = o.getD i 0 + x * 2 ^ s % B64 := by
      have h0 : 0 ≤ x * 2 ^ s % B64 := Int.emod_nonneg _ (by decide)
      refine or_apart s ⟨hlo.1, e2⟩ ⟨h0, ?_⟩ p2 ?_
      · simp only [B64] at *; omega
      · simp only [B64] at *; omega
    have hshr : s ≠ 0 → x.fdiv (2 ^ min (64 - s) 64) = x * 2 ^ s / B64 := fun h => by
      rw [Nat.min_eq_left (by omega), Int.fdiv_eq_ediv_of_nonneg _ (Int.le_of_lt (Int.pow_pos (by decide)))]
      simp only [B64]
      rw [hQ, Int.mul_ediv_mul_of_pos_left _ _ (Int.pow_pos (by decide))]
    have hs0 : s = 0 → x * 2 ^ s / B64 = 0 := fun h => by
      subst h
      rw [Int.pow_zero, Int.mul_one]
      exact Int.ediv_eq_zero_of_lt hx.1 hx.2
    have hset0 : s = 0 → i + 1 < n → (o.set i (o.getD i 0 + x * 2 ^ s % B64)).set (i + 1) (x * 2 ^ s / B64) = o.set i (o.getD i 0 + x * 2 ^ s % B64) := fun h h2 => by
      rw [hs0 h]
      refine list_ext (by simp) fun j hj => ?_
      rw [List.length_set, List.length_set] at hj
      rw [getD_set _ _ _ _ (by rw [List.length_set]; omega)]
      split
      · rename_i e
        rw [e, getD_set _ _ _ _ (by omega), if_neg (by omega)]
        exact (hS.rest _ (by omega)).symm
      · rfl
    have w1 : IntKind.wrap .u64 (s : Int) = (s : Int) := wrap_u64 (by omega)
    have w2 : IntKind.wrap .i64 ((i : Int) + 1) = ((i + 1 : Nat) : Int) := wrap_i64 (by omega)
    have w3 : IntKind.wrap .i64 (64 - (s : Int)) = ((64 - s : Nat) : Int) := by rw [wrap_i64 (by omega)]; omega
    have w4 : IntKind.wrap .u64 ((64 - s : Nat) : Int) = ((64 - s : Nat) : Int) := wrap_u64 (by omega)
    clear hQ p1 p2 p3 p4 hfit e2 hvn hx hlo
    have again : ∀ o', o' = (if i + 1 < n then (o.set i (o.getD i 0 + x * 2 ^ s % B64)).set (i + 1) (x * 2 ^ s / B64) else o.set i (o.getD i 0 + x * 2 ^ s % B64)) → RaiS a o' s n (i + 1) := fun o' h => by rw [h]; exact hstep
    clear hstep
    generalize x * 2 ^ s % B64 = lo at *
    generalize x * 2 ^ s / B64 = hi' at *
    by_cases hc : i + 1 < n
    · rw [if_pos hc] at again
      by_cases h0 : s = 0
      · have hset := hset0 h0 hc
        have d0 : decide (0 < (s : Int)) = false := decide_eq_false (by omega)
        repeat' first
          | (simp only [hax, Int.toNat_natCast, getRow_setRow_self, Go.PV.setRow_setRow, w1, w2, w3, w4, hshl, hor, d0])
          | (with_reducible first | refine PW.seq ?_ | refine PW.block ?_ | refine PW.fork ?_ | refine PW.skip ?_ | refine PW.exit ?_ | refine PW.ret ?_ | refine PW.scope ?_ | refine PW.label ?_ | refine PW.goto ?_)
          | (with_reducible refine PW.region ttOk ?_ ?_
             · rfl)
          | (with_reducible refine PW.regionD ttOk mixed ?_ ?_ ?_
             · rfl
             · rfl) | (with_reducible refine ifW_dec (fun g => ?_) (fun g => ?_) <;> first | (exfalso; omega) | (simp -dsimp only [g, wkI])) | (with_reducible refine condE_dec (fun g => ?_) (fun g => ?_) <;> try (exfalso; omega)) | (with_reducible refine condE_not (fun g => ?_) (fun g => ?_) <;> try (exfalso; omega)) | (simp -dsimp only [↓wkA, ↓wkE, ↓wkJ, wkB, ↓tt, Nat.reduceBEq, Nat.reduceEqDiff, ↓reduceIte, Nat.reduceLT, Array.toList, Nat.reduceAdd, Nat.reduceMul, Int.reduceToNat, Int.reducePow, UInt8.reduceToNat]) | (simp -dsimp (disch := first | assumption | omega) only [dec_t, dec_f])
          | (refine And.intro ?_ ?_
             · first | omega | decide | (simp (disch := omega) only [wkW, Int.reduceToNat, Int.reducePow] <;> omega) | (simp <;> omega)) | (simp (disch := omega) only [wkW, Int.reduceToNat, Int.reducePow]) | fail
        exact Again.mk m (raF a s n nx (i + 1)) ⟨nx + 1, setRow rows nx (.ints .u64 (o.set i (o.getD i 0 + lo))), gg, (nx, 27) :: ty⟩ (by omega) (Sub.less ⟨rfl, rfl, rfl, rfl, rfl, rfl, trivial⟩ (fun _ _ h => h) rfl rfl) ⟨i + 1, _, by omega, again _ hset.symm, rfl, rfl⟩
      · have hsh := hshr h0
        have d0 : decide (0 < (s : Int)) = true := decide_eq_true (by omega)
        repeat' first
          | (simp only [hax, Int.toNat_natCast, getRow_setRow_self, Go.PV.setRow_setRow, w1, w2, w3, w4, hshl, hor, d0, hsh])
          | (with_reducible first | refine PW.seq ?_ | refine PW.block ?_ | refine PW.fork ?_ | refine PW.skip ?_ | refine PW.exit ?_ | refine PW.ret ?_ | refine PW.scope ?_ | refine PW.label ?_ | refine PW.goto ?_)
          | (with_reducible refine PW.region ttOk ?_ ?_
             · rfl)
          | (with_reducible refine PW.regionD ttOk mixed ?_ ?_ ?_
             · rfl
             · rfl) | (with_reducible refine ifW_dec (fun g => ?_) (fun g => ?_) <;> first | (exfalso; omega) | (simp -dsimp only [g, wkI])) | (with_reducible refine condE_dec (fun g => ?_) (fun g => ?_) <;> try (exfalso; omega)) | (with_reducible refine condE_not (fun g => ?_) (fun g => ?_) <;> try (exfalso; omega)) | (simp -dsimp only [↓wkA, ↓wkE, ↓wkJ, wkB, ↓tt, Nat.reduceBEq, Nat.reduceEqDiff, ↓reduceIte, Nat.reduceLT, Array.toList, Nat.reduceAdd, Nat.reduceMul, Int.reduceToNat, Int.reducePow, UInt8.reduceToNat]) | (simp -dsimp (disch := first | assumption | omega) only [dec_t, dec_f])
          | (refine And.intro ?_ ?_
             · first | omega | decide | (simp (disch := omega) only [wkW, Int.reduceToNat, Int.reducePow] <;> omega) | (simp <;> omega)) | (simp (disch := omega) only [wkW, Int.reduceToNat, Int.reducePow]) | fail
        exact Again.mk m (raF a s n nx (i + 1)) ⟨nx + 1, setRow rows nx (.ints .u64 ((o.set i (o.getD i 0 + lo)).set (i + 1) hi')), gg, (nx, 27) :: ty⟩ (by omega) (Sub.less ⟨rfl, rfl, rfl, rfl, rfl, rfl, trivial⟩ (fun _ _ h => h) rfl rfl) ⟨i + 1, _, by omega, again _ rfl, rfl, rfl⟩
    · rw [if_neg hc] at again
      repeat' first
        | (simp only [hax, Int.toNat_natCast, getRow_setRow_self, Go.PV.setRow_setRow, w1, w2, w3, w4, hshl, hor])
        | (with_reducible first | refine PW.seq ?_ | refine PW.block ?_ | refine PW.fork ?_ | refine PW.skip ?_ | refine PW.exit ?_ | refine PW.ret ?_ | refine PW.scope ?_ | refine PW.label ?_ | refine PW.goto ?_)
        | (with_reducible refine PW.region ttOk ?_ ?_
           · rfl)
        | (with_reducible refine PW.regionD ttOk mixed ?_ ?_ ?_
           · rfl
           · rfl) | (with_reducible refine ifW_dec (fun g => ?_) (fun g => ?_) <;> first | (exfalso; omega) | (simp -dsimp only [g, wkI])) | (with_reducible refine condE_dec (fun g => ?_) (fun g => ?_) <;> try (exfalso; omega)) | (with_reducible refine condE_not (fun g => ?_) (fun g => ?_) <;> try (exfalso; omega)) | (simp -dsimp only [↓wkA, ↓wkE, ↓wkJ, wkB, ↓tt, Nat.reduceBEq, Nat.reduceEqDiff, ↓reduceIte, Nat.reduceLT, Array.toList, Nat.reduceAdd, Nat.reduceMul, Int.reduceToNat, Int.reducePow, UInt8.reduceToNat]) | (simp -dsimp (disch := first | assumption | omega) only [dec_t, dec_f])
        | (refine And.intro ?_ ?_
           · first | omega | decide | (simp (disch := omega) only [wkW, Int.reduceToNat, Int.reducePow] <;> omega) | (simp <;> omega)) | (simp (disch := omega) only [wkW, Int.reduceToNat, Int.reducePow]) | fail
      exact Again.mk m (raF a s n nx (i + 1)) ⟨nx + 1, setRow rows nx (.ints .u64 (o.set i (o.getD i 0 + lo))), gg, (nx, 27) :: ty⟩ (by omega) (Sub.less ⟨rfl, rfl, rfl, rfl, rfl, rfl, trivial⟩ (fun _ _ h => h) rfl rfl) ⟨i + 1, _, by omega, again _ rfl, rfl, rfl⟩
theorem vt_split (l : List Int) (j : Nat) : ∀ k, vt l (j + k) = vt l j + B64 ^ j * vt (l.drop j) k
  | 0 => by simp [vt]
  | k + 1 => by
    rw [← Nat.add_assoc]
    simp only [vt]
    rw [vt_split l j k, getD_drop', Int.pow_add]
    generalize vt (l.drop j) k = y
    generalize B64 ^ j = p
    generalize B64 ^ k = q
    generalize l.getD (j + k) 0 = z
    grind
theorem limbs_drop {l : List Int} (h : Limbs l) (n : Nat) : Limbs (l.drop n) := fun x hx => h x (List.mem_of_mem_drop hx)
theorem vt_low {l : List Int} (h : Limbs l) {n : Nat} (hn : 1 ≤ n) : ∃ lo : Int, 0 ≤ lo ∧ lo < B64 ^ (n - 1) ∧ vt l n = lo + B64 ^ (n - 1) * l.getD (n - 1) 0 := by
  obtain ⟨j, rfl⟩ : ∃ j, n = j + 1 := ⟨n - 1, by omega⟩
  rw [Nat.add_sub_cancel]
  obtain ⟨h1, h2⟩ := vt_bound h j
  exact ⟨vt l j, h1, h2, rfl⟩
def guessV (p v : List Int) (n : Nat) : Int := if v.getD (n - 1) 0 ≤ p.getD n 0 then 18446744073709551615 else (p.getD n 0 * B64 + p.getD (n - 1) 0) / v.getD (n - 1) 0
theorem quot_guess (p v : List Int) (n : Nat) (hp : Limbs p) (hv : Limbs v) (hpl : p.length = n + 1) (hvl : v.length = n) (hn : 1 ≤ n ∧ n ≤ 5000) (hv0 : 0 < v.getD (n - 1) 0) : Meets Tryz.prog 205 [.ints .u64 p, .ints .u64 v] (.int .u64 (guessV p v n)) := by
  have hx := getD_limb hp n
  have hy := getD_limb hp (n - 1)
  have hz := getD_limb hv (n - 1)
  have w1 : IntKind.wrap .i64 ((n : Int) - 1) = ((n - 1 : Nat) : Int) := by rw [wrap_i64 (by omega)]; omega
  unfold guessV
  by_cases hc : v.getD (n - 1) 0 ≤ p.getD n 0
  · rw [if_pos hc]
    have d1 : decide (v.getD (n - 1) 0 ≤ p.getD n 0) = true := decide_eq_true hc
    refine meets_by ttOk Tryz.func205 Tryz.ntmps205 Tryz.results205 (by kernel_rfl) (c := _) rfl rfl rfl fun E => ?_
    simp only [argsFrame]
    repeat' first
      | (simp only [hvl, w1, d1, Int.toNat_natCast])
      | (with_reducible first | refine PW.seq ?_ | refine PW.block ?_ | refine PW.fork ?_ | refine PW.skip ?_ | refine PW.exit ?_ | refine PW.ret ?_ | refine PW.scope ?_ | refine PW.label ?_ | refine PW.goto ?_)
      | (with_reducible refine PW.region ttOk ?_ ?_
         · rfl)
      | (with_reducible refine PW.regionD ttOk mixed ?_ ?_ ?_
         · rfl
         · rfl) | (with_reducible refine ifW_dec (fun g => ?_) (fun g => ?_) <;> first | (exfalso; omega) | (simp -dsimp only [g, wkI])) | (with_reducible refine condE_dec (fun g => ?_) (fun g => ?_) <;> try (exfalso; omega)) | (with_reducible refine condE_not (fun g => ?_) (fun g => ?_) <;> try (exfalso; omega)) | (simp -dsimp only [↓wkA, ↓wkE, ↓wkJ, wkB, ↓tt, Nat.reduceBEq, Nat.reduceEqDiff, ↓reduceIte, Nat.reduceLT, Array.toList, Nat.reduceAdd, Nat.reduceMul, Int.reduceToNat, Int.reducePow, UInt8.reduceToNat]) | (simp -dsimp (disch := first | assumption | omega) only [dec_t, dec_f])
      | (refine And.intro ?_ ?_
         · first | omega | decide | (simp (disch := omega) only [wkW, Int.reduceToNat, Int.reducePow] <;> omega) | (simp <;> omega)) | (simp (disch := omega) only [wkW, Int.reduceToNat, Int.reducePow]) | fail
  · rw [if_neg hc]
    have d1 : decide (v.getD (n - 1) 0 ≤ p.getD n 0) = false := decide_eq_false hc
    have h64 := div64 (p.getD n 0) (p.getD (n - 1) 0) (v.getD (n - 1) 0) ⟨hv0, hz.2⟩ ⟨hx.1, by omega⟩ hy
    refine meets_by ttOk Tryz.func205 Tryz.ntmps205 Tryz.results205 (by kernel_rfl) (c := _) rfl rfl rfl fun E => ?_
    simp only [argsFrame]
    repeat' first
      | (simp only [hvl, w1, d1, Int.toNat_natCast])
      | (with_reducible first | refine PW.seq ?_ | refine PW.block ?_ | refine PW.fork ?_ | refine PW.skip ?_ | refine PW.exit ?_ | refine PW.ret ?_ | refine PW.scope ?_ | refine PW.label ?_ | refine PW.goto ?_)
      | (with_reducible refine PW.region ttOk ?_ ?_
         · rfl)
      | (with_reducible refine PW.regionD ttOk mixed ?_ ?_ ?_
         · rfl
         · rfl) | (with_reducible refine ifW_dec (fun g => ?_) (fun g => ?_) <;> first | (exfalso; omega) | (simp -dsimp only [g, wkI])) | (with_reducible refine condE_dec (fun g => ?_) (fun g => ?_) <;> try (exfalso; omega)) | (with_reducible refine condE_not (fun g => ?_) (fun g => ?_) <;> try (exfalso; omega)) | (simp -dsimp only [↓wkA, ↓wkE, ↓wkJ, wkB, ↓tt, Nat.reduceBEq, Nat.reduceEqDiff, ↓reduceIte, Nat.reduceLT, Array.toList, Nat.reduceAdd, Nat.reduceMul, Int.reduceToNat, Int.reducePow, UInt8.reduceToNat]) | (refine callD_by (h64) (views_data rfl) ⟨trivial, trivial, trivial, trivial⟩ rfl ?_) | (simp -dsimp (disch := first | assumption | omega) only [dec_t, dec_f])
      | (refine And.intro ?_ ?_
         · first | omega | decide | (simp (disch := omega) only [wkW, Int.reduceToNat, Int.reducePow] <;> omega) | (simp <;> omega)) | (simp (disch := omega) only [wkW, Int.reduceToNat, Int.reducePow]) | fail
theorem guess_ge {p v : List Int} {n : Nat} (hp : Limbs p) (hv : Limbs v) (hn : 1 ≤ n) (hv0 : 0 < v.getD (n - 1) 0) {q : Int} (hq : q * vt v n ≤ vt p (n + 1)) (hlt : vt p (n + 1) < B64 * vt v n) : q ≤ guessV p v n ∧ 0 ≤ guessV p v n ∧ guessV p v n < B64 := by
  have hx := getD_limb hp n
  have hy := getD_limb hp (n - 1)
  have hz := getD_limb hv (n - 1)
  obtain ⟨lo, l1, l2, l3⟩ := vt_low hv hn
  have hvpos : 0 < vt v n := by
    rw [l3]
    have := Int.mul_pos (pow_pos64 (n - 1)) hv0
    omega
  unfold guessV
  split
  · refine ⟨?_, by decide, by decide⟩
    have h1 : q < B64 := by
      refine Int.lt_of_mul_lt_mul_right (a := vt v n) ?_ (Int.le_of_lt hvpos)
      omega
    simp only [B64] at h1; omega
  · rename_i hc
    have hq0 : 0 ≤ (p.getD n 0 * B64 + p.getD (n - 1) 0) / v.getD (n - 1) 0 := Int.ediv_nonneg (by simp only [B64] at *; omega) (by omega)
    refine ⟨?_, hq0, ?_⟩
    · rw [Int.le_ediv_iff_mul_le hv0]
      -- the two highest limbs
      have hp2 : ∃ lo : Int, 0 ≤ lo ∧ lo < B64 ^ (n - 1) ∧ vt p (n + 1) = lo + B64 ^ (n - 1) * (p.getD n 0 * B64 + p.getD (n - 1) 0) := by
        obtain ⟨lo, a1, a2, a3⟩ := vt_low hp hn
        refine ⟨lo, a1, a2, ?_⟩
        have e : B64 ^ n = B64 ^ (n - 1) * B64 := by rw [← Int.pow_succ, show (n - 1).succ = n by omega]
        simp only [vt]
        rw [a3, e]
        generalize B64 ^ (n - 1) = x
        generalize B64 = bb
        grind
      obtain ⟨lp, a1, a2, a3⟩ := hp2
      generalize p.getD n 0 * B64 + p.getD (n - 1) 0 = t at *
      generalize v.getD (n - 1) 0 = y at *
      have hpw := pow_pos64 (n - 1)
      generalize B64 ^ (n - 1) = w at *
      by_cases hq1 : q ≤ 0
      · have h1 : q * y ≤ 0 := Int.mul_nonpos_of_nonpos_of_nonneg hq1 (by omega)
        have h2 : 0 ≤ t := by
          refine Int.le_of_not_gt fun h => ?_
          have := Int.ediv_neg_of_neg_of_pos h hv0
          omega
        omega
      · have h1 : w * (q * y) ≤ q * vt v n := by
          rw [l3, Int.mul_add]
          have h2 : 0 ≤ q * lo := Int.mul_nonneg (by omega) l1
          have e : q * (w * y) = w * (q * y) := by rw [Int.mul_left_comm]
          omega
        have h2 : w * (q * y) < w * (t + 1) := by rw [Int.mul_add, Int.mul_one]; omega
        have := Int.lt_of_mul_lt_mul_left h2 (Int.le_of_lt hpw)
        omega
    · rw [Int.ediv_lt_iff_lt_mul hv0]
      have := Int.mul_le_mul_of_nonneg_right (show p.getD n 0 + 1 ≤ v.getD (n - 1) 0 by omega) (show (0 : Int) ≤ B64 by decide)
      simp only [B64] at *
      omega
structure PartS (l l' : List Int) (off i : Nat) : Prop where
  len : l'.length = l.length
  lim : Limbs l'
  out : ∀ k, k < off ∨ off + i ≤ k → l'.getD k 0 = l.getD k 0
theorem PartS.refl {l : List Int} (h : Limbs l) (off : Nat) : PartS l l off 0 := ⟨rfl, h, fun _ _ => rfl⟩
theorem PartS.set {l l' : List Int} {off i : Nat} (h : PartS l l' off i) (hi : off + i < l.length) {x : Int} (hx : 0 ≤ x ∧ x < B64) : PartS l (l'.set (off + i) x) off (i + 1) :=
  ⟨by rw [List.length_set, h.len], limbs_set h.lim _ hx, fun k hk => by
    rw [getD_set _ _ _ _ (by rw [h.len]; exact hi), if_neg (by omega)]
    exact h.out k (by omega)⟩
theorem drop_set {l : List Int} {off i : Nat} {x : Int} : (l.set (off + i) x).drop off = (l.drop off).set i x := by
  rw [List.drop_set, if_neg (by omega), Nat.add_sub_cancel_left]
theorem part_vt {l l' : List Int} {off i : Nat} (h : PartS l l' off i) (hi : off + i < l.length) (x : Int) : vt ((l'.set (off + i) x).drop off) (i + 1) = vt (l'.drop off) i + B64 ^ i * x := by
  have hl : i < (l'.drop off).length := by rw [List.length_drop, h.len]; omega
  rw [drop_set]
  simp only [vt]
  rw [vt_set_ge _ _ _ _ hl (Nat.le_refl _), getD_set _ _ _ _ hl, if_pos rfl]
abbrev toF (v : List Int) (d : Int) (r off n i : Nat) (c b : Int) : PV.Frame := [(16, .int .i64 (i : Int)), (15, .int .i64 v.length), (14, .ints .u64 v), (7, .int .u64 c), (8, .int .u64 b), (0, .sl r off (n + 1) true), (1, .ints .u64 v), (2, .int .u64 d)]
theorem take_off_h (l v : List Int) (hl : Limbs l) (hv : Limbs v) (d : Int) (hd : 0 ≤ d ∧ d < B64) (off n : Nat) (hvn : v.length = n) (hn : n ≤ 5000) (hll : off + n + 1 ≤ l.length) (hl2 : l.length ≤ 10000) (r nx : Nat) (rows : List (Nat × PV.Row)) (gg : List PV.Frame) (ty : List (Nat × TypeId)) (hr : getRow rows r = some (.ints .u64 l)) :
    HMeets Tryz.prog 206 [.sl r off (n + 1) true, .ints .u64 v, .int .u64 d] ⟨nx, rows, gg, ty⟩ fun res H' => ∃ l' b, PartS l l' off (n + 1) ∧ 0 ≤ b ∧ b ≤ 1 ∧ vt (l'.drop off) (n + 1) = vt (l.drop off) (n + 1) - d * vt v n + B64 ^ (n + 1) * b ∧ res = .bool (decide (b = 1)) ∧ H' = ⟨nx, setRow rows r (.ints .u64 l'), gg, ty⟩ := by
  have hr0 : setRow rows r (.ints .u64 l) = rows ∨ True := .inr trivial
  refine hmeets_by ttOk Tryz.func206 Tryz.ntmps206 Tryz.results206 (by kernel_rfl) (c := _) rfl rfl fun E => ?_
  simp only [argsFrame]
  repeat' first
    | (with_reducible first | refine PW.seq ?_ | refine PW.block ?_ | refine PW.fork ?_ | refine PW.skip ?_ | refine PW.exit ?_ | refine PW.ret ?_ | refine PW.scope ?_ | refine PW.label ?_ | refine PW.goto ?_)
    | (with_reducible refine PW.region ttOk ?_ ?_
       · rfl)
    | (with_reducible refine PW.regionD ttOk mixed ?_ ?_ ?_
       · rfl
       · rfl) | (with_reducible refine ifW_dec (fun g => ?_) (fun g => ?_) <;> first | (exfalso; omega) | (simp -dsimp only [g, wkI])) | (with_reducible refine condE_dec (fun g => ?_) (fun g => ?_) <;> try (exfalso; omega)) | (with_reducible refine condE_not (fun g => ?_) (fun g => ?_) <;> try (exfalso; omega)) | (simp -dsimp only [↓wkA, ↓wkE, ↓wkJ, wkB, ↓tt, Nat.reduceBEq, Nat.reduceEqDiff, ↓reduceIte, Nat.reduceLT, Array.toList, Nat.reduceAdd, Nat.reduceMul, Int.reduceToNat, Int.reducePow, UInt8.reduceToNat]) | (simp -dsimp (disch := first | assumption | omega) only [dec_t, dec_f])
    | (refine And.intro ?_ ?_
       · first | omega | decide | (simp (disch := omega) only [wkW, Int.reduceToNat, Int.reducePow] <;> omega) | (simp <;> omega)) | (simp (disch := omega) only [wkW, Int.reduceToNat, Int.reducePow]) | fail
  refine PW.loopA (fun m F H => ∃ i l' c b, i + m = n ∧ PartS l l' off i ∧ (0 ≤ c ∧ c < B64) ∧ (0 ≤ b ∧ b ≤ 1) ∧ vt (l'.drop off) i = vt (l.drop off) i - d * vt v i + B64 ^ i * (c + b) ∧ F = toF v d r off n i c b ∧ H = ⟨nx, setRow rows r (.ints .u64 l'), gg, ty⟩) n (toF v d r off n 0 0 0) ⟨nx, setRow rows r (.ints .u64 l), gg, ty⟩ (Sub.less ⟨rfl, rfl, rfl, rfl, rfl, rfl, rfl, rfl, trivial⟩ (fun k row h => by
    rw [getRow_setRow] at h
    split at h
    · rename_i e; subst e; rw [← h]; exact hr
    · exact h) rfl rfl) ⟨0, l, 0, 0, by omega, PartS.refl hl off, by decide, by decide, by simp [vt], rfl, rfl⟩ ?_
  rintro m F H ⟨i, l', c, b, hi, hS, hc, hb, he, rfl, rfl⟩
  have hll' := hS.len
  have hoi : off + i < l.length := by omega
  have hx := getD_limb hl (off + i)
  have hout := hS.out (off + i) (.inr (Nat.le_refl _))
  have hvi := getD_limb hv i
  cases m with
  | zero =>
    obtain rfl : i = n := by omega
    have h64 := sub64 (x := l.getD (off + i) 0) (y := c) (c := b) hx hc hb
    obtain ⟨s, hs⟩ : ∃ s, l.getD (off + i) 0 - c - b = s := ⟨_, rfl⟩
    rw [hs] at h64
    have hw : IntKind.wrap .i64 ((off + i : Nat) : Int) = ((off + i : Nat) : Int) := wrap_i64 (by omega)
    have hres : 0 ≤ -(s / 18446744073709551616) ∧ -(s / 18446744073709551616) ≤ 1 := by simp only [B64] at *; omega
    have hmod : 0 ≤ s % 18446744073709551616 ∧ s % 18446744073709551616 < B64 := ⟨Int.emod_nonneg _ (by decide), Int.emod_lt_of_pos _ (by decide)⟩
    have hfin : vt ((l'.set (off + i) (s % 18446744073709551616)).drop off) (i + 1) = vt (l.drop off) (i + 1) - d * vt v i + B64 ^ (i + 1) * (-(s / 18446744073709551616)) := by
      rw [part_vt hS hoi, he]
      have hsum : 18446744073709551616 * (s / 18446744073709551616) + s % 18446744073709551616 = s := Int.mul_ediv_add_emod s 18446744073709551616
      simp only [vt]
      rw [getD_drop', Int.pow_succ]
      rw [← hs] at hsum ⊢
      simp only [B64]
      generalize (18446744073709551616 : Int) ^ i = p at *
      generalize (l.getD (off + i) 0 - c - b) / 18446744073709551616 = q at *
      generalize (l.getD (off + i) 0 - c - b) % 18446744073709551616 = t at *
      grind
    have hset := hS.set hoi hmod
    clear he hmod
    generalize s % 18446744073709551616 = t at *
    generalize -(s / 18446744073709551616) = q at *
    repeat' first
      | (simp only [hvn, hout, Int.toNat_natCast, getRow_setRow_self, Go.PV.setRow_setRow])
      | (with_reducible first | refine PW.seq ?_ | refine PW.block ?_ | refine PW.fork ?_ | refine PW.skip ?_ | refine PW.exit ?_ | refine PW.ret ?_ | refine PW.scope ?_ | refine PW.label ?_ | refine PW.goto ?_)
      | (with_reducible refine PW.region ttOk ?_ ?_
         · rfl)
      | (with_reducible refine PW.regionD ttOk mixed ?_ ?_ ?_
         · rfl
         · rfl) | (with_reducible refine ifW_dec (fun g => ?_) (fun g => ?_) <;> first | (exfalso; omega) | (simp -dsimp only [g, wkI])) | (with_reducible refine condE_dec (fun g => ?_) (fun g => ?_) <;> try (exfalso; omega)) | (with_reducible refine condE_not (fun g => ?_) (fun g => ?_) <;> try (exfalso; omega)) | (simp -dsimp only [↓wkA, ↓wkE, ↓wkJ, wkB, ↓tt, Nat.reduceBEq, Nat.reduceEqDiff, ↓reduceIte, Nat.reduceLT, Array.toList, Nat.reduceAdd, Nat.reduceMul, Int.reduceToNat, Int.reducePow, UInt8.reduceToNat]) | (refine call_by (h64) (views_data rfl) ⟨trivial, trivial, trivial, trivial⟩ rfl ?_) | (simp -dsimp (disch := first | assumption | omega) only [dec_t, dec_f])
      | (refine And.intro ?_ ?_
         · first | omega | decide | (simp (disch := omega) only [wkW, Int.reduceToNat, Int.reducePow] <;> omega) | (simp <;> omega)) | (simp (disch := omega) only [wkW, Int.reduceToNat, Int.reducePow]) | fail
    refine ⟨_, q, hset, hres.1, hres.2, hfin, ?_, rfl⟩
    rcases (show q = 0 ∨ q = 1 by omega) with rfl | rfl <;> rfl
  | succ m =>
    have hmul := mul64 d (v.getD i 0) hd hvi
    have hxy := mul_bound hd hvi
    simp only [B64] at hmul hc hx
    have ha64 := add64 (x := d * v.getD i 0 % 18446744073709551616) (y := c) (c := 0) (by omega) hc.1 (by decide)
    obtain ⟨t, ht⟩ : ∃ t, d * v.getD i 0 + c = t := ⟨_, rfl⟩
    have e1 : (d * v.getD i 0 % 18446744073709551616 + c + 0) % 18446744073709551616 = t % 18446744073709551616 := by omega
    have w2 : IntKind.wrap .u64 (d * v.getD i 0 / 18446744073709551616 + (d * v.getD i 0 % 18446744073709551616 + c + 0) / 18446744073709551616) = t / 18446744073709551616 := by
      rw [wrap_u64 (by omega)]; omega
    rw [e1] at ha64
    have hlo : 0 ≤ t % 18446744073709551616 ∧ t % 18446744073709551616 < 18446744073709551616 := ⟨Int.emod_nonneg _ (by decide), Int.emod_lt_of_pos _ (by decide)⟩
    have hs64 := sub64 (x := l.getD (off + i) 0) (y := t % 18446744073709551616) (c := b) hx hlo hb
    obtain ⟨s, hs⟩ : ∃ s, l.getD (off + i) 0 - t % 18446744073709551616 - b = s := ⟨_, rfl⟩
    rw [hs] at hs64
    have hres : 0 ≤ -(s / 18446744073709551616) ∧ -(s / 18446744073709551616) ≤ 1 := by omega
    have hmod : 0 ≤ s % 18446744073709551616 ∧ s % 18446744073709551616 < B64 := ⟨Int.emod_nonneg _ (by decide), Int.emod_lt_of_pos _ (by decide)⟩
    have hcar : 0 ≤ t / 18446744073709551616 ∧ t / 18446744073709551616 < B64 := by simp only [B64]; omega
    have hfin : vt ((l'.set (off + i) (s % 18446744073709551616)).drop off) (i + 1) = vt (l.drop off) (i + 1) - d * vt v (i + 1) + B64 ^ (i + 1) * (t / 18446744073709551616 + -(s / 18446744073709551616)) := by
      rw [part_vt hS hoi, he]
      have hsum : 18446744073709551616 * (s / 18446744073709551616) + s % 18446744073709551616 = s := Int.mul_ediv_add_emod s 18446744073709551616
      have hsum2 : 18446744073709551616 * (t / 18446744073709551616) + t % 18446744073709551616 = t := Int.mul_ediv_add_emod t 18446744073709551616
      simp only [vt]
      rw [getD_drop', Int.pow_succ]
      rw [← hs] at hsum ⊢
      rw [← ht] at hsum2 hsum ⊢
      simp only [B64]
      generalize (18446744073709551616 : Int) ^ i = p at *
      generalize (l.getD (off + i) 0 - (d * v.getD i 0 + c) % 18446744073709551616 - b) / 18446744073709551616 = q at *
      generalize (l.getD (off + i) 0 - (d * v.getD i 0 + c) % 18446744073709551616 - b) % 18446744073709551616 = u at *
      generalize (d * v.getD i 0 + c) / 18446744073709551616 = q2 at *
      generalize (d * v.getD i 0 + c) % 18446744073709551616 = u2 at *
      grind
    have hset := hS.set hoi hmod
    clear he hmod e1 hlo hxy hx
    generalize s % 18446744073709551616 = u at *
    generalize -(s / 18446744073709551616) = q at *
    repeat' first
      | (simp only [hout, w2, Int.toNat_natCast, getRow_setRow_self, Go.PV.setRow_setRow])
      | (with_reducible first | refine PW.seq ?_ | refine PW.block ?_ | refine PW.fork ?_ | refine PW.skip ?_ | refine PW.exit ?_ | refine PW.ret ?_ | refine PW.scope ?_ | refine PW.label ?_ | refine PW.goto ?_)
      | (with_reducible refine PW.region ttOk ?_ ?_
         · rfl)
      | (with_reducible refine PW.regionD ttOk mixed ?_ ?_ ?_
         · rfl
         · rfl) | (with_reducible refine ifW_dec (fun g => ?_) (fun g => ?_) <;> first | (exfalso; omega) | (simp -dsimp only [g, wkI])) | (with_reducible refine condE_dec (fun g => ?_) (fun g => ?_) <;> try (exfalso; omega)) | (with_reducible refine condE_not (fun g => ?_) (fun g => ?_) <;> try (exfalso; omega)) | (simp -dsimp only [↓wkA, ↓wkE, ↓wkJ, wkB, ↓tt, Nat.reduceBEq, Nat.reduceEqDiff, ↓reduceIte, Nat.reduceLT, Array.toList, Nat.reduceAdd, Nat.reduceMul, Int.reduceToNat, Int.reducePow, UInt8.reduceToNat]) | (refine call_by (hmul) (views_data rfl) ⟨trivial, trivial, trivial⟩ rfl ?_) | (refine call_by (ha64) (views_data rfl) ⟨trivial, trivial, trivial, trivial⟩ rfl ?_) | (refine call_by (hs64) (views_data rfl) ⟨trivial, trivial, trivial, trivial⟩ rfl ?_) | (simp -dsimp (disch := first | assumption | omega) only [dec_t, dec_f])
      | (refine And.intro ?_ ?_
         · first | omega | decide | (simp (disch := omega) only [wkW, Int.reduceToNat, Int.reducePow] <;> omega) | (simp <;> omega)) | (simp (disch := omega) only [wkW, Int.reduceToNat, Int.reducePow]) | fail
    exact Again.mk m (toF v d r off n (i + 1) (t / 18446744073709551616) q) ⟨nx, setRow rows r (.ints .u64 (l'.set (off + i) u)), gg, ty⟩ (by omega) (Sub.less ⟨rfl, rfl, rfl, rfl, rfl, rfl, rfl, rfl, trivial⟩ (fun _ _ h => h) rfl rfl) ⟨i + 1, _, _, _, by omega, hset, hcar, hres, hfin, rfl, rfl⟩
end Go.Proofs.YtbmhnjghpjkjpaaGreatDoor

/- Contracts and laws that the row leans on, part 11: texts that were built one by one, laid together. -/
import Derived.Test.YtbmhnjghpjkjpaaGreatDoorPart10
set_option maxHeartbeats 4000000
set_option maxRecDepth 4000
set_option exponentiation.threshold 300000
set_option linter.unusedVariables false
set_option linter.unusedSimpArgs false
namespace Go.Proofs.YtbmhnjghpjkjpaaGreatDoor
open Go Go.PV
theorem text_walk (m : List Int) (k nk : Int) (p five : List Int) (a b : List Int) (hk : IntKind.wrap .i64 (0 - k) = nk) (hk2 : k < 0 → IntKind.wrap .u64 nk = nk)
    (h : (0 ≤ k ∧ Meets Tryz.prog 39 [.ints .u64 m, .int .i64 k] (.tup [.ints .u64 p, .int .i64 0]) ∧ Meets Tryz.prog 74 [.ints .u64 p] (.tup [.str a, .int .i64 0])) ∨
      (k < 0 ∧ Meets Tryz.prog 75 [.int .i64 nk] (.tup [.ints .u64 five, .int .i64 0]) ∧ Meets Tryz.prog 61 [.ints .u64 m, .ints .u64 five] (.tup [.ints .u64 p, .int .i64 0]) ∧ Meets Tryz.prog 74 [.ints .u64 p] (.tup [.str a, .int .i64 0]) ∧ Meets Tryz.prog 74 [.ints .u64 [nk]] (.tup [.str b, .int .i64 0]) ∧ a.length + b.length ≤ 1000000))
    (t : List Int) (ht : t = if 0 ≤ k then a else a ++ 101 :: 45 :: b) : Meets Tryz.prog 37 [.ints .u64 m, .int .i64 k] (.tup [.str t, .bool true]) := by
  subst ht
  rcases h with ⟨h0, h1, h2⟩ | ⟨h0, h1, h2, h3, h4, h5⟩
  · rw [if_pos h0]
    have d1 : decide (0 ≤ k) = true := decide_eq_true h0
    refine meets_by ttOk Tryz.func37 Tryz.ntmps37 Tryz.results37 (by kernel_rfl) (c := _) rfl rfl rfl fun E => ?_
    simp only [argsFrame]
    repeat' first
      | (with_reducible first | refine PW.seq ?_ | refine PW.block ?_ | refine PW.fork ?_ | refine PW.skip ?_ | refine PW.exit ?_ | refine PW.ret ?_ | refine PW.scope ?_ | refine PW.label ?_ | refine PW.goto ?_) | (simp only [d1])
      | (with_reducible refine PW.region ttOk ?_ ?_
         · rfl)
      | (with_reducible refine PW.regionD ttOk mixed ?_ ?_ ?_
         · rfl
         · rfl) | (with_reducible refine ifW_dec (fun g => ?_) (fun g => ?_) <;> first | (exfalso; omega) | (simp -dsimp only [g, wkI])) | (with_reducible refine condE_dec (fun g => ?_) (fun g => ?_) <;> try (exfalso; omega)) | (with_reducible refine condE_not (fun g => ?_) (fun g => ?_) <;> try (exfalso; omega)) | (simp -dsimp only [↓wkA, ↓wkE, ↓wkJ, wkB, ↓tt, Nat.reduceBEq, Nat.reduceEqDiff, ↓reduceIte, Nat.reduceLT, Array.toList, Nat.reduceAdd, Nat.reduceMul, Int.reduceToNat, Int.reducePow, UInt8.reduceToNat]) | (refine call_by (h1) (views_data rfl) ⟨trivial, trivial, trivial⟩ rfl ?_) | (refine call_by (h2) (views_data rfl) ⟨trivial, trivial⟩ rfl ?_) | (simp -dsimp (disch := first | assumption | omega) only [dec_t, dec_f])
      | (refine And.intro ?_ ?_
         · first | omega | decide | (simp (disch := omega) only [wkW, Int.reduceToNat, Int.reducePow] <;> omega) | (simp <;> omega)) | (simp (disch := omega) only [wkW, Int.reduceToNat, Int.reducePow]) | fail
  · rw [if_neg (by omega)]
    have d1 : decide (0 ≤ k) = false := decide_eq_false (by omega)
    have w2 := hk2 h0
    clear hk2 h0
    refine meets_by ttOk Tryz.func37 Tryz.ntmps37 Tryz.results37 (by kernel_rfl) (c := _) rfl rfl rfl fun E => ?_
    simp only [argsFrame]
    repeat' first
      | (with_reducible first | refine PW.seq ?_ | refine PW.block ?_ | refine PW.fork ?_ | refine PW.skip ?_ | refine PW.exit ?_ | refine PW.ret ?_ | refine PW.scope ?_ | refine PW.label ?_ | refine PW.goto ?_) | (simp only [d1, hk, w2])
      | (with_reducible refine PW.region ttOk ?_ ?_
         · rfl)
      | (with_reducible refine PW.regionD ttOk mixed ?_ ?_ ?_
         · rfl
         · rfl) | (with_reducible refine ifW_dec (fun g => ?_) (fun g => ?_) <;> first | (exfalso; omega) | (simp -dsimp only [g, wkI])) | (with_reducible refine condE_dec (fun g => ?_) (fun g => ?_) <;> try (exfalso; omega)) | (with_reducible refine condE_not (fun g => ?_) (fun g => ?_) <;> try (exfalso; omega)) | (simp -dsimp only [↓wkA, ↓wkE, ↓wkJ, wkB, ↓tt, Nat.reduceBEq, Nat.reduceEqDiff, ↓reduceIte, Nat.reduceLT, Array.toList, Nat.reduceAdd, Nat.reduceMul, Int.reduceToNat, Int.reducePow, UInt8.reduceToNat]) | (refine call_by (h1) (views_data rfl) ⟨trivial, trivial⟩ rfl ?_) | (refine call_by (h2) (views_data rfl) ⟨trivial, trivial, trivial⟩ rfl ?_) | (refine call_by (h3) (views_data rfl) ⟨trivial, trivial⟩ rfl ?_) | (refine call_by' (args' := [.ints .u64 [nk]]) rfl h4 ⟨Nat.le_refl _, trivial⟩ rfl ?_) | (simp -dsimp (disch := first | assumption | omega) only [dec_t, dec_f])
      | (refine And.intro ?_ ?_
         · first | omega | decide | (simp (disch := omega) only [wkW, Int.reduceToNat, Int.reducePow] <;> omega) | (simp <;> omega)) | (simp (disch := omega) only [wkW, Int.reduceToNat, Int.reducePow]) | fail
def txt (M : Nat) (k : Int) : List Int := if 0 ≤ k then written 10 false (M * 2 ^ k.toNat) else written 10 false (M * 5 ^ (-k).toNat) ++ 101 :: 45 :: written 10 false (-k).toNat
theorem written_digs (v : Nat) : AllD (written 10 false v) := by
  unfold written
  split
  · intro i hi
    match i, hi with
    | 0, _ => decide
    | i + 1, h => simp at h
  · exact all_digs text_digs
theorem written_short {v n : Nat} (h : v < 10 ^ n) (hn : 0 < n) : (written 10 false v).length ≤ n := by
  by_cases h0 : v = 0
  · subst h0
    exact hn
  · refine Nat.le_of_not_lt fun hlt => ?_
    have hne := written_ne (b := 10) (by decide) false v
    have hl := num_low (written_digs v) (fun e => ?_) hne
    · rw [written_num (by decide)] at hl
      have : 10 ^ n ≤ 10 ^ ((written 10 false v).length - 1) := Nat.pow_le_pow_right (by decide) (by omega)
      omega
    · unfold written at e
      rw [if_neg h0] at e
      exact text_head (by decide) false v h0 e
theorem law_text {M : Nat} {k : Int} (hk : -1200 ≤ k ∧ k ≤ 1100) (hM : M < 2 ^ 200) : Meets Tryz.prog 37 [.ints .u64 (natL M), .int .i64 k] (.tup [.str (txt M k), .bool true]) := by
  have hMn : M < NMax := nmax_of hM (by decide)
  by_cases h0 : 0 ≤ k
  · obtain ⟨n, rfl⟩ : ∃ n : Nat, k = (n : Int) := ⟨k.toNat, by omega⟩
    have b1 : M * 2 ^ n < 2 ^ 200 * 2 ^ 1100 := Nat.mul_lt_mul_of_lt_of_le hM (Nat.pow_le_pow_right (by decide) (by omega)) (Nat.two_pow_pos _)
    have b2 : M * 2 ^ n < NMax := nmax_of (k := 1300) (Nat.lt_of_lt_of_le b1 (by decide +kernel)) (by decide)
    refine text_walk _ _ _ _ [] _ [] rfl (fun h => by omega) (.inl ⟨h0, shl_nat hMn (by omega) b2, digits_of _ _ _ (forth_in (b := 10) (by decide) (by rw [nmax_int]; exact_mod_cast b2))⟩) _ ?_
    unfold txt
    rw [if_pos h0, if_pos h0, Int.toNat_natCast]
  · obtain ⟨n, hn⟩ : ∃ n : Nat, k = -(n : Int) := ⟨(-k).toNat, by omega⟩
    have hn1 : 1 ≤ n ∧ n ≤ 1200 := by omega
    have c1 : 5 ^ n ≤ 5 ^ 1200 := Nat.pow_le_pow_right (by decide) hn1.2
    have b0 : 5 ^ n < NMax := nmax_of (k := 3000) (Nat.lt_of_le_of_lt c1 (by decide +kernel)) (by decide)
    have b1 : M * 5 ^ n < 2 ^ 200 * 5 ^ 1200 := Nat.mul_lt_mul_of_lt_of_le hM c1 (Nat.pow_pos (by decide))
    have b2 : M * 5 ^ n < NMax := nmax_of (k := 3200) (Nat.lt_of_lt_of_le b1 (by decide +kernel)) (by decide)
    have b3 : n < NMax := nmax_of (k := 20) (by omega) (by decide)
    have l1 := written_short (v := M * 5 ^ n) (n := 1000) (Nat.lt_of_lt_of_le b1 (by decide +kernel)) (by decide)
    have l2 := written_short (v := n) (n := 4) (by omega) (by decide)
    have e1 : (-k).toNat = n := by omega
    have g4 := digits_of (natL n) _ _ (forth_in (b := 10) (by decide) (by rw [nmax_int]; exact_mod_cast b3))
    rw [natL_single (by omega) (by omega)] at g4
    refine text_walk _ _ (n : Int) _ _ _ (written 10 false n) (by rw [hn, show (0 : Int) - -(n : Int) = n by omega]; exact wrap_i64 (by omega)) (fun _ => wrap_u64 (by omega)) (.inr ⟨by omega, pow5_ok n (by omega) b0, mul_nat0 hMn b0 b2, digits_of _ _ _ (forth_in (b := 10) (by decide) (by rw [nmax_int]; exact_mod_cast b2)), g4, by omega⟩) _ ?_
    unfold txt
    rw [if_neg h0, if_neg h0, e1]
theorem rdec_bin {M n : Nat} : rdec (M * 5 ^ n) (-(n : Int)) = rbin M (-(n : Int)) := by
  rw [← rrat_five]
  unfold rrat rbin
  refine rndU_congr (Nat.mul_pos (Nat.pow_pos (by decide)) (Nat.two_pow_pos _)) (Nat.two_pow_pos _) ?_
  ac_rfl
theorem rdec_whole {M n : Nat} : rdec (M * 2 ^ n) 0 = rbin M (n : Int) := by
  unfold rdec rbin
  rw [show (0 : Int).toNat = 0 from rfl, show (-(0 : Int)).toNat = 0 from rfl, show (-((n : Int) + 1074)).toNat = 0 by omega, show ((n : Int) + 1074).toNat = n + 1074 by omega, Nat.pow_zero, Nat.mul_one, Nat.pow_add, Nat.mul_assoc]
theorem txt_lit {M : Nat} {k : Int} (hk : -1200 ≤ k ∧ k ≤ 1100) : nuOk (txt M k) ∧ nuN (txt M k) = false ∧ nuV (txt M k) = rbin M k ∧ nuE (txt M k) = (txt M k).length ∧ isDig ((txt M k).getD 0 0) := by
  have wn := fun v => written_ne (b := 10) (by decide) false v
  have wv := fun v => written_num (b := 10) (by decide) false v
  unfold txt
  by_cases h0 : 0 ≤ k
  · rw [if_pos h0]
    obtain ⟨n, rfl⟩ : ∃ n : Nat, k = (n : Int) := ⟨k.toNat, by omega⟩
    obtain ⟨z1, z2, z3, z4, z5⟩ := lit_digits (written_digs (M * 2 ^ (n : Int).toNat)) (wn _)
    refine ⟨z1, z2, ?_, z5, written_digs _ 0 (List.length_pos_iff.2 (wn _))⟩
    rw [nuV_val z2 z3 z4, wv, Int.toNat_natCast, rdec_whole]
  · rw [if_neg h0]
    obtain ⟨n, rfl⟩ : ∃ n : Nat, k = -(n : Int) := ⟨(-k).toNat, by omega⟩
    obtain ⟨z1, z2, z3, z4, z5⟩ := lit_exp (written_digs (M * 5 ^ (- -(n : Int)).toNat)) (wn _) (written_digs (- -(n : Int)).toNat) (wn _) (by rw [wv]; omega)
    refine ⟨z1, z2, ?_, z5, ?_⟩
    · rw [nuV_val z2 z3 z4, wv, wv, show (- -(n : Int)).toNat = n by omega, rdec_bin]
    · rw [getD_ahead (List.length_pos_iff.2 (wn _))]
      exact written_digs _ 0 (List.length_pos_iff.2 (wn _))
-- roundings held against the neighbours
theorem rnd_in {d N D : Nat} (hD : 0 < D) (hd : d < infB) (h1 : dv d * D ≤ N) (h2 : 2 * N < (dv d + dv (d + 1)) * D) : rndU N D = d := by
  refine rndU_eq hD ⟨Nat.le_of_lt hd, fun _ => ⟨Nat.le_of_lt h2, fun e => by omega⟩, fun h0 => ?_⟩
  have h3 : dv (d - 1) < dv (d) := dv_lt (by omega)
  have h4 : (dv (d - 1) + dv d) * D < 2 * (dv d * D) := by
    rw [← Nat.mul_assoc]
    exact Nat.mul_lt_mul_of_pos_right (by omega) hD
  exact ⟨by omega, fun e => by omega⟩
theorem rnd_over {d N D : Nat} (hD : 0 < D) (hd : d < infB) (h1 : (dv d + dv (d + 1)) * D < 2 * N) (h2 : N ≤ dv (d + 1) * D) : rndU N D = d + 1 := by
  refine rndU_eq hD ⟨hd, fun _ => ?_, fun _ => ⟨Nat.le_of_lt h1, fun e => by rw [Nat.add_sub_cancel] at e; omega⟩⟩
  have h3 : dv (d + 1) < dv (d + 1 + 1) := dv_lt (by omega)
  have h4 : 2 * (dv (d + 1) * D) < (dv (d + 1) + dv (d + 1 + 1)) * D := by
    rw [← Nat.mul_assoc]
    exact Nat.mul_lt_mul_of_pos_right (by omega) hD
  exact ⟨by omega, fun e => by omega⟩
theorem rnd_tie {d N D : Nat} (hD : 0 < D) (hd : d < infB) (h : 2 * N = (dv d + dv (d + 1)) * D) : rndU N D = d + d % 2 := by
  have h3 : dv (d) < dv (d + 1) := dv_lt (by omega)
  rcases Nat.mod_two_eq_zero_or_one d with e | e
  · rw [e, Nat.add_zero]
    refine rndU_eq hD ⟨Nat.le_of_lt hd, fun _ => ⟨Nat.le_of_eq h, fun _ => e⟩, fun h0 => ?_⟩
    have h5 : dv (d - 1) < dv (d) := dv_lt (by omega)
    have h4 : (dv (d - 1) + dv d) * D < (dv d + dv (d + 1)) * D := Nat.mul_lt_mul_of_pos_right (by omega) hD
    exact ⟨by omega, fun e => by omega⟩
  · rw [e]
    refine rndU_eq hD ⟨hd, fun _ => ?_, fun _ => ⟨by rw [Nat.add_sub_cancel]; omega, fun _ => by omega⟩⟩
    have h5 : dv (d + 1) < dv (d + 1 + 1) := dv_lt (by omega)
    have h4 : (dv d + dv (d + 1)) * D < (dv (d + 1) + dv (d + 1 + 1)) * D := Nat.mul_lt_mul_of_pos_right (by omega) hD
    exact ⟨by omega, fun e => by omega⟩
section
variable {d : Nat} (hd : d < infB)
include hd
theorem mid_sum : dv d + dv (d + 1) = (2 * mantD d + 1) * 2 ^ (expD d + 1074).toNat := by
  rw [dv_self hd, dv_next hd, ← Nat.add_mul]
  congr 1
  omega
theorem bin_exact : rbin (mantD d) (expD d) = d := by
  have h := pos_parts hd
  unfold rbin
  rw [show (-(expD d + 1074)).toNat = 0 by omega, ← dv_self hd, Nat.pow_zero]
  have := rndU_dv (b := d) (D := 1) (by decide) (Nat.le_of_lt hd)
  rw [Nat.mul_one] at this
  exact this
theorem bin_mid : rbin (2 * mantD d + 1) (expD d - 1) = d + d % 2 := by
  have h := pos_parts hd
  unfold rbin
  refine rnd_tie (Nat.two_pow_pos _) hd ?_
  rw [mid_sum hd]
  by_cases h1 : expD d = -1074
  · rw [h1]
    show 2 * ((2 * mantD d + 1) * 2 ^ 0) = (2 * mantD d + 1) * 2 ^ 0 * 2 ^ 1
    omega
  · rw [show expD d - 1 + 1074 = expD d + 1073 by omega, show (-(expD d + 1073)).toNat = 0 by omega, Nat.pow_zero, Nat.mul_one, show (expD d + 1074).toNat = (expD d + 1073).toNat + 1 by omega, Nat.pow_succ]
    rw [Nat.mul_comm 2, Nat.mul_assoc]
theorem bin_low : rbin ((2 * mantD d + 1) * 2 ^ 100 - 1) (expD d - 101) = d := by
  have h := pos_parts hd
  unfold rbin
  obtain ⟨p, hp⟩ : ∃ p, (expD d - 101 + 1074).toNat = p := ⟨_, rfl⟩
  obtain ⟨q, hq⟩ : ∃ q, (-(expD d - 101 + 1074)).toNat = q := ⟨_, rfl⟩
  rw [hp, hq]
  have e1 : (expD d + 1074).toNat + q = p + 101 := by omega
  have hP := Nat.two_pow_pos p
  refine rnd_in (Nat.two_pow_pos _) hd ?_ ?_
  · rw [dv_self hd, Nat.mul_assoc, ← Nat.pow_add, e1, Nat.pow_add, Nat.mul_comm (2 ^ p), ← Nat.mul_assoc]
    exact Nat.mul_le_mul_right _ (by omega)
  · rw [mid_sum hd, Nat.mul_assoc (2 * mantD d + 1), ← Nat.pow_add, e1, Nat.pow_add, Nat.mul_comm (2 ^ p), ← Nat.mul_assoc, ← Nat.mul_assoc]
    exact Nat.mul_lt_mul_of_pos_right (by omega) hP
theorem bin_high : rbin ((2 * mantD d + 1) * 2 ^ 100 + 1) (expD d - 101) = d + 1 := by
  have h := pos_parts hd
  unfold rbin
  obtain ⟨p, hp⟩ : ∃ p, (expD d - 101 + 1074).toNat = p := ⟨_, rfl⟩
  obtain ⟨q, hq⟩ : ∃ q, (-(expD d - 101 + 1074)).toNat = q := ⟨_, rfl⟩
  rw [hp, hq]
  have e1 : (expD d + 1074).toNat + q = p + 101 := by omega
  have hP := Nat.two_pow_pos p
  refine rnd_over (Nat.two_pow_pos _) hd ?_ ?_
  · rw [mid_sum hd, Nat.mul_assoc (2 * mantD d + 1), ← Nat.pow_add, e1, Nat.pow_add, Nat.mul_comm (2 ^ p), ← Nat.mul_assoc, ← Nat.mul_assoc]
    exact Nat.mul_lt_mul_of_pos_right (by omega) hP
  · rw [dv_next hd, Nat.mul_assoc (mantD d + 1), ← Nat.pow_add, e1, Nat.pow_add, Nat.mul_comm (2 ^ p), ← Nat.mul_assoc]
    exact Nat.mul_le_mul_right _ (by omega)
theorem bin_long {P : Nat} {Y : Int} (hP : (0 ≤ expD d - 1 ∧ 0 ≤ Y ∧ P * 10 ^ Y.toNat = (2 * mantD d + 1) * 2 ^ (expD d - 1).toNat) ∨ (expD d - 1 < 0 ∧ Y = expD d - 1 ∧ P = (2 * mantD d + 1) * 5 ^ (1 - expD d).toNat)) (z : Nat) {n : Nat} {x : Int} (hn : n = Y.toNat + z) (hx : x = (if 0 ≤ Y then 0 else Y) - z - 1) : rdec (P * 10 ^ (n + 1) + 1) x = d + 1 := by
  have h := pos_parts hd
  unfold rdec
  have hT : 10 ≤ 10 ^ (z + 1) := by rw [Nat.pow_succ]; have := ten_pos z; omega
  rcases hP with ⟨h1, h2, h3⟩ | ⟨h1, h2, h3⟩
  · rw [if_pos h2] at hx
    rw [show x.toNat = 0 by omega, Nat.pow_zero, Nat.mul_one, show (-x).toNat = z + 1 by omega, hn, show Y.toNat + z + 1 = Y.toNat + (z + 1) by omega, Nat.pow_add, ← Nat.mul_assoc, h3]
    generalize 10 ^ (z + 1) = T at *
    have e1 : 2 ^ (expD d + 1074).toNat = 2 ^ (expD d - 1).toNat * 2 ^ 1074 * 2 := by
      rw [Nat.mul_assoc, ← Nat.pow_succ, ← Nat.pow_add]
      congr 1
      omega
    have hE := Nat.two_pow_pos (expD d - 1).toNat
    generalize 2 ^ (expD d - 1).toNat = E at *
    have hU := Nat.two_pow_pos 1074
    refine rnd_over (by omega) hd ?_ ?_
    · rw [mid_sum hd, e1]
      generalize (2 : Nat) ^ 1074 = U at *
      have a1 : (2 * mantD d + 1) * (E * U * 2) * T = 2 * ((2 * mantD d + 1) * E * T * U) := by ac_rfl
      rw [a1, Nat.add_mul ((2 * mantD d + 1) * E * T) 1 U, Nat.one_mul]
      generalize (2 * mantD d + 1) * E * T * U = X
      omega
    · rw [dv_next hd, e1]
      generalize (2 : Nat) ^ 1074 = U at *
      have a1 : (mantD d + 1) * (E * U * 2) * T = (2 * mantD d + 1) * E * T * U + E * T * U := by
        have h2 : (mantD d + 1) * 2 = (2 * mantD d + 1) + 1 := by omega
        calc (mantD d + 1) * (E * U * 2) * T = ((mantD d + 1) * 2) * (E * T * U) := by ac_rfl
          _ = (2 * mantD d + 1) * (E * T * U) + E * T * U := by rw [h2, Nat.add_mul (2 * mantD d + 1) 1, Nat.one_mul]
          _ = _ := by congr 1; ac_rfl
      rw [a1, Nat.add_mul ((2 * mantD d + 1) * E * T) 1 U, Nat.one_mul]
      have h3 : 1 * U ≤ E * T * U := Nat.mul_le_mul_right _ (Nat.mul_pos hE (by omega))
      rw [Nat.one_mul] at h3
      exact Nat.add_le_add_left h3 _
  · rw [if_neg (by omega)] at hx
    obtain ⟨n5, hn5⟩ : ∃ n5, (1 - expD d).toNat = n5 := ⟨_, rfl⟩
    rw [hn5] at h3
    rw [show x.toNat = 0 by omega, Nat.pow_zero, Nat.mul_one, show (-x).toNat = n5 + (z + 1) by omega, hn, show Y.toNat + z + 1 = z + 1 by omega, Nat.pow_add 10 n5, h3]
    generalize 10 ^ (z + 1) = T at *
    have e1 : 2 ^ (expD d + 1074).toNat * 10 ^ n5 = 2 ^ 1074 * 5 ^ n5 * 2 := by
      rw [show (10 : Nat) = 2 * 5 from rfl, Nat.mul_pow, ← Nat.mul_assoc, ← Nat.pow_add, show (expD d + 1074).toNat + n5 = 1074 + 1 by omega, Nat.pow_succ]
      ac_rfl
    have hF : 0 < 5 ^ n5 := Nat.pow_pos (by decide)
    have hTen := ten_pos n5
    have hU := Nat.two_pow_pos 1074
    refine rnd_over (Nat.mul_pos hTen (by omega)) hd ?_ ?_
    · rw [mid_sum hd]
      have e2 : (2 * mantD d + 1) * 2 ^ (expD d + 1074).toNat * (10 ^ n5 * T) = (2 * mantD d + 1) * (2 ^ (expD d + 1074).toNat * 10 ^ n5) * T := by ac_rfl
      rw [e2, e1]
      generalize (2 : Nat) ^ 1074 = U at *
      generalize 5 ^ n5 = F at *
      have a1 : (2 * mantD d + 1) * (U * F * 2) * T = 2 * ((2 * mantD d + 1) * F * T * U) := by ac_rfl
      rw [a1, Nat.add_mul ((2 * mantD d + 1) * F * T) 1 U, Nat.one_mul]
      generalize (2 * mantD d + 1) * F * T * U = X
      omega
    · rw [dv_next hd]
      have e2 : (mantD d + 1) * 2 ^ (expD d + 1074).toNat * (10 ^ n5 * T) = (mantD d + 1) * (2 ^ (expD d + 1074).toNat * 10 ^ n5) * T := by ac_rfl
      rw [e2, e1]
      generalize (2 : Nat) ^ 1074 = U at *
      generalize 5 ^ n5 = F at *
      have a1 : (mantD d + 1) * (U * F * 2) * T = (2 * mantD d + 1) * F * T * U + F * T * U := by
        have h2 : (mantD d + 1) * 2 = (2 * mantD d + 1) + 1 := by omega
        calc (mantD d + 1) * (U * F * 2) * T = ((mantD d + 1) * 2) * (F * T * U) := by ac_rfl
          _ = (2 * mantD d + 1) * (F * T * U) + F * T * U := by rw [h2, Nat.add_mul (2 * mantD d + 1) 1, Nat.one_mul]
          _ = _ := by congr 1; ac_rfl
      rw [a1, Nat.add_mul ((2 * mantD d + 1) * F * T) 1 U, Nat.one_mul]
      have h3 : 1 * U ≤ F * T * U := Nat.mul_le_mul_right _ (Nat.mul_pos hF (by omega))
      rw [Nat.one_mul] at h3
      exact Nat.add_le_add_left h3 _
end
theorem mid_normal {M : Nat} {k : Int} (hM : M % 2 = 1) (hk : -1200 ≤ k ∧ k ≤ 1100) : (0 ≤ k ∧ 0 ≤ nuY (txt M k) ∧ num 10 (nuS (txt M k)) * 10 ^ (nuY (txt M k)).toNat = M * 2 ^ k.toNat) ∨ (k < 0 ∧ nuY (txt M k) = k ∧ num 10 (nuS (txt M k)) = M * 5 ^ (-k).toNat) := by
  have wn := fun v => written_ne (b := 10) (by decide) false v
  have wv := fun v => written_num (b := 10) (by decide) false v
  unfold nuS nuY txt
  by_cases h0 : 0 ≤ k
  · rw [if_pos h0]
    obtain ⟨z1, z2, z3, z4, z5⟩ := lit_digits (written_digs (M * 2 ^ k.toNat)) (wn _)
    rw [z3, z4]
    refine .inl ⟨h0, ?_⟩
    have hne : M * 2 ^ k.toNat ≠ 0 := Nat.ne_of_gt (Nat.mul_pos (by omega) (Nat.two_pow_pos _))
    rcases norm_val (x := 0) (written_digs (M * 2 ^ k.toNat)) with ⟨h1, _⟩ | ⟨h1, j, h2, h3, h4, _⟩
    · rw [wv] at h1; exact absurd h1 hne
    · rw [wv] at h4
      rw [h2]
      refine ⟨by omega, ?_⟩
      rw [show (0 + (j : Int)).toNat = j by omega, ← h4]
  · rw [if_neg h0]
    obtain ⟨n, rfl⟩ : ∃ n : Nat, k = -(n : Int) := ⟨(-k).toNat, by omega⟩
    rw [show (- -(n : Int)).toNat = n by omega]
    obtain ⟨z1, z2, z3, z4, z5⟩ := lit_exp (written_digs (M * 5 ^ n)) (wn _) (written_digs n) (wn _) (by rw [wv]; omega)
    rw [z3, z4, wv]
    refine .inr ⟨by omega, ?_⟩
    have hodd : M * 5 ^ n % 2 = 1 := by
      have : 5 ^ n % 2 = 1 := by rw [Nat.pow_mod]; simp
      rw [Nat.mul_mod, hM, this]
    rcases norm_val (x := -(n : Int)) (written_digs (M * 5 ^ n)) with ⟨h1, _⟩ | ⟨h1, j, h2, h3, h4, _⟩
    · rw [wv] at h1; omega
    · rw [wv] at h4
      have hj : j = 0 := by
        cases j with
        | zero => rfl
        | succ j =>
          rw [Nat.pow_succ] at h4
          have : M * 5 ^ n % 2 = 0 := by rw [h4, ← Nat.mul_assoc]; omega
          omega
      subst hj
      rw [Nat.pow_zero, Nat.mul_one] at h4
      exact ⟨by rw [h2]; omega, h4.symm⟩
end Go.Proofs.YtbmhnjghpjkjpaaGreatDoor
namespace Go.PV
theorem wf_u16 {n : Int} (h : (Lit.int .u16 n).wf = true) : 0 ≤ n ∧ n < 65536 := by
  simp only [Lit.wf, Bool.and_eq_true, decide_eq_true_eq, IntKind.min, IntKind.max, IntKind.signed, IntKind.bits] at h
  simp at h
  omega
end Go.PV
namespace Go.Proofs.YtbmhnjghpjkjpaaGreatDoor
open Go Go.PV
def wd (s : List Int) : Nat → List Int
  | 0 => s
  | n + 1 => wd s n ++ [48]
def fr (s : List Int) : Nat → List Int
  | 0 => s
  | n + 1 => 48 :: fr s n
theorem wd_len (s : List Int) : ∀ n, (wd s n).length = s.length + n
  | 0 => rfl
  | n + 1 => by rw [wd, List.length_append, wd_len s n]; rfl
theorem wd_all {s : List Int} (h : AllD s) : ∀ n, AllD (wd s n)
  | 0 => h
  | n + 1 => all_digs (digs_append (digs_all (wd_all h n)) (fun x hx => by rw [List.mem_singleton] at hx; subst hx; decide))
theorem wd_num {s : List Int} : ∀ n, num 10 (wd s n) = num 10 s * 10 ^ n
  | 0 => by rw [Nat.pow_zero, Nat.mul_one]; rfl
  | n + 1 => by
    rw [wd, num_append, wd_num n, show (worth 48).toNat = 0 by decide, Nat.pow_succ, Nat.mul_assoc]
    rfl
theorem mul_none {b : List Int} (hlb : b.length ≤ 4096) (hsb : size b = b.length) : Meets Tryz.prog 61 [.ints .u64 [0], .ints .u64 b] (.tup [.ints .u64 [], .int .i64 0]) := by
  have s1 : Meets Tryz.prog 77 [.ints .u64 [0]] (.int .i64 0) := nat_size [0] (by decide)
  have b1 : Meets Tryz.prog 76 [.ints .u64 [0]] (.bool false) := nat_big [0] (by decide)
  have s2 := size_as hlb hsb
  have b2 := big_as hlb hsb
  refine Meets.nil_head .u64 ?_
  refine meets_by ttOk Tryz.func61 Tryz.ntmps61 Tryz.results61 (by kernel_rfl) (c := _) rfl rfl rfl fun E => ?_
  simp only [argsFrame]
  repeat' first
    | (with_reducible first | refine PW.seq ?_ | refine PW.block ?_ | refine PW.fork ?_ | refine PW.skip ?_ | refine PW.exit ?_ | refine PW.ret ?_ | refine PW.scope ?_ | refine PW.label ?_ | refine PW.goto ?_)
    | (with_reducible refine PW.region ttOk ?_ ?_
       · rfl)
    | (with_reducible refine PW.regionD ttOk mixed ?_ ?_ ?_
       · rfl
       · rfl) | (with_reducible refine ifW_dec (fun g => ?_) (fun g => ?_) <;> first | (exfalso; omega) | (simp -dsimp only [g, wkI])) | (with_reducible refine condE_dec (fun g => ?_) (fun g => ?_) <;> try (exfalso; omega)) | (with_reducible refine condE_not (fun g => ?_) (fun g => ?_) <;> try (exfalso; omega)) | (simp -dsimp only [↓wkA, ↓wkE, ↓wkJ, wkB, ↓tt, Nat.reduceBEq, Nat.reduceEqDiff, ↓reduceIte, Nat.reduceLT, Array.toList, Nat.reduceAdd, Nat.reduceMul, Int.reduceToNat, Int.reducePow, UInt8.reduceToNat]) | (refine call_by (b1) (views_data rfl) ⟨trivial, trivial⟩ rfl ?_) | (refine call_by (b2) (views_data rfl) ⟨trivial, trivial⟩ rfl ?_) | (refine callD_by (s1) (views_data rfl) ⟨trivial, trivial⟩ rfl ?_) | (refine callD_by (s2) (views_data rfl) ⟨trivial, trivial⟩ rfl ?_) | (refine call_by (s1) (views_data rfl) ⟨trivial, trivial⟩ rfl ?_) | (refine call_by (s2) (views_data rfl) ⟨trivial, trivial⟩ rfl ?_) | (simp -dsimp (disch := first | assumption | omega) only [dec_t, dec_f])
    | (refine And.intro ?_ ?_
       · first | omega | decide | (simp (disch := omega) only [wkW, Int.reduceToNat, Int.reducePow] <;> omega) | (simp <;> omega)) | (simp (disch := omega) only [wkW, Int.reduceToNat, Int.reducePow]) | fail
theorem text_none : Meets Tryz.prog 37 [.ints .u64 [0], .int .i64 (-1074)] (.tup [.str (txt 0 (-1074)), .bool true]) := by
  have c1 : 5 ^ 1074 < NMax := nmax_of (k := 3000) (by decide +kernel) (by decide)
  have g1 := pow5_ok 1074 (by decide) c1
  have g2 := mul_none (natL_small c1) (size_natL (5 ^ 1074))
  have g3 := digits_of (natL 0) _ _ (forth_in (b := 10) (by decide) (by rw [nmax_int]; exact_mod_cast nmax_pos))
  rw [natL_zero] at g3
  have g4 := digits_of (natL 1074) _ _ (forth_in (b := 10) (by decide) (by rw [nmax_int]; exact_mod_cast (nmax_of (k := 20) (show 1074 < 2 ^ 20 by decide) (by decide))))
  rw [natL_single (by decide) (by decide)] at g4
  refine text_walk _ _ 1074 _ _ _ (written 10 false 1074) (by decide) (fun _ => by decide) (.inr ⟨by decide, g1, g2, g3, g4, ?_⟩) _ ?_
  · have l1 := written_short (v := 0) (n := 1) (by decide) (by decide)
    have l2 := written_short (v := 1074) (n := 4) (by decide) (by decide)
    omega
  · unfold txt
    rw [if_neg (by decide), if_neg (by decide), Nat.zero_mul]
    rfl
theorem middles_great (d0 zr d : Int) (h0 : Int.tmod d0 9223372036854775808 = d) (h : 9218868437227405312 ≤ d) : Meets Tryz.prog 12 [.int .u64 d0, .int .u16 zr] (.bool true) := by
  have r0 := law10_awake _ rfl
  have d1 : decide (9218868437227405312 ≤ d) = true := decide_eq_true h
  refine meets_by ttOk Tryz.func12 Tryz.ntmps12 Tryz.results12 (by kernel_rfl) (c := _) rfl rfl rfl fun E => ?_
  simp only [argsFrame]
  repeat' first
    | (with_reducible first | refine PW.seq ?_ | refine PW.block ?_ | refine PW.fork ?_ | refine PW.skip ?_ | refine PW.exit ?_ | refine PW.ret ?_ | refine PW.scope ?_ | refine PW.label ?_ | refine PW.goto ?_) | (simp only [h0, d1])
    | (with_reducible refine PW.region ttOk ?_ ?_
       · rfl)
    | (with_reducible refine PW.regionD ttOk mixed ?_ ?_ ?_
       · rfl
       · rfl) | (with_reducible refine ifW_dec (fun g => ?_) (fun g => ?_) <;> first | (exfalso; omega) | (simp -dsimp only [g, wkI])) | (with_reducible refine condE_dec (fun g => ?_) (fun g => ?_) <;> try (exfalso; omega)) | (with_reducible refine condE_not (fun g => ?_) (fun g => ?_) <;> try (exfalso; omega)) | (simp -dsimp only [↓wkA, ↓wkE, ↓wkJ, wkB, ↓tt, Nat.reduceBEq, Nat.reduceEqDiff, ↓reduceIte, Nat.reduceLT, Array.toList, Nat.reduceAdd, Nat.reduceMul, Int.reduceToNat, Int.reducePow, UInt8.reduceToNat]) | (refine call_by (r0) (views_data rfl) trivial rfl ?_) | (simp -dsimp (disch := first | assumption | omega) only [dec_t, dec_f])
    | (refine And.intro ?_ ?_
       · first | omega | decide | (simp (disch := omega) only [wkW, Int.reduceToNat, Int.reducePow] <;> omega) | (simp <;> omega)) | (simp (disch := omega) only [wkW, Int.reduceToNat, Int.reducePow]) | fail
abbrev m1F (S : List Int) (Y d zr : Int) (i : Nat) : PV.Frame := [(20, .str (wd S i)), (21, .int .i64 (Y - i)), (4, .bool false), (1, .int .u16 zr), (0, .int .u64 d)]
abbrev m2F (S : List Int) (X d zr : Int) (n i : Nat) : PV.Frame := [(20, .str (wd S (n + i))), (21, .int .i64 X), (22, .int .i64 (i : Int)), (4, .bool false), (1, .int .u16 zr), (0, .int .u64 d)]
set_option maxRecDepth 20000 in
theorem middles_walk (d0 zr d : Int) (zz : Nat) (h0 : Int.tmod d0 9223372036854775808 = d) (hz : Int.tmod zr 2000 = (zz : Int)) (hzz : zz < 2000) (hlt : ¬ 9218868437227405312 ≤ d) (cl mt ex k M0 M k1 k2 p dn de dx : Int) (ng nl : Bool) (fine low high s0 t tl th S : List Int) (Y : Int) (hY : -2000 ≤ Y ∧ Y ≤ 400) (hSl : S.length ≤ 1000000) (X : Int) (hX : X = if 0 ≤ Y then 0 else Y)
    (hdec : Meets Tryz.prog 30 [.int .u64 d] (.agg [.bool ng, .int .i64 cl, .int .u64 mt, .int .i64 ex])) (hk : (d = 0 ∧ k = -1074) ∨ (d ≠ 0 ∧ ex = k)) (w1 : IntKind.wrap .u64 (2 * mt) = M0) (w2 : IntKind.wrap .u64 (M0 + 1) = M) (w3 : IntKind.wrap .u64 (d + 9223372036854775808) = dn) (w4 : IntKind.wrap .i64 (k - 1) = k1) (w5 : Int.tmod d 2 = p) (w6 : IntKind.wrap .u64 (d + p) = de) (w7 : IntKind.wrap .i64 (k - 101) = k2) (w8 : IntKind.wrap .u64 (d + 1) = dx)
    (c1 : Meets Tryz.prog 37 [.ints .u64 [mt], .int .i64 k] (.tup [.str s0, .bool true])) (c2 : Meets Tryz.prog 38 [.str s0, .int .u64 d] (.bool true)) (c3 : Meets Tryz.prog 38 [.str (45 :: s0), .int .u64 dn] (.bool true)) (c4 : Meets Tryz.prog 37 [.ints .u64 [M], .int .i64 k1] (.tup [.str t, .bool true])) (c5 : Meets Tryz.prog 38 [.str t, .int .u64 de] (.bool true))
    (c6 : Meets Tryz.prog 39 [.ints .u64 [M], .int .i64 100] (.tup [.ints .u64 fine, .int .i64 0])) (c7 : Meets Tryz.prog 40 [.ints .u64 fine, .ints .u64 [1]] (.tup [.ints .u64 low, .int .i64 0])) (c8 : Meets Tryz.prog 41 [.ints .u64 fine, .ints .u64 [1]] (.tup [.ints .u64 high, .int .i64 0]))
    (c9 : Meets Tryz.prog 37 [.ints .u64 low, .int .i64 k2] (.tup [.str tl, .bool true])) (c10 : Meets Tryz.prog 37 [.ints .u64 high, .int .i64 k2] (.tup [.str th, .bool true])) (c11 : Meets Tryz.prog 38 [.str tl, .int .u64 d] (.bool true)) (c12 : Meets Tryz.prog 38 [.str th, .int .u64 dx] (.bool true))
    (c13 : Meets Tryz.prog 19 [.str t] (.tup [.agg [.bool nl, .str S, .int .i64 Y], .int .i64 (t.length : Int)])) (hl : (S.length : Int) + Y ≤ 400) (hs0 : s0.length ≤ 1000000) (c14 : Meets Tryz.prog 20 [.agg [.bool false, .str (wd S (Y.toNat + zz) ++ [49]), .int .i64 (X - zz - 1)]] (.tup [.int .u64 dx, .int .i64 0])) :
    Meets Tryz.prog 12 [.int .u64 d0, .int .u16 zr] (.bool true) := by
  have r0 := law10_awake _ rfl
  have d1 : decide (9218868437227405312 ≤ d) = false := decide_eq_false hlt
  have w9 : IntKind.wrap .i64 ((S.length : Int) + Y) = (S.length : Int) + Y := wrap_i64 (by omega)
  have w10 : IntKind.wrap .i64 (zz : Int) = zz := wrap_i64 (by omega)
  have d2 : decide (400 < (S.length : Int) + Y) = false := decide_eq_false (by omega)
  have d3 : decide ((t.length : Int) = (t.length : Int)) = true := decide_eq_true rfl
  have d5 : decide (dx = dx) = true := decide_eq_true rfl
  have hk' : (decide (d = 0) = true ∧ k = -1074) ∨ (decide (d = 0) = false ∧ ex = k) := hk.imp (fun h => ⟨decide_eq_true h.1, h.2⟩) (fun h => ⟨decide_eq_false h.1, h.2⟩)
  clear hk hlt
  rcases hk' with ⟨d4, rfl⟩ | ⟨d4, rfl⟩
  all_goals (refine meets_by ttOk Tryz.func12 Tryz.ntmps12 Tryz.results12 (by kernel_rfl) (c := _) rfl rfl rfl fun E => ?_; simp only [argsFrame])
  all_goals
    repeat' first
      | (with_reducible first | refine PW.seq ?_ | refine PW.block ?_ | refine PW.fork ?_ | refine PW.skip ?_ | refine PW.exit ?_ | refine PW.ret ?_ | refine PW.scope ?_ | refine PW.label ?_ | refine PW.goto ?_) | (simp only [h0, d1, d2, d3, d4, w1, w2, w3, w4, w5, w6, w7, w8, w9])
      | (with_reducible refine PW.region ttOk ?_ ?_
         · rfl)
      | (with_reducible refine PW.regionD ttOk mixed ?_ ?_ ?_
         · rfl
         · rfl) | (with_reducible refine ifW_dec (fun g => ?_) (fun g => ?_) <;> first | (exfalso; omega) | (simp -dsimp only [g, wkI])) | (with_reducible refine condE_dec (fun g => ?_) (fun g => ?_) <;> try (exfalso; omega)) | (with_reducible refine condE_not (fun g => ?_) (fun g => ?_) <;> try (exfalso; omega)) | (simp -dsimp only [↓wkA, ↓wkE, ↓wkJ, wkB, ↓tt, Nat.reduceBEq, Nat.reduceEqDiff, ↓reduceIte, Nat.reduceLT, Array.toList, Nat.reduceAdd, Nat.reduceMul, Int.reduceToNat, Int.reducePow, UInt8.reduceToNat]) | (refine call_by (r0) (views_data rfl) trivial rfl ?_) | (refine call_by (hdec) (views_data rfl) ⟨trivial, trivial⟩ rfl ?_) | (refine call_by (c2) (views_data rfl) ⟨trivial, trivial, trivial⟩ rfl ?_) | (refine call_by (c3) (views_data rfl) ⟨trivial, trivial, trivial⟩ rfl ?_) | (refine call_by (c5) (views_data rfl) ⟨trivial, trivial, trivial⟩ rfl ?_) | (refine call_by (c9) (views_data rfl) ⟨trivial, trivial, trivial⟩ rfl ?_) | (refine call_by (c10) (views_data rfl) ⟨trivial, trivial, trivial⟩ rfl ?_) | (refine call_by (c11) (views_data rfl) ⟨trivial, trivial, trivial⟩ rfl ?_) | (refine call_by (c12) (views_data rfl) ⟨trivial, trivial, trivial⟩ rfl ?_) | (refine call_by (c13) (views_data rfl) ⟨trivial, trivial⟩ rfl ?_) | (refine call_by' (args' := [.ints .u64 [mt], .int .i64 _]) rfl c1 ⟨Nat.le_refl _, trivial, trivial⟩ rfl ?_) | (refine call_by' (args' := [.ints .u64 [M], .int .i64 k1]) rfl c4 ⟨Nat.le_refl _, trivial, trivial⟩ rfl ?_) | (refine call_drop (args' := [.ints .u64 [M], .int .i64 100]) rfl c6 ⟨Nat.le_refl _, trivial, trivial⟩ rfl ?_; simp only [wkD, Nat.reduceBEq]) | (refine call_drop (args' := [.ints .u64 fine, .ints .u64 [1]]) rfl c7 ⟨trivial, Nat.le_refl _, trivial⟩ rfl ?_; simp only [wkD, Nat.reduceBEq]) | (refine call_drop (args' := [.ints .u64 fine, .ints .u64 [1]]) rfl c8 ⟨trivial, Nat.le_refl _, trivial⟩ rfl ?_; simp only [wkD, Nat.reduceBEq]) | (simp -dsimp (disch := first | assumption | omega) only [dec_t, dec_f])
      | (refine And.intro ?_ ?_
         · first | omega | decide | (simp (disch := omega) only [wkW, Int.reduceToNat, Int.reducePow] <;> omega) | (simp <;> omega)) | (simp (disch := omega) only [wkW, Int.reduceToNat, Int.reducePow]) | fail
  all_goals refine PW.loopA (fun m F H => ∃ i : Nat, i + m = Y.toNat ∧ F = m1F S Y d zr i ∧ H = ⟨0, [], [], []⟩) Y.toNat (m1F S Y d zr 0) ⟨0, [], [], []⟩ (Sub.norm ⟨rfl, by show PV.int .i64 Y = .int .i64 (Y - ((0 : Nat) : Int)); rw [show Y - ((0 : Nat) : Int) = Y by omega], rfl, rfl, rfl, trivial⟩ trivial (Nat.zero_le _) rfl rfl rfl rfl (tyOk_spec rfl)) ⟨0, by omega, rfl, rfl⟩ ?_
  all_goals rintro m F H ⟨i, hi, rfl, rfl⟩
  all_goals have hwl := wd_len S i
  all_goals cases m with
  | succ m =>
    have e1 : decide (0 < Y - (i : Int)) = true := decide_eq_true (by omega)
    have v1 : IntKind.wrap .i64 (Y - (i : Int) - 1) = Y - ((i + 1 : Nat) : Int) := by rw [show Y - (i : Int) - 1 = Y - ((i + 1 : Nat) : Int) by omega]; exact wrap_i64 (by omega)
    repeat' first
      | (with_reducible first | refine PW.seq ?_ | refine PW.block ?_ | refine PW.fork ?_ | refine PW.skip ?_ | refine PW.exit ?_ | refine PW.ret ?_ | refine PW.scope ?_ | refine PW.label ?_ | refine PW.goto ?_) | (simp only [e1, v1])
      | (with_reducible refine PW.region ttOk ?_ ?_
         · rfl)
      | (with_reducible refine PW.regionD ttOk mixed ?_ ?_ ?_
         · rfl
         · rfl) | (with_reducible refine ifW_dec (fun g => ?_) (fun g => ?_) <;> first | (exfalso; omega) | (simp -dsimp only [g, wkI])) | (with_reducible refine condE_dec (fun g => ?_) (fun g => ?_) <;> try (exfalso; omega)) | (with_reducible refine condE_not (fun g => ?_) (fun g => ?_) <;> try (exfalso; omega)) | (simp -dsimp only [↓wkA, ↓wkE, ↓wkJ, wkB, ↓tt, Nat.reduceBEq, Nat.reduceEqDiff, ↓reduceIte, Nat.reduceLT, Array.toList, Nat.reduceAdd, Nat.reduceMul, Int.reduceToNat, Int.reducePow, UInt8.reduceToNat]) | (simp -dsimp (disch := first | assumption | omega) only [dec_t, dec_f])
      | (refine And.intro ?_ ?_
         · first | omega | decide | (simp (disch := omega) only [wkW, Int.reduceToNat, Int.reducePow] <;> omega) | (simp <;> omega)) | (simp (disch := omega) only [wkW, Int.reduceToNat, Int.reducePow]) | fail
    exact Again.mk m (m1F S Y d zr (i + 1)) ⟨0, [], [], []⟩ (by omega) (Sub.norm ⟨rfl, rfl, rfl, rfl, rfl, trivial⟩ trivial (Nat.zero_le _) rfl rfl rfl rfl (tyOk_spec rfl)) ⟨i + 1, by omega, rfl, rfl⟩
  | zero =>
    have e1 : decide (0 < Y - (i : Int)) = false := decide_eq_false (by omega)
    have e2 : Y - (i : Int) = X := by rw [hX]; split <;> omega
    have e3 : i = Y.toNat := by omega
    subst e3
    rw [e2] at e1
    simp only [m1F, e2]
    repeat' first
      | (with_reducible first | refine PW.seq ?_ | refine PW.block ?_ | refine PW.fork ?_ | refine PW.skip ?_ | refine PW.exit ?_ | refine PW.ret ?_ | refine PW.scope ?_ | refine PW.label ?_ | refine PW.goto ?_) | (simp only [e1])
      | (with_reducible refine PW.region ttOk ?_ ?_
         · rfl)
      | (with_reducible refine PW.regionD ttOk mixed ?_ ?_ ?_
         · rfl
         · rfl) | (with_reducible refine ifW_dec (fun g => ?_) (fun g => ?_) <;> first | (exfalso; omega) | (simp -dsimp only [g, wkI])) | (with_reducible refine condE_dec (fun g => ?_) (fun g => ?_) <;> try (exfalso; omega)) | (with_reducible refine condE_not (fun g => ?_) (fun g => ?_) <;> try (exfalso; omega)) | (simp -dsimp only [↓wkA, ↓wkE, ↓wkJ, wkB, ↓tt, Nat.reduceBEq, Nat.reduceEqDiff, ↓reduceIte, Nat.reduceLT, Array.toList, Nat.reduceAdd, Nat.reduceMul, Int.reduceToNat, Int.reducePow, UInt8.reduceToNat]) | (simp -dsimp (disch := first | assumption | omega) only [dec_t, dec_f])
      | (refine And.intro ?_ ?_
         · first | omega | decide | (simp (disch := omega) only [wkW, Int.reduceToNat, Int.reducePow] <;> omega) | (simp <;> omega)) | (simp (disch := omega) only [wkW, Int.reduceToNat, Int.reducePow]) | fail
    refine PW.loopA (fun m F H => ∃ j : Nat, j + m = zz ∧ F = m2F S X d zr Y.toNat j ∧ H = ⟨0, [], [], []⟩) zz (m2F S X d zr Y.toNat 0) ⟨0, [], [], []⟩ (Sub.norm ⟨rfl, rfl, rfl, rfl, rfl, rfl, trivial⟩ trivial (Nat.zero_le _) rfl rfl rfl rfl (tyOk_spec rfl)) ⟨0, by omega, rfl, rfl⟩ ?_
    rintro m F H ⟨j, hj, rfl, rfl⟩
    have hwl := wd_len S (Y.toNat + j)
    cases m with
    | succ m =>
      have e4 : decide ((j : Int) < (zz : Int)) = true := decide_eq_true (by omega)
      have v1 : IntKind.wrap .i64 ((j : Int) + 1) = ((j + 1 : Nat) : Int) := wrap_i64 (by omega)
      repeat' first
        | (with_reducible first | refine PW.seq ?_ | refine PW.block ?_ | refine PW.fork ?_ | refine PW.skip ?_ | refine PW.exit ?_ | refine PW.ret ?_ | refine PW.scope ?_ | refine PW.label ?_ | refine PW.goto ?_) | (simp only [e4, v1, hz, w10])
        | (with_reducible refine PW.region ttOk ?_ ?_
           · rfl)
        | (with_reducible refine PW.regionD ttOk mixed ?_ ?_ ?_
           · rfl
           · rfl) | (with_reducible refine ifW_dec (fun g => ?_) (fun g => ?_) <;> first | (exfalso; omega) | (simp -dsimp only [g, wkI])) | (with_reducible refine condE_dec (fun g => ?_) (fun g => ?_) <;> try (exfalso; omega)) | (with_reducible refine condE_not (fun g => ?_) (fun g => ?_) <;> try (exfalso; omega)) | (simp -dsimp only [↓wkA, ↓wkE, ↓wkJ, wkB, ↓tt, Nat.reduceBEq, Nat.reduceEqDiff, ↓reduceIte, Nat.reduceLT, Array.toList, Nat.reduceAdd, Nat.reduceMul, Int.reduceToNat, Int.reducePow, UInt8.reduceToNat]) | (simp -dsimp (disch := first | assumption | omega) only [dec_t, dec_f])
        | (refine And.intro ?_ ?_
           · first | omega | decide | (simp (disch := omega) only [wkW, Int.reduceToNat, Int.reducePow] <;> omega) | (simp <;> omega)) | (simp (disch := omega) only [wkW, Int.reduceToNat, Int.reducePow]) | fail
      exact Again.mk m (m2F S X d zr Y.toNat (j + 1)) ⟨0, [], [], []⟩ (by omega) (Sub.norm ⟨rfl, rfl, rfl, rfl, rfl, rfl, trivial⟩ trivial (Nat.zero_le _) rfl rfl rfl rfl (tyOk_spec rfl)) ⟨j + 1, by omega, rfl, rfl⟩
    | zero =>
      have e4 : decide ((j : Int) < (zz : Int)) = false := decide_eq_false (by omega)
      have e5 : j = zz := by omega
      subst e5
      have v1 : IntKind.wrap .i64 (X - (j : Int)) = X - j := wrap_i64 (by rw [hX]; split <;> omega)
      have v2 : IntKind.wrap .i64 (X - (j : Int) - 1) = X - j - 1 := wrap_i64 (by rw [hX]; split <;> omega)
      repeat' first
        | (with_reducible first | refine PW.seq ?_ | refine PW.block ?_ | refine PW.fork ?_ | refine PW.skip ?_ | refine PW.exit ?_ | refine PW.ret ?_ | refine PW.scope ?_ | refine PW.label ?_ | refine PW.goto ?_) | (simp only [e4, v1, v2, hz, w8, w10, d5])
        | (with_reducible refine PW.region ttOk ?_ ?_
           · rfl)
        | (with_reducible refine PW.regionD ttOk mixed ?_ ?_ ?_
           · rfl
           · rfl) | (with_reducible refine ifW_dec (fun g => ?_) (fun g => ?_) <;> first | (exfalso; omega) | (simp -dsimp only [g, wkI])) | (with_reducible refine condE_dec (fun g => ?_) (fun g => ?_) <;> try (exfalso; omega)) | (with_reducible refine condE_not (fun g => ?_) (fun g => ?_) <;> try (exfalso; omega)) | (simp -dsimp only [↓wkA, ↓wkE, ↓wkJ, wkB, ↓tt, Nat.reduceBEq, Nat.reduceEqDiff, ↓reduceIte, Nat.reduceLT, Array.toList, Nat.reduceAdd, Nat.reduceMul, Int.reduceToNat, Int.reducePow, UInt8.reduceToNat]) | (refine call_by (c14) (views_data rfl) (by simp only [okViews, okView, okViews0, okView0, and_self]) rfl ?_) | (simp -dsimp (disch := first | assumption | omega) only [dec_t, dec_f])
        | (refine And.intro ?_ ?_
           · first | omega | decide | (simp (disch := omega) only [wkW, Int.reduceToNat, Int.reducePow] <;> omega) | (simp <;> omega)) | (simp (disch := omega) only [wkW, Int.reduceToNat, Int.reducePow]) | fail
theorem reads_ok {s : List Int} {v : Nat} {y : Int} (h : nuOk s) (hl : s.length ≤ 281474976710656) (hv : nuV s = v) (he : nuE s = s.length) (hy : y = (v : Int)) : Meets Tryz.prog 38 [.str s, .int .u64 y] (.bool true) := by
  have g := strtod_parse h hl
  rw [hv, he] at g
  refine law_reads s _ _ y true g ?_
  rw [hy, decide_eq_true (rfl : (v : Int) = v), decide_eq_true rfl]
  rfl
theorem txt_len {M : Nat} {k : Int} (hk : -1200 ≤ k ∧ k ≤ 1100) (hM : M < 2 ^ 200) : (txt M k).length ≤ 10000 := by
  unfold txt
  by_cases h0 : 0 ≤ k
  · rw [if_pos h0]
    refine Nat.le_trans (written_short (n := 1000) (Nat.lt_of_lt_of_le (Nat.mul_lt_mul_of_lt_of_le hM (Nat.pow_le_pow_right (by decide) (show k.toNat ≤ 1100 by omega)) (Nat.two_pow_pos _)) (by decide +kernel)) (by decide)) (by decide)
  · rw [if_neg h0]
    have l1 := written_short (v := M * 5 ^ (-k).toNat) (n := 1000) (Nat.lt_of_lt_of_le (Nat.mul_lt_mul_of_lt_of_le hM (Nat.pow_le_pow_right (by decide) (show (-k).toNat ≤ 1200 by omega)) (Nat.pow_pos (by decide))) (by decide +kernel)) (by decide)
    have l2 := written_short (v := (-k).toNat) (n := 4) (by omega) (by decide)
    rw [List.length_append, List.length_cons, List.length_cons]
    omega
theorem mid_bounds0 {x p q t : Nat} (h : x + 1 ≤ t) (h2 : t * p < q) (h3 : 1 ≤ p) : x * p + 1 < q ∧ x * p - 1 < q ∧ x * p < q := by
  have h4 := Nat.mul_le_mul_right p h
  rw [Nat.add_mul, Nat.one_mul] at h4
  generalize x * p = y at *
  generalize t * p = r at *
  omega
theorem mid_bounds {x : Nat} (h : x < 2 ^ 54) : x * 2 ^ 100 + 1 < 2 ^ 160 ∧ x * 2 ^ 100 - 1 < 2 ^ 160 ∧ x * 2 ^ 100 < 2 ^ 160 :=
  mid_bounds0 (p := 2 ^ 100) (q := 2 ^ 160) (t := 2 ^ 54) h (by decide) (by decide)
theorem strtod_middles (d0 zr : Nat) (hd0 : d0 < 18446744073709551616) (hzr : zr < 65536) : Meets Tryz.prog 12 [.int .u64 (d0 : Int), .int .u16 (zr : Int)] (.bool true) := by
  obtain ⟨d, hd⟩ : ∃ d, d0 % 9223372036854775808 = d := ⟨_, rfl⟩
  have hd1 : Int.tmod (d0 : Int) 9223372036854775808 = (d : Int) := by rw [tmod_pos (by omega)]; omega
  by_cases hinf : d < 9218868437227405312
  case neg => exact middles_great _ _ _ hd1 (by omega)
  have hlt : d < infB := hinf
  obtain ⟨p0, p1, p2, p3, p4, p5⟩ := pos_parts hlt
  have hz1 : Int.tmod (zr : Int) 2000 = ((zr % 2000 : Nat) : Int) := by rw [tmod_pos (by omega)]; omega
  have hdec := ieee_decode d (by omega)
  unfold partsP at hdec
  have b54 : (2 * mantD d + 1) < 2 ^ 54 := by show _ < 18014398509481984; omega
  have b200 : ∀ {x : Nat}, x < 2 ^ 160 → x < 2 ^ 200 := fun h => Nat.lt_trans h (by decide)
  have bm : mantD d < 2 ^ 160 := Nat.lt_trans p2 (by decide)
  have bM : 2 * mantD d + 1 < 2 ^ 160 := Nat.lt_trans b54 (by decide)
  obtain ⟨bF, bL, bP⟩ := mid_bounds b54
  have bP1 : 1 ≤ (2 * mantD d + 1) * 2 ^ 100 := Nat.mul_pos (by omega) (Nat.two_pow_pos 100)
  have hk0 : -1200 ≤ expD d ∧ expD d ≤ 1100 := by omega
  have hk1 : -1200 ≤ expD d - 1 ∧ expD d - 1 ≤ 1100 := by omega
  have hk2 : -1200 ≤ expD d - 101 ∧ expD d - 101 ≤ 1100 := by omega
  obtain ⟨a1, a2, a3, a4, a5⟩ := txt_lit (M := mantD d) hk0
  obtain ⟨m1, m2, m3, m4, m5⟩ := txt_lit (M := 2 * mantD d + 1) hk1
  obtain ⟨l1, l2, l3, l4, l5⟩ := txt_lit (M := (2 * mantD d + 1) * 2 ^ 100 - 1) hk2
  obtain ⟨u1, u2, u3, u4, u5⟩ := txt_lit (M := (2 * mantD d + 1) * 2 ^ 100 + 1) hk2
  rw [bin_exact hlt] at a3
  rw [bin_mid hlt] at m3
  rw [bin_low hlt] at l3
  rw [bin_high hlt] at u3
  have la := txt_len (M := mantD d) hk0 (b200 bm)
  have lm := txt_len (M := 2 * mantD d + 1) hk1 (b200 bM)
  have ll := txt_len (M := (2 * mantD d + 1) * 2 ^ 100 - 1) hk2 (b200 bL)
  have lu := txt_len (M := (2 * mantD d + 1) * 2 ^ 100 + 1) hk2 (b200 bF)
  have hs160 : ∀ {x : Nat}, x < 2 ^ 160 → x < NMax := fun h => nmax_of h (by decide)
  -- the sign ahead
  have hg : Meets Tryz.prog 38 [.str (45 :: txt (mantD d) (expD d)), .int .u64 ((d + 9223372036854775808 : Nat) : Int)] (.bool true) := by
    have h1 := a5.1
    have h2 := a5.2
    obtain ⟨q1, q2⟩ := same_sign (s := txt (mantD d) (expD d)) (c := 45) (.inr rfl) (by unfold blB; rw [decide_eq_false (by omega), decide_eq_false (show ¬ (txt (mantD d) (expD d)).getD 0 0 ≤ 13 by omega), Bool.and_false]; rfl) (by omega) (by omega)
    refine reads_ok (q1.ok.2 a1) (by rw [List.length_cons]; omega) (v := d + 9223372036854775808) ?_ (by rw [q1.e, a4, List.length_cons]; omega) rfl
    have : nuV (txt (mantD d) (expD d)) = rdec (num 10 (nuD (txt (mantD d) (expD d)))) (nuX (txt (mantD d) (expD d))) := by unfold nuV dblV; rw [a2, signed_f]
    unfold nuV dblV
    rw [q1.d, q1.x, q2, ← this, a3, show decide ((45 : Int) = 45) = true from rfl, signed_t]
  -- the middle's normal form
  have hN := nu_normal m1 (by omega)
  have hmid := mid_normal (M := 2 * mantD d + 1) (by omega) hk1
  have hsl := nuS_le m1
  obtain ⟨td, tn, ty, t0, tends⟩ := normal_iff.1 hN
  have hpos : num 10 (nuS (txt (2 * mantD d + 1) (expD d - 1))) ≠ 0 := fun e => by
    rcases hmid with ⟨_, _, h⟩ | ⟨_, _, h⟩
    · rw [e, Nat.zero_mul] at h
      have := Nat.mul_pos (show 0 < 2 * mantD d + 1 by omega) (Nat.two_pow_pos (expD d - 1).toNat)
      omega
    · rw [e] at h
      have := Nat.mul_pos (show 0 < 2 * mantD d + 1 by omega) (Nat.pow_pos (n := (-(expD d - 1)).toNat) (show 0 < 5 by decide))
      omega
  have hne48 : nuS (txt (2 * mantD d + 1) (expD d - 1)) ≠ [48] := fun e => hpos (by rw [e]; exact num_zero 10)
  have hlow := num_low td (tends hne48).1 tn
  have hlp := List.length_pos_iff.2 tn
  have hln : ((nuS (txt (2 * mantD d + 1) (expD d - 1))).length : Int) + nuY (txt (2 * mantD d + 1) (expD d - 1)) ≤ 400 ∧ -2000 ≤ nuY (txt (2 * mantD d + 1) (expD d - 1)) := by
    rcases hmid with ⟨h1, h2, h3⟩ | ⟨h1, h2, h3⟩
    · refine ⟨?_, by omega⟩
      have b1 : (2 * mantD d + 1) * 2 ^ (expD d - 1).toNat < 10 ^ 310 := Nat.lt_of_lt_of_le (Nat.mul_lt_mul_of_lt_of_le b54 (Nat.pow_le_pow_right (by decide) (show (expD d - 1).toNat ≤ 970 by omega)) (Nat.two_pow_pos _)) (by decide +kernel)
      rw [← h3] at b1
      have b2 : 10 ^ ((nuS (txt (2 * mantD d + 1) (expD d - 1))).length - 1 + (nuY (txt (2 * mantD d + 1) (expD d - 1))).toNat) < 10 ^ 310 := by
        rw [Nat.pow_add]
        exact Nat.lt_of_le_of_lt (Nat.mul_le_mul_right _ hlow) b1
      have := (Nat.pow_lt_pow_iff_right (show 1 < 10 by decide)).1 b2
      omega
    · refine ⟨?_, by omega⟩
      have b1 : (2 * mantD d + 1) * 5 ^ (-(expD d - 1)).toNat < 10 ^ 17 * 10 ^ (-(expD d - 1)).toNat := Nat.mul_lt_mul_of_lt_of_le (Nat.lt_of_lt_of_le b54 (by decide)) (Nat.pow_le_pow_left (by decide) _) (Nat.pow_pos (by decide))
      rw [← h3, ← Nat.pow_add] at b1
      have := (Nat.pow_lt_pow_iff_right (show 1 < 10 by decide)).1 (Nat.lt_of_le_of_lt hlow b1)
      omega
  have g13 := scan_number m1 (by omega)
  rw [m4] at g13
  -- the far one
  have h14 := bin_long hlt (P := num 10 (nuS (txt (2 * mantD d + 1) (expD d - 1)))) (Y := nuY (txt (2 * mantD d + 1) (expD d - 1))) (hmid.imp id fun h => ⟨h.1, h.2.1, by rw [h.2.2]; congr 2; omega⟩) (zr % 2000) rfl rfl
  generalize hSe : nuS (txt (2 * mantD d + 1) (expD d - 1)) = S at *
  generalize hYe : nuY (txt (2 * mantD d + 1) (expD d - 1)) = Y at *
  have hwl := wd_len S (Y.toNat + zr % 2000)
  have hw1 : AllD (wd S (Y.toNat + zr % 2000) ++ [49]) := all_digs (digs_append (digs_all (wd_all td _)) (fun x hx => by rw [List.mem_singleton] at hx; subst hx; decide))
  have hwn : (wd S (Y.toNat + zr % 2000) ++ [49]).length = S.length + (Y.toNat + zr % 2000) + 1 := by rw [List.length_append, hwl]; rfl
  have hxr : -5000 ≤ (if 0 ≤ Y then 0 else Y) - ((zr % 2000 : Nat) : Int) - 1 ∧ (if 0 ≤ Y then 0 else Y) - ((zr % 2000 : Nat) : Int) - 1 ≤ 0 := by split <;> omega
  have g14 := strtod_exact false (s := wd S (Y.toNat + zr % 2000) ++ [49]) (x := (if 0 ≤ Y then 0 else Y) - ((zr % 2000 : Nat) : Int) - 1) ⟨by simp, ⟨by omega, by omega⟩, hw1, by rcases normX_le (x := (if 0 ≤ Y then 0 else Y) - ((zr % 2000 : Nat) : Int) - 1) hw1 with h | h <;> omega⟩ (by omega)
  unfold dblV at g14
  rw [num_append, wd_num, show (worth 49).toNat = 1 by decide, Nat.mul_assoc, ← Nat.pow_succ, h14, signed_f] at g14
  -- the calls
  have hmt : (d = 0 ∧ partsM d = 0 ∧ mantD d = 0 ∧ expD d = -1074) ∨ (d ≠ 0 ∧ partsM d = (mantD d : Int) ∧ partsE d = expD d ∧ mantD d ≠ 0) := by
    by_cases h0 : d = 0
    · subst h0
      exact .inl ⟨rfl, by decide, by decide, by decide⟩
    · have hcl : classD d = 1 ∨ classD d = 2 := by
        unfold classD
        rw [p0, if_neg h0]
        have := abs_parts d
        have := frac_lt d
        by_cases hf : fieldD d = 0
        · rw [if_pos hf]; exact .inl rfl
        · rw [if_neg hf, if_pos (by omega)]; exact .inr rfl
      exact .inr ⟨h0, by unfold partsM; rw [if_pos hcl], by unfold partsE; rw [if_pos hcl], fun e => h0 (p0 ▸ mantD_zero.1 e)⟩
  have g1 : Meets Tryz.prog 37 [.ints .u64 [partsM d], .int .i64 (expD d)] (.tup [.str (txt (mantD d) (expD d)), .bool true]) := by
    rcases hmt with ⟨h1, h2, h3, h4⟩ | ⟨h1, h2, h3, h4⟩
    · rw [h2, h3, h4]; exact text_none
    · have := law_text (M := mantD d) hk0 (b200 bm)
      rw [natL_single h4 (by omega)] at this
      rw [h2]
      exact this
  have hpm : partsM d = (mantD d : Int) := by rcases hmt with ⟨h1, h2, h3, h4⟩ | ⟨h1, h2, h3, h4⟩ <;> omega
  have g4 := law_text (M := 2 * mantD d + 1) hk1 (b200 bM)
  have g6 := shl_nat (u := 2 * mantD d + 1) (n := 100) (hs160 bM) (by decide) (hs160 bP)
  rw [natL_single (by omega) (by omega)] at g4 g6
  have one : natL 1 = [1] := natL_single (by decide) (by decide)
  have g7 := sub_nat (u := (2 * mantD d + 1) * 2 ^ 100) (v := 1) (hs160 bP) (hs160 (by decide)) bP1
  have g8 := add_nat (u := (2 * mantD d + 1) * 2 ^ 100) (v := 1) (hs160 bP) (hs160 (by decide)) (hs160 bF)
  rw [one] at g7 g8
  refine middles_walk _ _ _ (zr % 2000) hd1 hz1 (Nat.mod_lt _ (by decide)) (by omega) (classD d) (partsM d) (partsE d) (expD d) ((2 * mantD d : Nat) : Int) ((2 * mantD d + 1 : Nat) : Int) (expD d - 1) (expD d - 101) ((d % 2 : Nat) : Int) ((d + 9223372036854775808 : Nat) : Int) ((d + d % 2 : Nat) : Int) ((d + 1 : Nat) : Int) _ _ _ _ _ _ _ _ _ S Y ⟨hln.2, by omega⟩ (by omega) _ rfl hdec ?_ ?_ ?_ ?_ (wrap_i64 (by omega)) ?_ ?_ (wrap_i64 (by omega)) ?_ g1 (reads_ok a1 (by omega) a3 a4 rfl) hg g4 (reads_ok m1 (by omega) m3 m4 rfl) g6 g7 g8 (law_text hk2 (b200 bL)) (law_text hk2 (b200 bF)) (reads_ok l1 (by omega) l3 l4 rfl) (reads_ok u1 (by omega) u3 u4 rfl) g13 hln.1 (by omega) g14
  · rcases hmt with ⟨h1, h2, h3, h4⟩ | ⟨h1, h2, h3, h4⟩
    · exact .inl ⟨by omega, h4⟩
    · exact .inr ⟨by omega, h3⟩
  · rw [hpm, show 2 * (mantD d : Int) = ((2 * mantD d : Nat) : Int) by omega]; exact wrap_u64 (by omega)
  · exact wrap_u64 (by omega)
  · exact wrap_u64 (by omega)
  · rw [tmod_pos (by omega)]; omega
  · exact wrap_u64 (by omega)
  · exact wrap_u64 (by omega)
end Go.Proofs.YtbmhnjghpjkjpaaGreatDoor

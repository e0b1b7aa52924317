/- Contracts and laws that the row leans on, part 8: texts that were built one by one, laid together. -/
import Derived.Test.YtbmhnjghpjkjpaaDoorPart7
set_option maxHeartbeats 4000000
set_option maxRecDepth 4000
set_option exponentiation.threshold 300000
set_option linter.unusedVariables false
set_option linter.unusedSimpArgs false
namespace Go.Proofs.YtbmhnjghpjkjpaaDoor
open Go Go.PV

theorem worth_dig {x : Int} (h : isDig x) : ((worth x).toNat : Int) = x - 48 := by
  unfold worth
  rw [if_pos (show 48 ≤ x ∧ x ≤ 57 from h)]
  have := h.1
  omega

theorem numN_lt {s : List Int} (hd : AllD s) : ∀ i, i ≤ s.length → numN 10 s i < 10 ^ i
  | 0, _ => Nat.zero_lt_one
  | i + 1, h => by
    have h1 := numN_lt hd i (by omega)
    have h2 := worth_dig (hd i (by omega))
    have := (hd i (by omega)).2
    rw [numN, Nat.pow_succ]
    omega

theorem try_walk (neg : Bool) (s : List Int) (x : Int) (h1 : Meets Tryd.prog 40 [.agg [.bool neg, .str s, .int .i64 x]] (.tup [.agg [.bool neg, .str s, .int .i64 x], .int .i64 0])) (hs : s ≠ [48]) (hd : AllD s) (hx : InR x) (hsl : s.length ≤ 1000000000000)
    (w : Nat) (hw : numN 10 s (min s.length 19) = w) (R1 R2 A B : Int) (ok1 ok2 ka kb : Bool) (R R' : Int) (k : Bool)
    (hS : s.length ≤ 19 → Meets Tryd.prog 17 [.int .u64 (w : Int), .int .i64 x] (.tup [.int .u64 R1, .bool ok1])) (hT : s.length ≤ 19 → ok1 = false → Meets Tryd.prog 14 [.int .u64 (w : Int), .int .i64 x] (.tup [.int .u64 R2, .bool ok2]))
    (hA : 19 < s.length → Meets Tryd.prog 14 [.int .u64 (w : Int), .int .i64 (x + ((s.length : Int) - 19))] (.tup [.int .u64 A, .bool ka])) (hB : 19 < s.length → Meets Tryd.prog 14 [.int .u64 ((w + 1 : Nat) : Int), .int .i64 (x + ((s.length : Int) - 19))] (.tup [.int .u64 B, .bool kb]))
    (hor : k = true → ibits .or .u64 R (signW neg) = R') (hno : k = false → R' = 0)
    (hr : (s.length ≤ 19 → k = (ok1 || ok2) ∧ (ok1 = true → R = R1) ∧ (ok1 = false → ok2 = true → R = R2)) ∧ (19 < s.length → k = (ka && kb && decide (A = B)) ∧ (k = true → R = A))) :
    Meets Tryd.prog 19 [.agg [.bool neg, .str s, .int .i64 x]] (.tup [.int .u64 R', .bool k]) := by
  have d0 : decide (s = [48]) = false := decide_eq_false hs
  cases neg
  all_goals (refine meets_by ttOk Tryd.func19 Tryd.ntmps19 Tryd.results19 (by kernel_rfl) (c := _) rfl rfl rfl fun E => ?_; simp only [argsFrame])
  all_goals
    repeat' first
      | (with_reducible first | refine PW.seq ?_ | refine PW.block ?_ | refine PW.fork ?_ | refine PW.skip ?_ | refine PW.exit ?_ | refine PW.ret ?_ | refine PW.scope ?_ | refine PW.label ?_ | refine PW.goto ?_)
      | (simp only [d0])
      | (with_reducible refine PW.region ttOk ?_ ?_
         · rfl)
      | (refine PW.regionA ttOk mixed rfl rfl rfl rfl rfl rfl rfl ?_)
      | (with_reducible refine PW.regionD ttOk mixed ?_ ?_ ?_
         · rfl
         · rfl)
      | (with_reducible refine ifW_dec (fun g => ?_) (fun g => ?_) <;> first | (exfalso; omega) | (simp -dsimp only [g, wkI]))
      | (with_reducible refine condE_dec (fun g => ?_) (fun g => ?_) <;> try (exfalso; omega))
      | (with_reducible refine condE_not (fun g => ?_) (fun g => ?_) <;> try (exfalso; omega))
      | (simp -dsimp only [↓opsA_nil, ↓opsA_cons, same_self, and_true, true_and, ↓wkA, ↓wkE, ↓wkJ, wkB, ↓tt, Nat.reduceBEq, Nat.reduceEqDiff, ↓reduceIte, Nat.reduceLT, Array.toList, Nat.reduceAdd, Nat.reduceMul, Int.reduceToNat, Int.reducePow, UInt8.reduceToNat])
      | (refine call_by (h1) (views_data rfl) (by simp only [okViews, okView, okViews0, okView0, and_self]) rfl ?_)
      | (simp -dsimp (disch := first | assumption | omega) only [dec_t, dec_f])
      | (refine And.intro ?_ ?_
         · first | omega | decide | (simp (disch := omega) only [wkW, Int.reduceToNat, Int.reducePow] <;> omega) | (simp <;> omega))
      | (simp (disch := omega) only [wkW, Int.reduceToNat, Int.reducePow])
      | fail
  case' false => let ng : Bool := false
  case' true => let ng : Bool := true
  all_goals replace hor : k = true → ibits .or .u64 R (signW ng) = R' := hor
  all_goals (refine PW.loopA (fun m F H => ∃ i : Nat, i + m = min s.length 19 ∧ F = [(10, .int .i64 (i : Int)), (9, .int .i64 ((s.length : Int) - 19)), (8, .int .i64 x), (7, .int .u64 (numN 10 s i : Int)), (6, .int .u64 (signW ng)), (3, .bool false), (2, .int .u64 0), (1, .ptr 0 0 0)] ∧ H = ⟨2, [(0, .var [.bool ng, .str s, .int .i64 x]), (1, .var [.bool ng, .str s, .int .i64 x])], [], [(1, 42), (0, 42)]⟩) (min s.length 19) [(10, .int .i64 ((0 : Nat) : Int)), (9, .int .i64 ((s.length : Int) - 19)), (8, .int .i64 x), (7, .int .u64 ((0 : Nat) : Int)), (6, .int .u64 (signW ng)), (3, .bool false), (2, .int .u64 0), (1, .ptr 0 0 0)] ⟨2, [(0, .var [.bool ng, .str s, .int .i64 x]), (1, .var [.bool ng, .str s, .int .i64 x])], [], [(1, 42), (0, 42)]⟩ (Sub.norm ⟨rfl, rfl, rfl, rfl, rfl, rfl, rfl, rfl, trivial⟩ ⟨rfl, rfl, trivial⟩ (Nat.le_refl _) rfl rfl rfl rfl (tyOk_spec rfl)) ⟨0, by omega, rfl, rfl⟩ ?_)
  all_goals
    rintro m F H ⟨i, hi, rfl, rfl⟩
    clear_value ng
    have hb := numN_lt hd i (by omega)
    cases m with
    | zero =>
      have hw2 : numN 10 s i = w := by rw [show i = min s.length 19 by omega]; exact hw
      rw [hw2] at hb ⊢
      have hb2 : w < 10 ^ 19 := Nat.lt_of_lt_of_le hb (Nat.pow_le_pow_right (by decide) (by omega))
      rw [show (10 : Nat) ^ 19 = 10000000000000000000 by decide] at hb2
      clear hb hw hw2 hd
      by_cases h19 : s.length ≤ 19
      · have d4 : decide ((i : Int) < (s.length : Int)) = false := decide_eq_false (by omega)
        have d6 : decide ((s.length : Int) - 19 ≤ 0) = true := decide_eq_true (by omega)
        replace hS := hS h19
        obtain ⟨k0, k1, k2⟩ := hr.1 h19
        clear hA hB hr
        cases ok1 with
        | true =>
          obtain rfl := k1 rfl
          obtain rfl : k = true := k0
          replace hor := hor rfl
          repeat' first
            | (with_reducible first | refine PW.seq ?_ | refine PW.block ?_ | refine PW.fork ?_ | refine PW.skip ?_ | refine PW.exit ?_ | refine PW.ret ?_ | refine PW.scope ?_ | refine PW.label ?_ | refine PW.goto ?_)
            | (simp only [d4, d6, hor])
            | (with_reducible refine PW.region ttOk ?_ ?_
               · rfl)
            | (with_reducible refine PW.regionD ttOk mixed ?_ ?_ ?_
               · rfl
               · rfl)
            | (with_reducible refine ifW_dec (fun g => ?_) (fun g => ?_) <;> first | (exfalso; omega) | (simp -dsimp only [g, wkI]))
            | (with_reducible refine condE_dec (fun g => ?_) (fun g => ?_) <;> try (exfalso; omega))
            | (with_reducible refine condE_not (fun g => ?_) (fun g => ?_) <;> try (exfalso; omega))
            | (simp -dsimp only [↓wkA, ↓wkE, ↓wkJ, wkB, ↓tt, Nat.reduceBEq, Nat.reduceEqDiff, ↓reduceIte, Nat.reduceLT, Array.toList, Nat.reduceAdd, Nat.reduceMul, Int.reduceToNat, Int.reducePow, UInt8.reduceToNat])
            | (refine call_by (hS) (views_data rfl) ⟨trivial, trivial, trivial⟩ rfl ?_)
            | (simp -dsimp (disch := first | assumption | omega) only [dec_t, dec_f])
            | (refine And.intro ?_ ?_
               · first | omega | decide | (simp (disch := omega) only [wkW, Int.reduceToNat, Int.reducePow] <;> omega) | (simp <;> omega))
            | (simp (disch := omega) only [wkW, Int.reduceToNat, Int.reducePow])
            | fail
        | false =>
          replace hT := hT h19 rfl
          cases ok2 with
          | true =>
            obtain rfl := k2 rfl rfl
            obtain rfl : k = true := k0
            replace hor := hor rfl
            repeat' first
              | (with_reducible first | refine PW.seq ?_ | refine PW.block ?_ | refine PW.fork ?_ | refine PW.skip ?_ | refine PW.exit ?_ | refine PW.ret ?_ | refine PW.scope ?_ | refine PW.label ?_ | refine PW.goto ?_)
              | (simp only [d4, d6, hor])
              | (with_reducible refine PW.region ttOk ?_ ?_
                 · rfl)
              | (with_reducible refine PW.regionD ttOk mixed ?_ ?_ ?_
                 · rfl
                 · rfl)
              | (with_reducible refine ifW_dec (fun g => ?_) (fun g => ?_) <;> first | (exfalso; omega) | (simp -dsimp only [g, wkI]))
              | (with_reducible refine condE_dec (fun g => ?_) (fun g => ?_) <;> try (exfalso; omega))
              | (with_reducible refine condE_not (fun g => ?_) (fun g => ?_) <;> try (exfalso; omega))
              | (simp -dsimp only [↓wkA, ↓wkE, ↓wkJ, wkB, ↓tt, Nat.reduceBEq, Nat.reduceEqDiff, ↓reduceIte, Nat.reduceLT, Array.toList, Nat.reduceAdd, Nat.reduceMul, Int.reduceToNat, Int.reducePow, UInt8.reduceToNat])
              | (refine call_by (hS) (views_data rfl) ⟨trivial, trivial, trivial⟩ rfl ?_)
              | (refine call_by (hT) (views_data rfl) ⟨trivial, trivial, trivial⟩ rfl ?_)
              | (simp -dsimp (disch := first | assumption | omega) only [dec_t, dec_f])
              | (refine And.intro ?_ ?_
                 · first | omega | decide | (simp (disch := omega) only [wkW, Int.reduceToNat, Int.reducePow] <;> omega) | (simp <;> omega))
              | (simp (disch := omega) only [wkW, Int.reduceToNat, Int.reducePow])
              | fail
          | false =>
            obtain rfl : k = false := k0
            obtain rfl := hno rfl
            repeat' first
              | (with_reducible first | refine PW.seq ?_ | refine PW.block ?_ | refine PW.fork ?_ | refine PW.skip ?_ | refine PW.exit ?_ | refine PW.ret ?_ | refine PW.scope ?_ | refine PW.label ?_ | refine PW.goto ?_)
              | (simp only [d4, d6])
              | (with_reducible refine PW.region ttOk ?_ ?_
                 · rfl)
              | (with_reducible refine PW.regionD ttOk mixed ?_ ?_ ?_
                 · rfl
                 · rfl)
              | (with_reducible refine ifW_dec (fun g => ?_) (fun g => ?_) <;> first | (exfalso; omega) | (simp -dsimp only [g, wkI]))
              | (with_reducible refine condE_dec (fun g => ?_) (fun g => ?_) <;> try (exfalso; omega))
              | (with_reducible refine condE_not (fun g => ?_) (fun g => ?_) <;> try (exfalso; omega))
              | (simp -dsimp only [↓wkA, ↓wkE, ↓wkJ, wkB, ↓tt, Nat.reduceBEq, Nat.reduceEqDiff, ↓reduceIte, Nat.reduceLT, Array.toList, Nat.reduceAdd, Nat.reduceMul, Int.reduceToNat, Int.reducePow, UInt8.reduceToNat])
              | (refine call_by (hS) (views_data rfl) ⟨trivial, trivial, trivial⟩ rfl ?_)
              | (refine call_by (hT) (views_data rfl) ⟨trivial, trivial, trivial⟩ rfl ?_)
              | (simp -dsimp (disch := first | assumption | omega) only [dec_t, dec_f])
              | (refine And.intro ?_ ?_
                 · first | omega | decide | (simp (disch := omega) only [wkW, Int.reduceToNat, Int.reducePow] <;> omega) | (simp <;> omega))
              | (simp (disch := omega) only [wkW, Int.reduceToNat, Int.reducePow])
              | fail
      · have d4 : decide ((i : Int) < (s.length : Int)) = true := decide_eq_true (by omega)
        have d5 : decide ((i : Int) < 19) = false := decide_eq_false (by omega)
        have d6 : decide ((s.length : Int) - 19 ≤ 0) = false := decide_eq_false (by omega)
        have hx1 := hx.1
        have hx2 := hx.2
        have w1 : IntKind.wrap .i64 (x + ((s.length : Int) - 19)) = x + ((s.length : Int) - 19) := wrap_i64 (by omega)
        have w2 : IntKind.wrap .u64 ((w : Int) + 1) = ((w + 1 : Nat) : Int) := by rw [wrap_u64 (by omega)]; omega
        replace hA := hA (by omega)
        replace hB := hB (by omega)
        obtain ⟨k0, k1⟩ := hr.2 (by omega)
        clear hS hT hr
        by_cases hAB : A = B
        case' pos => have d7 : decide (A = B) = true := decide_eq_true hAB
        case' neg => have d7 : decide (A = B) = false := decide_eq_false hAB
        all_goals (rw [d7] at k0; cases ka <;> cases kb)
        all_goals clear hAB
        all_goals first
          | (obtain rfl : k = false := k0
             obtain rfl := hno rfl
             clear hor)
          | (obtain rfl : k = true := k0
             obtain rfl := k1 rfl
             replace hor := hor rfl)
        all_goals
          repeat' first
            | (with_reducible first | refine PW.seq ?_ | refine PW.block ?_ | refine PW.fork ?_ | refine PW.skip ?_ | refine PW.exit ?_ | refine PW.ret ?_ | refine PW.scope ?_ | refine PW.label ?_ | refine PW.goto ?_)
            | (simp only [d4, d5, d6, d7, w1, w2])
            | (with_reducible refine PW.region ttOk ?_ ?_
               · rfl)
            | (with_reducible refine PW.regionD ttOk mixed ?_ ?_ ?_
               · rfl
               · rfl)
            | (with_reducible refine ifW_dec (fun g => ?_) (fun g => ?_) <;> first | (exfalso; omega) | (simp -dsimp only [g, wkI]))
            | (with_reducible refine condE_dec (fun g => ?_) (fun g => ?_) <;> try (exfalso; omega))
            | (with_reducible refine condE_not (fun g => ?_) (fun g => ?_) <;> try (exfalso; omega))
            | (simp -dsimp only [↓wkA, ↓wkE, ↓wkJ, wkB, ↓tt, Nat.reduceBEq, Nat.reduceEqDiff, ↓reduceIte, Nat.reduceLT, Array.toList, Nat.reduceAdd, Nat.reduceMul, Int.reduceToNat, Int.reducePow, UInt8.reduceToNat])
            | (simp only [hor])
            | (refine call_by (hA) (views_data rfl) ⟨trivial, trivial, trivial⟩ rfl ?_)
            | (refine call_by (hB) (views_data rfl) ⟨trivial, trivial, trivial⟩ rfl ?_)
            | (simp -dsimp (disch := first | assumption | omega) only [dec_t, dec_f])
            | (refine And.intro ?_ ?_
               · first | omega | decide | (simp (disch := omega) only [wkW, Int.reduceToNat, Int.reducePow] <;> omega) | (simp <;> omega))
            | (simp (disch := omega) only [wkW, Int.reduceToNat, Int.reducePow])
            | fail
    | succ m =>
      have d4 : decide ((i : Int) < (s.length : Int)) = true := decide_eq_true (by omega)
      have d5 : decide ((i : Int) < 19) = true := decide_eq_true (by omega)
      have hb2 : numN 10 s i < 10 ^ 18 := Nat.lt_of_lt_of_le hb (Nat.pow_le_pow_right (by decide) (by omega))
      rw [show (10 : Nat) ^ 18 = 1000000000000000000 by decide] at hb2
      have hdi := hd i (by omega)
      have hwd := worth_dig hdi
      have hn : numN 10 s (i + 1) = numN 10 s i * 10 + (worth (s.getD i 0)).toNat := by rw [numN]
      have g1 := hdi.1
      have g2 := hdi.2
      have w0 : IntKind.wrap .u8 (s.getD i 0 - 48) = s.getD i 0 - 48 := by rw [IntKind.wrap_u8]; omega
      have w1 : IntKind.wrap .u64 (10 * (numN 10 s i : Int)) = 10 * (numN 10 s i : Int) := wrap_u64 (by omega)
      have w2 : IntKind.wrap .u64 (10 * (numN 10 s i : Int) + (s.getD i 0 - 48)) = (numN 10 s (i + 1) : Int) := by rw [wrap_u64 (by omega), hn]; omega
      have w3 : IntKind.wrap .i64 ((i : Int) + 1) = ((i + 1 : Nat) : Int) := by rw [wrap_i64 (by omega)]; omega
      have w4 : IntKind.wrap .u64 (s.getD i 0 - 48) = s.getD i 0 - 48 := wrap_u64 (by omega)
      obtain ⟨v', hv'⟩ : ∃ v', numN 10 s (i + 1) = v' := ⟨_, rfl⟩
      rw [hv'] at w2
      obtain ⟨v, hv⟩ : ∃ v, numN 10 s i = v := ⟨_, rfl⟩
      rw [hv] at w1 w2 ⊢
      repeat' first
        | (with_reducible first | refine PW.seq ?_ | refine PW.block ?_ | refine PW.fork ?_ | refine PW.skip ?_ | refine PW.exit ?_ | refine PW.ret ?_ | refine PW.scope ?_ | refine PW.label ?_ | refine PW.goto ?_)
        | (simp only [d4, d5, w0, w1, w2, w3, w4, Int.toNat_natCast])
        | (with_reducible refine PW.region ttOk ?_ ?_
           · rfl)
        | (with_reducible refine PW.regionD ttOk mixed ?_ ?_ ?_
           · rfl
           · rfl)
        | (with_reducible refine ifW_dec (fun g => ?_) (fun g => ?_) <;> first | (exfalso; omega) | (simp -dsimp only [g, wkI]))
        | (with_reducible refine condE_dec (fun g => ?_) (fun g => ?_) <;> try (exfalso; omega))
        | (with_reducible refine condE_not (fun g => ?_) (fun g => ?_) <;> try (exfalso; omega))
        | (simp -dsimp only [↓wkA, ↓wkE, ↓wkJ, wkB, ↓tt, Nat.reduceBEq, Nat.reduceEqDiff, ↓reduceIte, Nat.reduceLT, Array.toList, Nat.reduceAdd, Nat.reduceMul, Int.reduceToNat, Int.reducePow, UInt8.reduceToNat])
        | (simp -dsimp (disch := first | assumption | omega) only [dec_t, dec_f])
        | (refine And.intro ?_ ?_
           · first | omega | decide | (simp (disch := omega) only [wkW, Int.reduceToNat, Int.reducePow] <;> omega) | (simp <;> omega))
        | (simp (disch := omega) only [wkW, Int.reduceToNat, Int.reducePow])
        | fail
      exact Again.mk m [(10, .int .i64 ((i + 1 : Nat) : Int)), (9, .int .i64 ((s.length : Int) - 19)), (8, .int .i64 x), (7, .int .u64 (v' : Int)), (6, .int .u64 (signW ng)), (3, .bool false), (2, .int .u64 0), (1, .ptr 0 0 0)] ⟨2, [(0, .var [.bool ng, .str s, .int .i64 x]), (1, .var [.bool ng, .str s, .int .i64 x])], [], [(1, 42), (0, 42)]⟩ (by omega) (Sub.norm ⟨rfl, rfl, rfl, rfl, rfl, rfl, rfl, rfl, trivial⟩ ⟨rfl, rfl, trivial⟩ (Nat.le_refl _) rfl rfl rfl rfl (tyOk_spec rfl)) ⟨i + 1, by omega, by rw [hv'], rfl⟩
end Go.Proofs.YtbmhnjghpjkjpaaDoor
set_option maxHeartbeats 4000000
set_option maxRecDepth 4000
set_option exponentiation.threshold 300000
set_option linter.unusedVariables false
set_option linter.unusedSimpArgs false
namespace Go.Proofs.YtbmhnjghpjkjpaaDoor
open Go Go.PV

theorem two_shift {X Y e1 e2 f1 f2 : Nat} (h : X * 2 ^ e1 ≤ Y * 2 ^ e2) (he : e1 + f2 = e2 + f1) : X * 2 ^ f1 ≤ Y * 2 ^ f2 := by
  refine Nat.le_of_mul_le_mul_right (c := 2 ^ e1) ?_ (Nat.two_pow_pos _)
  have h2 := Nat.mul_le_mul_right (2 ^ f1) h
  rw [Nat.mul_assoc Y, ← Nat.pow_add, ← he, Nat.pow_add] at h2
  calc X * 2 ^ f1 * 2 ^ e1 = X * 2 ^ e1 * 2 ^ f1 := Nat.mul_right_comm ..
    _ ≤ Y * (2 ^ e1 * 2 ^ f2) := h2
    _ = Y * 2 ^ f2 * 2 ^ e1 := by ac_rfl

theorem five56 {m : Nat} (h : 56 ≤ m) : 128 < bitlen (5 ^ m) := by
  obtain ⟨n, hn, h1, h2, h3, _⟩ := five_bits m
  rw [hn]
  refine Nat.lt_of_not_le fun h4 => ?_
  have h5 : 2 ^ n ≤ 2 ^ 128 := Nat.pow_le_pow_right (by decide) h4
  have h6 : 5 ^ 56 ≤ 5 ^ m := Nat.pow_le_pow_right (by decide) h
  have h7 : (2 : Nat) ^ 128 < 5 ^ 56 := by decide
  omega
theorem five55' {m : Nat} (h : m ≤ 55) : bitlen (5 ^ m) ≤ 128 := bitlen_le (Nat.lt_of_lt_of_le (five55 h) (by decide))

theorem lt_up (F : Nat) {d : Nat} (h : 0 < d) : F < (F / d + 1) * d := by
  have h1 := Nat.div_add_mod F d
  have h2 := Nat.mod_lt F h
  rw [Nat.add_mul, Nat.one_mul, Nat.mul_comm (F / d)]
  omega
theorem odd_dvd {G : Nat} (ho : G % 2 = 1) (h1 : 1 < G) (n : Nat) (hd : G ∣ 2 ^ n) : False := by
  have hc : Nat.Coprime G 2 := by
    unfold Nat.Coprime
    rw [Nat.gcd_comm, Nat.gcd_rec, ho]
    decide
  have := Nat.Coprime.eq_one_of_dvd (hc.pow_right n) hd
  omega

theorem row_low (q : Int) : rowP q * (2 ^ (rowE q).toNat * 5 ^ (-q).toNat) ≤ 5 ^ q.toNat * 2 ^ (-rowE q).toNat := by
  unfold rowP rowE
  by_cases h : 0 ≤ q
  · rw [if_pos h, if_pos h, show (-q).toNat = 0 by omega, Nat.pow_zero, Nat.mul_one]
    generalize 5 ^ q.toNat = F
    by_cases hb : bitlen F ≤ 128
    · rw [if_pos hb, show ((bitlen F : Int) - 128).toNat = 0 by omega, show (-((bitlen F : Int) - 128)).toNat = 128 - bitlen F by omega, Nat.pow_zero, Nat.mul_one]
      exact Nat.le_refl _
    · rw [if_neg hb, show ((bitlen F : Int) - 128).toNat = bitlen F - 128 by omega, show (-((bitlen F : Int) - 128)).toNat = 0 by omega, Nat.pow_zero, Nat.mul_one]
      exact Nat.div_mul_le_self ..
  · rw [if_neg h, if_neg h, show q.toNat = 0 by omega, Nat.pow_zero, Nat.one_mul]
    generalize 5 ^ (-q).toNat = G
    rw [show (-((bitlen G : Int) + 127)).toNat = 0 by omega, show (-(-((bitlen G : Int) + 127))).toNat = bitlen G + 127 by omega, Nat.pow_zero, Nat.one_mul]
    exact Nat.div_mul_le_self ..
theorem row_high (q : Int) : 5 ^ q.toNat * 2 ^ (-rowE q).toNat < (rowP q + 1) * (2 ^ (rowE q).toNat * 5 ^ (-q).toNat) := by
  unfold rowP rowE
  by_cases h : 0 ≤ q
  · rw [if_pos h, if_pos h, show (-q).toNat = 0 by omega, Nat.pow_zero, Nat.mul_one]
    generalize 5 ^ q.toNat = F
    by_cases hb : bitlen F ≤ 128
    · rw [if_pos hb, show ((bitlen F : Int) - 128).toNat = 0 by omega, show (-((bitlen F : Int) - 128)).toNat = 128 - bitlen F by omega, Nat.pow_zero, Nat.mul_one]
      exact Nat.lt_succ_self _
    · rw [if_neg hb, show ((bitlen F : Int) - 128).toNat = bitlen F - 128 by omega, show (-((bitlen F : Int) - 128)).toNat = 0 by omega, Nat.pow_zero, Nat.mul_one]
      exact lt_up _ (Nat.two_pow_pos _)
  · rw [if_neg h, if_neg h, show q.toNat = 0 by omega, Nat.pow_zero, Nat.one_mul]
    have hG := five_pos (-q).toNat
    generalize 5 ^ (-q).toNat = G at *
    rw [show (-((bitlen G : Int) + 127)).toNat = 0 by omega, show (-(-((bitlen G : Int) + 127))).toNat = bitlen G + 127 by omega, Nat.pow_zero, Nat.one_mul]
    exact lt_up _ hG
theorem row_exact {q : Int} (h : 0 ≤ q ∧ q ≤ 55) : rowP q * (2 ^ (rowE q).toNat * 5 ^ (-q).toNat) = 5 ^ q.toNat * 2 ^ (-rowE q).toNat := by
  unfold rowP rowE
  rw [if_pos h.1, if_pos h.1, show (-q).toNat = 0 by omega, Nat.pow_zero, Nat.mul_one]
  have hb := five55' (m := q.toNat) (by omega)
  generalize 5 ^ q.toNat = F at *
  rw [if_pos hb, show ((bitlen F : Int) - 128).toNat = 0 by omega, show (-((bitlen F : Int) - 128)).toNat = 128 - bitlen F by omega, Nat.pow_zero, Nat.mul_one]
theorem row_strict {q : Int} (h : ¬ (0 ≤ q ∧ q ≤ 55)) : rowP q * (2 ^ (rowE q).toNat * 5 ^ (-q).toNat) < 5 ^ q.toNat * 2 ^ (-rowE q).toNat := by
  refine Nat.lt_of_le_of_ne (row_low q) fun e => ?_
  unfold rowP rowE at e
  by_cases h0 : 0 ≤ q
  · have hb := five56 (m := q.toNat) (by omega)
    have ho := five_odd q.toNat
    rw [if_pos h0, if_pos h0, if_neg (by omega)] at e
    generalize 5 ^ q.toNat = F at *
    rw [show (-q).toNat = 0 by omega, Nat.pow_zero, Nat.mul_one, show ((bitlen F : Int) - 128).toNat = (bitlen F - 129) + 1 by omega, show (-((bitlen F : Int) - 128)).toNat = 0 by omega, Nat.pow_zero, Nat.mul_one, Nat.pow_succ, ← Nat.mul_assoc] at e
    omega
  · have ho := five_odd (-q).toNat
    have h5 : 1 < 5 ^ (-q).toNat := by
      obtain ⟨j, hj⟩ : ∃ j, (-q).toNat = j + 1 := ⟨(-q).toNat - 1, by omega⟩
      rw [hj, Nat.pow_succ]
      have := five_pos j
      omega
    rw [if_neg h0, if_neg h0, show q.toNat = 0 by omega, Nat.pow_zero, Nat.one_mul] at e
    generalize 5 ^ (-q).toNat = G at *
    rw [show (-((bitlen G : Int) + 127)).toNat = 0 by omega, show (-(-((bitlen G : Int) + 127))).toNat = bitlen G + 127 by omega, Nat.pow_zero, Nat.one_mul] at e
    have hd : G ∣ 2 ^ (bitlen G + 127) := ⟨_, (e.symm.trans (Nat.mul_comm ..))⟩
    exact odd_dvd ho h5 _ hd

theorem ten_split (n : Nat) : 10 ^ n = 2 ^ n * 5 ^ n := by rw [← Nat.mul_pow]
theorem step_low (w : Nat) (q : Int) : stepLo w q ≤ rdec w q := by
  unfold stepLo rbin rdec
  refine rndU_mono (Nat.two_pow_pos _) (ten_pos _) ?_
  have h := Nat.mul_le_mul_left w (row_low q)
  have h2 := two_shift (X := w * rowP q * 5 ^ (-q).toNat) (Y := w * 5 ^ q.toNat) (e1 := (rowE q).toNat) (e2 := (-rowE q).toNat) (f1 := (rowE q + q + 1074).toNat + (-q).toNat) (f2 := q.toNat + 1074 + (-(rowE q + q + 1074)).toNat) (by
    calc w * rowP q * 5 ^ (-q).toNat * 2 ^ (rowE q).toNat = w * (rowP q * (2 ^ (rowE q).toNat * 5 ^ (-q).toNat)) := by ac_rfl
      _ ≤ _ := h
      _ = _ := by ac_rfl) (by omega)
  rw [ten_split, ten_split]
  rw [Nat.pow_add, Nat.pow_add, Nat.pow_add] at h2
  calc _ = w * rowP q * 5 ^ (-q).toNat * (2 ^ (rowE q + q + 1074).toNat * 2 ^ (-q).toNat) := by ac_rfl
    _ ≤ _ := h2
    _ = _ := by ac_rfl
theorem step_high (w : Nat) (q : Int) : rdec w q ≤ stepHi w q := by
  unfold stepHi rbin rdec
  refine rndU_mono (ten_pos _) (Nat.two_pow_pos _) ?_
  have h := Nat.mul_le_mul_left w (Nat.le_of_lt (row_high q))
  have h2 := two_shift (Y := w * (rowP q + 1) * 5 ^ (-q).toNat) (X := w * 5 ^ q.toNat) (e2 := (rowE q).toNat) (e1 := (-rowE q).toNat) (f2 := (rowE q + q + 1074).toNat + (-q).toNat) (f1 := q.toNat + 1074 + (-(rowE q + q + 1074)).toNat) (by
    calc w * 5 ^ q.toNat * 2 ^ (-rowE q).toNat = w * (5 ^ q.toNat * 2 ^ (-rowE q).toNat) := by ac_rfl
      _ ≤ _ := h
      _ = _ := by ac_rfl) (by omega)
  rw [ten_split, ten_split]
  rw [Nat.pow_add, Nat.pow_add, Nat.pow_add] at h2
  calc _ = w * 5 ^ q.toNat * (2 ^ q.toNat * 2 ^ 1074 * 2 ^ (-(rowE q + q + 1074)).toNat) := by ac_rfl
    _ ≤ _ := h2
    _ = _ := by ac_rfl
theorem step_exact (w : Nat) {q : Int} (hq : 0 ≤ q ∧ q ≤ 55) : stepLo w q = rdec w q := by
  refine Nat.le_antisymm (step_low w q) ?_
  unfold stepLo rbin rdec
  refine rndU_mono (ten_pos _) (Nat.two_pow_pos _) ?_
  have h := Nat.mul_le_mul_left w (Nat.le_of_eq (row_exact hq).symm)
  have h2 := two_shift (Y := w * rowP q * 5 ^ (-q).toNat) (X := w * 5 ^ q.toNat) (e2 := (rowE q).toNat) (e1 := (-rowE q).toNat) (f2 := (rowE q + q + 1074).toNat + (-q).toNat) (f1 := q.toNat + 1074 + (-(rowE q + q + 1074)).toNat) (by
    calc w * 5 ^ q.toNat * 2 ^ (-rowE q).toNat = w * (5 ^ q.toNat * 2 ^ (-rowE q).toNat) := by ac_rfl
      _ ≤ _ := h
      _ = _ := by ac_rfl) (by omega)
  rw [ten_split, ten_split]
  rw [Nat.pow_add, Nat.pow_add, Nat.pow_add] at h2
  calc _ = w * 5 ^ q.toNat * (2 ^ q.toNat * 2 ^ 1074 * 2 ^ (-(rowE q + q + 1074)).toNat) := by ac_rfl
    _ ≤ _ := h2
    _ = _ := by ac_rfl
theorem step_right {w : Nat} {q : Int} (h : stepOk w q) : stepV w q = rdec w q := by
  unfold stepV
  by_cases h0 : w = 0
  · rw [if_pos h0, h0, rdec_zero]
  · rw [if_neg h0, if_pos h]
    rcases h with h | ⟨_, h | h⟩
    · exact absurd h h0
    · exact step_exact w h
    · exact Nat.le_antisymm (step_low w q) (h ▸ step_high w q)
end Go.Proofs.YtbmhnjghpjkjpaaDoor
set_option maxHeartbeats 4000000
set_option maxRecDepth 4000
set_option exponentiation.threshold 300000
set_option linter.unusedVariables false
set_option linter.unusedSimpArgs false
namespace Go.Proofs.YtbmhnjghpjkjpaaDoor
open Go Go.PV

def smallOk (w : Nat) (q : Int) : Prop := w ≤ 9007199254740992 ∧ -22 ≤ q ∧ q ≤ 22
instance (w : Nat) (q : Int) : Decidable (smallOk w q) := inferInstanceAs (Decidable (_ ∧ _))
def smallV (w : Nat) (q : Int) : Nat := if smallOk w q then rdec w q else 0
theorem quick_small_all (w : Nat) (q : Int) : Meets Tryd.prog 17 [.int .u64 (w : Int), .int .i64 q] (.tup [.int .u64 (smallV w q : Int), .bool (decide (smallOk w q))]) := by
  unfold smallV
  by_cases h : smallOk w q
  · rw [if_pos h, decide_eq_true h]
    exact quick_small w h.1 q h.2
  · rw [if_neg h, decide_eq_false h]
    refine small_no _ _ ?_
    unfold smallOk at h
    omega

theorem rdec_mono' {v u : Nat} (h : v ≤ u) (x : Int) : rdec v x ≤ rdec u x :=
  rdec_mono (Nat.mul_le_mul_right _ (Nat.mul_le_mul_right _ h))
theorem digs_all {s : List Int} (h : AllD s) : Digs s := fun x hx => by
  obtain ⟨i, hi, rfl⟩ := List.mem_iff_getElem.1 hx
  have := h i hi
  rw [List.getD_eq_getElem?_getD, List.getElem?_eq_getElem hi] at this
  exact this
def NormalD (s : List Int) (x : Int) : Prop := NormOk s x ∧ normS s = s ∧ normX s x = x
def tryK (s : List Int) (x : Int) : Prop := s = [48] ∨ (s ≠ [48] ∧ s.length ≤ 19 ∧ (smallOk (num 10 s) x ∨ stepOk (num 10 s) x)) ∨
  (19 < s.length ∧ stepOk (num 10 (s.take 19)) (x + ((s.length : Int) - 19)) ∧ stepOk (num 10 (s.take 19) + 1) (x + ((s.length : Int) - 19)) ∧ stepV (num 10 (s.take 19)) (x + ((s.length : Int) - 19)) = stepV (num 10 (s.take 19) + 1) (x + ((s.length : Int) - 19)))
instance (s : List Int) (x : Int) : Decidable (tryK s x) := inferInstanceAs (Decidable (_ ∨ _))
def tryV (neg : Bool) (s : List Int) (x : Int) : Nat := if tryK s x then signed neg (rdec (num 10 s) x) else 0

theorem numN_take (s : List Int) : numN 10 s (min s.length 19) = num 10 (s.take 19) := by
  unfold num
  rw [List.length_take, Nat.min_comm]
  exact numN_congr 10 _ fun j hj => (getD_take' (by omega)).symm

theorem step_num {s : List Int} (hd : AllD s) : num 10 (s.take 19) < 10000000000000000000 := by
  rw [← numN_take]
  have h := numN_lt hd (min s.length 19) (Nat.min_le_left ..)
  exact Nat.lt_of_lt_of_le h (Nat.le_trans (Nat.pow_le_pow_right (by decide) (Nat.min_le_right ..)) (by decide))

theorem try_rdec {s : List Int} {x : Int} (hd : AllD s) (hl : 19 < s.length) (h1 : stepOk (num 10 (s.take 19)) (x + ((s.length : Int) - 19))) (h2 : stepOk (num 10 (s.take 19) + 1) (x + ((s.length : Int) - 19))) (h3 : stepV (num 10 (s.take 19)) (x + ((s.length : Int) - 19)) = stepV (num 10 (s.take 19) + 1) (x + ((s.length : Int) - 19))) :
    stepV (num 10 (s.take 19)) (x + ((s.length : Int) - 19)) = rdec (num 10 s) x := by
  rw [step_right h1] at h3 ⊢
  rw [step_right h2] at h3
  have hs := num_split 10 (s := s) (k := 19) (by omega)
  have hr := num_digs_lt (digs_drop (digs_all hd) 19)
  rw [List.length_drop] at hr
  rw [show x + ((s.length : Int) - 19) = x + ((s.length - 19 : Nat) : Int) by omega] at h3 ⊢
  rw [← rdec_scale] at h3 ⊢
  rw [← rdec_scale] at h3
  generalize num 10 (s.take 19) = w at *
  generalize num 10 (s.drop 19) = r at *
  generalize 10 ^ (s.length - 19) = t at *
  refine Nat.le_antisymm (rdec_mono' (by omega) x) ?_
  rw [h3]
  exact rdec_mono' (by rw [Nat.add_mul, Nat.one_mul]; omega) x

theorem quick_try (neg : Bool) {s : List Int} {x : Int} (h : NormalD s x) (hsl : s.length ≤ 1000000000000) : Meets Tryd.prog 19 [.agg [.bool neg, .str s, .int .i64 x]] (.tup [.int .u64 (tryV neg s x : Int), .bool (decide (tryK s x))]) := by
  have hn := scan_norm_ok neg h.1 hsl
  rw [h.2.1, h.2.2] at hn
  by_cases hs : s = [48]
  · subst hs
    have hk : tryK [48] x := .inl rfl
    have h1 := try_zero neg x hn
    unfold tryV
    rw [decide_eq_true hk, if_pos hk, num_zero, rdec_zero]
    cases neg
    · exact h1
    · rw [signed_t]; exact h1
  · have hd := h.1.2.2.1
    have hw := step_num hd
    by_cases hl : s.length ≤ 19
    · have e : s.take 19 = s := List.take_of_length_le hl
      rw [e] at hw
      have hok : tryK s x ↔ (smallOk (num 10 s) x ∨ stepOk (num 10 s) x) := ⟨fun hk => by
        rcases hk with hk | hk | hk
        · exact absurd hk hs
        · exact hk.2.2
        · exact absurd hk.1 (by omega), fun hk => .inr (.inl ⟨hs, hl, hk⟩)⟩
      refine try_walk neg s x hn hs hd h.1.2.1 hsl (num 10 s) (by rw [numN_take, e]) _ _ 0 0 _ _ false false ((if tryK s x then rdec (num 10 s) x else 0 : Nat) : Int) _ _ (fun _ => quick_small_all _ _) (fun _ _ => quick_step _ (by omega) _) (fun hh => by omega) (fun hh => by omega) (fun hk => ?_) (fun hk => ?_) ⟨fun _ => ⟨?_, fun h1 => ?_, fun h1 h2 => ?_⟩, fun hh => by omega⟩
      · have hk := of_decide_eq_true hk
        unfold tryV
        rw [if_pos hk, if_pos hk]
        exact or_signed neg (rdec_le _ _)
      · have hk := of_decide_eq_false hk
        unfold tryV
        rw [if_neg hk]
        rfl
      · rw [← Bool.decide_or]
        exact decide_eq_decide.2 hok
      · have h1 := of_decide_eq_true h1
        rw [if_pos (hok.2 (.inl h1))]
        unfold smallV
        rw [if_pos h1]
      · have h2 := of_decide_eq_true h2
        rw [if_pos (hok.2 (.inr h2)), step_right h2]
    · have hl : 19 < s.length := by omega
      have hok : tryK s x ↔ (stepOk (num 10 (s.take 19)) (x + ((s.length : Int) - 19)) ∧ stepOk (num 10 (s.take 19) + 1) (x + ((s.length : Int) - 19)) ∧ stepV (num 10 (s.take 19)) (x + ((s.length : Int) - 19)) = stepV (num 10 (s.take 19) + 1) (x + ((s.length : Int) - 19))) := ⟨fun hk => by
        rcases hk with hk | hk | hk
        · exact absurd hk hs
        · exact absurd hk.2.1 (by omega)
        · exact hk.2, fun hk => .inr (.inr ⟨hl, hk⟩)⟩
      refine try_walk neg s x hn hs hd h.1.2.1 hsl (num 10 (s.take 19)) (numN_take s) 0 0 _ _ false false _ _ ((if tryK s x then rdec (num 10 s) x else 0 : Nat) : Int) _ _ (fun hh => by omega) (fun hh => by omega) (fun _ => quick_step _ (by omega) _) (fun _ => quick_step _ (by omega) _) (fun hk => ?_) (fun hk => ?_) ⟨fun hh => by omega, fun _ => ⟨?_, fun hk => ?_⟩⟩
      · have hk := of_decide_eq_true hk
        unfold tryV
        rw [if_pos hk, if_pos hk]
        exact or_signed neg (rdec_le _ _)
      · have hk := of_decide_eq_false hk
        unfold tryV
        rw [if_neg hk]
        rfl
      · rw [← Bool.decide_and, ← Bool.decide_and]
        refine decide_eq_decide.2 (hok.trans ⟨fun hh => ⟨⟨hh.1, hh.2.1⟩, by rw [hh.2.2]⟩, fun hh => ⟨hh.1.1, hh.1.2, Int.ofNat_inj.1 hh.2⟩⟩)
      · have hk := of_decide_eq_true hk
        rw [if_pos hk]
        obtain ⟨h1, h2, h3⟩ := hok.1 hk
        rw [try_rdec hd hl h1 h2 h3]

end Go.Proofs.YtbmhnjghpjkjpaaDoor
set_option maxHeartbeats 4000000
set_option maxRecDepth 4000
set_option exponentiation.threshold 300000
set_option linter.unusedVariables false
set_option linter.unusedSimpArgs false
namespace Go.Proofs.YtbmhnjghpjkjpaaDoor
open Go Go.PV

theorem law_awake (res : PV) (hres : res = .bool true) : Meets Tryd.prog 7 [] res := by
  subst hres
  have h1 := quick_power 1 (by decide)
  rw [show ((rowP 1 / 18446744073709551616 : Nat) : Int) = 11529215046068469760 by decide +kernel, show ((rowP 1 % 18446744073709551616 : Nat) : Int) = 0 by decide +kernel, show rowE 1 = -125 by decide +kernel] at h1
  have e1 : rdec 3 (-1) = 4599075939470750515 := by decide +kernel
  have h2 : Meets Tryd.prog 17 [.int .u64 3, .int .i64 (-1)] (.tup [.int .u64 4599075939470750515, .bool true]) := by
    have := quick_small_all 3 (-1)
    unfold smallV at this
    rw [decide_eq_true (show smallOk 3 (-1) by decide), if_pos (show smallOk 3 (-1) by decide), e1] at this
    exact this
  have hk : stepOk 3 (-1) := .inr ⟨by decide, .inr (by decide +kernel)⟩
  have h3 : Meets Tryd.prog 14 [.int .u64 3, .int .i64 (-1)] (.tup [.int .u64 4599075939470750515, .bool true]) := by
    have := quick_step 3 (by decide) (-1)
    rw [decide_eq_true hk, step_right hk, e1] at this
    exact this
  have hn : NormalD [50, 53] (-1) := by
    refine ⟨⟨by decide, ⟨by decide, by decide⟩, fun j hj => ?_, by decide⟩, by decide, by decide⟩
    match j, hj with
    | 0, _ => decide
    | 1, _ => decide
    | j + 2, h => simp at h; omega
  have hk2 : tryK [50, 53] (-1) := .inr (.inl ⟨by decide, by decide, .inl (by decide)⟩)
  have h4 := quick_try true hn (by decide)
  unfold tryV at h4
  rw [decide_eq_true hk2, if_pos hk2, signed_t, show rdec (num 10 [50, 53]) (-1) + 9223372036854775808 = 13836183955189006336 by decide +kernel] at h4
  have h4 : Meets Tryd.prog 19 [.agg [.bool true, .str [50, 53], .int .i64 (-1)]] (.tup [.int .u64 13836183955189006336, .bool true]) := h4
  refine meets_by ttOk Tryd.func7 Tryd.ntmps7 Tryd.results7 (by kernel_rfl) (c := _) rfl rfl rfl fun E => ?_
  simp only [argsFrame]
  repeat' first
    | (with_reducible first | refine PW.seq ?_ | refine PW.block ?_ | refine PW.fork ?_ | refine PW.skip ?_ | refine PW.exit ?_ | refine PW.ret ?_ | refine PW.scope ?_ | refine PW.label ?_ | refine PW.goto ?_)
    | (with_reducible refine PW.region ttOk ?_ ?_
       · rfl)
    | (with_reducible refine PW.regionD ttOk mixed ?_ ?_ ?_
       · rfl
       · rfl)
    | (with_reducible refine ifW_dec (fun g => ?_) (fun g => ?_) <;> first | (exfalso; omega) | (simp -dsimp only [g, wkI]))
    | (with_reducible refine condE_dec (fun g => ?_) (fun g => ?_) <;> try (exfalso; omega))
    | (with_reducible refine condE_not (fun g => ?_) (fun g => ?_) <;> try (exfalso; omega))
    | (simp -dsimp only [↓wkA, ↓wkE, ↓wkJ, wkB, ↓tt, Nat.reduceBEq, Nat.reduceEqDiff, ↓reduceIte, Nat.reduceLT, Array.toList, Nat.reduceAdd, Nat.reduceMul, Int.reduceToNat, Int.reducePow, UInt8.reduceToNat])
    | (refine call_by (h1) (views_data rfl) ⟨trivial, trivial⟩ rfl ?_)
    | (refine call_by (h2) (views_data rfl) ⟨trivial, trivial, trivial⟩ rfl ?_)
    | (refine call_by (h3) (views_data rfl) ⟨trivial, trivial, trivial⟩ rfl ?_)
    | (refine call_by (h4) (views_data rfl) (by simp only [okViews, okView, okViews0, okView0, and_self]) rfl ?_)
    | (simp -dsimp (disch := first | assumption | omega) only [dec_t, dec_f])
    | (refine And.intro ?_ ?_
       · first | omega | decide | (simp (disch := omega) only [wkW, Int.reduceToNat, Int.reducePow] <;> omega) | (simp <;> omega))
    | (simp (disch := omega) only [wkW, Int.reduceToNat, Int.reducePow])
    | fail

end Go.Proofs.YtbmhnjghpjkjpaaDoor
set_option maxHeartbeats 4000000
set_option maxRecDepth 4000
set_option exponentiation.threshold 300000
set_option linter.unusedVariables false
set_option linter.unusedSimpArgs false
namespace Go.Proofs.YtbmhnjghpjkjpaaDoor
open Go Go.PV

theorem cut_at (i n : Nat) {E : Entry Tryd.prog} {nt : Nat} {ops : Array Oper} {d : Bool} {Q : Exit → PV.Frame → Heap → Prop} {F : PV.Frame} {H : Heap} (hl : n ≤ F.length) (F' : PV.Frame) (H' : Heap) (hs : Sub E nt F H F' H') (h : PW Tryd.prog E nt (.region i ops d) Q F' H') : PW Tryd.prog E nt (.region i ops d) Q F H := PW.sub hs h

theorem table_none (q : Int) (hq : q < -342 ∨ 308 < q) : Meets Tryd.prog 3 [.int .i64 q] (.bool true) := by
  have h1 := law_awake _ rfl
  have h2 := quick_power_err q hq
  rcases hq with hq | hq
  case' inl => have d1 : decide (q < -342) = true := decide_eq_true hq; have d2 := d1
  case' inr => have d1 : decide (q < -342) = false := decide_eq_false (by omega); have d2 : decide (308 < q) = true := decide_eq_true hq
  all_goals clear hq
  all_goals (refine meets_by ttOk Tryd.func3 Tryd.ntmps3 Tryd.results3 (by kernel_rfl) (c := _) rfl rfl rfl fun E => ?_; simp only [argsFrame])
  all_goals
    repeat' first
      | (with_reducible first | refine PW.seq ?_ | refine PW.block ?_ | refine PW.fork ?_ | refine PW.skip ?_ | refine PW.exit ?_ | refine PW.ret ?_ | refine PW.scope ?_ | refine PW.label ?_ | refine PW.goto ?_)
      | (simp only [d1, d2])
      | (with_reducible refine PW.region ttOk ?_ ?_
         · rfl)
      | (with_reducible refine PW.regionD ttOk mixed ?_ ?_ ?_
         · rfl
         · rfl)
      | (with_reducible refine ifW_dec (fun g => ?_) (fun g => ?_) <;> first | (exfalso; omega) | (simp -dsimp only [g, wkI]))
      | (with_reducible refine condE_dec (fun g => ?_) (fun g => ?_) <;> try (exfalso; omega))
      | (with_reducible refine condE_not (fun g => ?_) (fun g => ?_) <;> try (exfalso; omega))
      | (simp -dsimp only [↓wkA, ↓wkE, ↓wkJ, wkB, ↓tt, Nat.reduceBEq, Nat.reduceEqDiff, ↓reduceIte, Nat.reduceLT, Array.toList, Nat.reduceAdd, Nat.reduceMul, Int.reduceToNat, Int.reducePow, UInt8.reduceToNat])
      | (refine call_by (h1) (views_data rfl) trivial rfl ?_)
      | (refine call_by (h2) (views_data rfl) ⟨trivial, trivial⟩ rfl ?_)
      | (simp -dsimp (disch := first | assumption | omega) only [dec_t, dec_f])
      | (refine And.intro ?_ ?_
         · first | omega | decide | (simp (disch := omega) only [wkW, Int.reduceToNat, Int.reducePow] <;> omega) | (simp <;> omega))
      | (simp (disch := omega) only [wkW, Int.reduceToNat, Int.reducePow])
      | fail

theorem table_walk (q ex e' hi lo : Int) (a0 a1 a2 b1 b2 f1 f2 g : List Int) (c1 c2 : Int) (hq : -342 ≤ q ∧ q ≤ 308) (hE : -1000 ≤ ex ∧ ex ≤ 1000) (hhi : 9223372036854775808 ≤ hi) (h1 : Meets Tryd.prog 8 [.int .i64 q] (.tup [.int .u64 hi, .int .u64 lo, .int .i64 ex, .int .i64 0])) (h2 : Meets Tryd.prog 9 [.ints .u64 [lo, hi], .ints .u64 [1]] (.tup [.ints .u64 a0, .int .i64 0]))
    (hp : (0 ≤ q ∧ b1 = [lo, hi] ∧ a1 = a0 ∧ Meets Tryd.prog 10 [.int .i64 q] (.tup [.ints .u64 f1, .int .i64 0])) ∨ (q < 0 ∧ ex < 0 ∧ f1 = [1] ∧ Meets Tryd.prog 10 [.int .i64 e'] (.tup [.ints .u64 g, .int .i64 0]) ∧ IntKind.wrap .i64 (0 - q) = e' ∧ Meets Tryd.prog 11 [.ints .u64 [lo, hi], .ints .u64 g] (.tup [.ints .u64 b1, .int .i64 0]) ∧ Meets Tryd.prog 11 [.ints .u64 a0, .ints .u64 g] (.tup [.ints .u64 a1, .int .i64 0])))
    (hs : (0 ≤ ex ∧ f2 = f1 ∧ Meets Tryd.prog 12 [.ints .u64 b1, .int .i64 ex] (.tup [.ints .u64 b2, .int .i64 0]) ∧ Meets Tryd.prog 12 [.ints .u64 a1, .int .i64 ex] (.tup [.ints .u64 a2, .int .i64 0])) ∨ (ex < 0 ∧ b2 = b1 ∧ a2 = a1 ∧ ∃ e2, IntKind.wrap .i64 (0 - ex) = e2 ∧ Meets Tryd.prog 12 [.ints .u64 f1, .int .i64 e2] (.tup [.ints .u64 f2, .int .i64 0])))
    (h8 : Meets Tryd.prog 13 [.ints .u64 b2, .ints .u64 f2] (.int .i64 c1)) (h9 : Meets Tryd.prog 13 [.ints .u64 f2, .ints .u64 a2] (.int .i64 c2)) (hc : ((0 ≤ q ∧ q ≤ 55) ∧ c1 = 0) ∨ (¬ (0 ≤ q ∧ q ≤ 55) ∧ c1 = -1 ∧ c2 = -1)) :
    Meets Tryd.prog 3 [.int .i64 q] (.bool true) := by
  have h0 := law_awake _ rfl
  have d1 : decide (q < -342) = false := decide_eq_false (by omega)
  have d2 : decide (308 < q) = false := decide_eq_false (by omega)
  have d3 : decide (hi < 9223372036854775808) = false := decide_eq_false (by omega)
  have d4 : decide (ex < -1000) = false := decide_eq_false (by omega)
  have d5 : decide (1000 < ex) = false := decide_eq_false (by omega)
  have hc' : (decide (0 ≤ q) = true ∧ decide (q ≤ 55) = true ∧ c1 = 0) ∨ (decide (0 ≤ q) = true ∧ decide (q ≤ 55) = false ∧ c1 = -1 ∧ c2 = -1) ∨ (decide (0 ≤ q) = false ∧ decide (0 ≤ q) = false ∧ c1 = -1 ∧ c2 = -1) := by
    rcases hc with ⟨⟨h, h'⟩, h''⟩ | ⟨h, h'⟩
    · exact .inl ⟨decide_eq_true h, decide_eq_true h', h''⟩
    · by_cases hq0 : 0 ≤ q
      · exact .inr (.inl ⟨decide_eq_true hq0, decide_eq_false (by omega), h'⟩)
      · exact .inr (.inr ⟨decide_eq_false hq0, decide_eq_false hq0, h'⟩)
  have hE' : (decide (0 ≤ ex) = true ∧ 0 ≤ ex) ∨ (decide (0 ≤ ex) = false ∧ ex < 0) := by
    by_cases h : 0 ≤ ex
    · exact .inl ⟨decide_eq_true h, h⟩
    · exact .inr ⟨decide_eq_false h, by omega⟩
  rcases hp with ⟨hq0, rfl, rfl, h3⟩ | ⟨hq0, hE2, rfl, h3, w1, h4, h5⟩
  · replace hc' : decide (0 ≤ q) = true ∧ ((decide (q ≤ 55) = true ∧ c1 = 0) ∨ (decide (q ≤ 55) = false ∧ c1 = -1 ∧ c2 = -1)) := by
      rcases hc' with h | h | h
      · exact ⟨h.1, .inl h.2⟩
      · exact ⟨h.1, .inr h.2⟩
      · exact absurd hq0 (of_decide_eq_false h.1)
    obtain ⟨d6, hc'⟩ := hc'
    clear hq hhi hc hq0 hE
    rcases hE' with ⟨d8, hE0⟩ | ⟨d8, hE0⟩
    all_goals rcases hs with ⟨hE1, rfl, h6, h7⟩ | ⟨hE1, rfl, rfl, e2, w2, h6⟩
    all_goals first
      | (exfalso; omega)
      | skip
    all_goals clear hE0 hE1
    all_goals rcases hc' with ⟨d7, rfl⟩ | ⟨d7, rfl, rfl⟩
    all_goals (refine meets_by ttOk Tryd.func3 Tryd.ntmps3 Tryd.results3 (by kernel_rfl) (c := _) rfl rfl rfl fun E => ?_; simp only [argsFrame])
    all_goals
      repeat' first
        | (refine cut_at 10 12 (Nat.le_of_ble_eq_true rfl) [(8, .ints .u64 [lo, hi]), (6, .int .i64 ex), (2, .bool false), (0, .int .i64 q)] ⟨1, [], [], []⟩ (Sub.trans (toData 8 0 0 2 true rfl (Nat.le_refl _)) (Sub.norm ⟨rfl, rfl, rfl, rfl, trivial⟩ trivial (Nat.le_refl _) rfl rfl rfl rfl)) ?_)
        | (refine cut_at 12 6 (Nat.le_of_ble_eq_true rfl) [(11, .ints .u64 [1]), (9, .ints .u64 a1), (8, .ints .u64 [lo, hi]), (6, .int .i64 ex), (2, .bool false), (0, .int .i64 q)] ⟨3, [], [], []⟩ (Sub.trans (toData 11 2 0 1 true rfl (Nat.le_refl _)) (Sub.norm ⟨rfl, rfl, rfl, rfl, rfl, rfl, trivial⟩ trivial (Nat.le_refl _) rfl rfl rfl rfl)) ?_)
        | (with_reducible first | refine PW.seq ?_ | refine PW.block ?_ | refine PW.fork ?_ | refine PW.skip ?_ | refine PW.exit ?_ | refine PW.ret ?_ | refine PW.scope ?_ | refine PW.label ?_ | refine PW.goto ?_)
        | (simp only [d1, d2, d3, d4, d5, d6, d7, d8])
        | (simp only [w2])
        | (with_reducible refine PW.region ttOk ?_ ?_
           · rfl)
        | (with_reducible refine PW.regionD ttOk mixed ?_ ?_ ?_
           · rfl
           · rfl)
        | (with_reducible refine ifW_dec (fun g => ?_) (fun g => ?_) <;> first | (exfalso; omega) | (simp -dsimp only [g, wkI]))
        | (with_reducible refine condE_dec (fun g => ?_) (fun g => ?_) <;> try (exfalso; omega))
        | (with_reducible refine condE_not (fun g => ?_) (fun g => ?_) <;> try (exfalso; omega))
        | (simp -dsimp only [↓wkA, ↓wkE, ↓wkJ, wkB, ↓tt, Nat.reduceBEq, Nat.reduceEqDiff, ↓reduceIte, Nat.reduceLT, Array.toList, Nat.reduceAdd, Nat.reduceMul, Int.reduceToNat, Int.reducePow, UInt8.reduceToNat])
        | (refine call_by (h0) (views_data rfl) trivial rfl ?_)
        | (refine call_by (h1) (views_data rfl) ⟨trivial, trivial⟩ rfl ?_)
        | (refine call_drop (args' := [.ints .u64 [lo, hi], .ints .u64 [1]]) rfl h2 ⟨trivial, Nat.le_refl _, trivial⟩ rfl ?_; simp only [wkD, Nat.reduceBEq])
        | (refine call_by (h3) (views_data rfl) ⟨trivial, trivial⟩ rfl ?_)
        | (refine call_by (h6) (views_data rfl) ⟨trivial, trivial, trivial⟩ rfl ?_)
        | (refine call_by (h7) (views_data rfl) ⟨trivial, trivial, trivial⟩ rfl ?_)
        | (refine call_by (h8) (views_data rfl) ⟨trivial, trivial, trivial⟩ rfl ?_)
        | (refine call_by (h9) (views_data rfl) ⟨trivial, trivial, trivial⟩ rfl ?_)
        | (simp -dsimp (disch := first | assumption | omega) only [dec_t, dec_f])
        | (refine And.intro ?_ ?_
           · first | omega | decide | (simp (disch := omega) only [wkW, Int.reduceToNat, Int.reducePow] <;> omega) | (simp <;> omega))
        | (simp (disch := omega) only [wkW, Int.reduceToNat, Int.reducePow])
        | fail
  · rcases hE' with ⟨_, hE0⟩ | ⟨d8, hE0⟩
    · exfalso; omega
    rcases hs with ⟨hE1, _⟩ | ⟨hE1, rfl, rfl, e2, w2, h6⟩
    · exfalso; omega
    obtain ⟨d6, rfl, rfl⟩ : decide (0 ≤ q) = false ∧ c1 = -1 ∧ c2 = -1 := by
      rcases hc' with h | h | h
      · exact absurd (of_decide_eq_true h.1) (by omega)
      · exact absurd (of_decide_eq_true h.1) (by omega)
      · exact h.2
    clear hq hhi hc hc' hq0 hE hE0 hE1 hE2
    refine meets_by ttOk Tryd.func3 Tryd.ntmps3 Tryd.results3 (by kernel_rfl) (c := _) rfl rfl rfl fun E => ?_
    simp only [argsFrame]
    repeat' first
      | (refine cut_at 10 12 (Nat.le_of_ble_eq_true rfl) [(8, .ints .u64 [lo, hi]), (6, .int .i64 ex), (2, .bool false), (0, .int .i64 q)] ⟨1, [], [], []⟩ (Sub.trans (toData 8 0 0 2 true rfl (Nat.le_refl _)) (Sub.norm ⟨rfl, rfl, rfl, rfl, trivial⟩ trivial (Nat.le_refl _) rfl rfl rfl rfl)) ?_)
      | (refine cut_at 12 6 (Nat.le_of_ble_eq_true rfl) [(11, .ints .u64 [1]), (9, .ints .u64 a0), (8, .ints .u64 [lo, hi]), (6, .int .i64 ex), (2, .bool false), (0, .int .i64 q)] ⟨3, [], [], []⟩ (Sub.trans (toData 11 2 0 1 true rfl (Nat.le_refl _)) (Sub.norm ⟨rfl, rfl, rfl, rfl, rfl, rfl, trivial⟩ trivial (Nat.le_refl _) rfl rfl rfl rfl)) ?_)
      | (with_reducible first | refine PW.seq ?_ | refine PW.block ?_ | refine PW.fork ?_ | refine PW.skip ?_ | refine PW.exit ?_ | refine PW.ret ?_ | refine PW.scope ?_ | refine PW.label ?_ | refine PW.goto ?_)
      | (simp only [d1, d2, d3, d4, d5, d6, d8, w1, w2])
      | (with_reducible refine PW.region ttOk ?_ ?_
         · rfl)
      | (with_reducible refine PW.regionD ttOk mixed ?_ ?_ ?_
         · rfl
         · rfl)
      | (with_reducible refine ifW_dec (fun g => ?_) (fun g => ?_) <;> first | (exfalso; omega) | (simp -dsimp only [g, wkI]))
      | (with_reducible refine condE_dec (fun g => ?_) (fun g => ?_) <;> try (exfalso; omega))
      | (with_reducible refine condE_not (fun g => ?_) (fun g => ?_) <;> try (exfalso; omega))
      | (simp -dsimp only [↓wkA, ↓wkE, ↓wkJ, wkB, ↓tt, Nat.reduceBEq, Nat.reduceEqDiff, ↓reduceIte, Nat.reduceLT, Array.toList, Nat.reduceAdd, Nat.reduceMul, Int.reduceToNat, Int.reducePow, UInt8.reduceToNat])
      | (refine call_by (h0) (views_data rfl) trivial rfl ?_)
      | (refine call_by (h1) (views_data rfl) ⟨trivial, trivial⟩ rfl ?_)
      | (refine call_drop (args' := [.ints .u64 [lo, hi], .ints .u64 [1]]) rfl h2 ⟨trivial, Nat.le_refl _, trivial⟩ rfl ?_; simp only [wkD, Nat.reduceBEq])
      | (refine call_by (h3) (views_data rfl) ⟨trivial, trivial⟩ rfl ?_)
      | (refine call_by (h4) (views_data rfl) ⟨trivial, trivial, trivial⟩ rfl ?_)
      | (refine call_by (h5) (views_data rfl) ⟨trivial, trivial, trivial⟩ rfl ?_)
      | (refine call_by (h6) (views_data rfl) ⟨trivial, trivial, trivial⟩ rfl ?_)
      | (refine call_by (h8) (views_data rfl) ⟨trivial, trivial, trivial⟩ rfl ?_)
      | (refine call_by (h9) (views_data rfl) ⟨trivial, trivial, trivial⟩ rfl ?_)
      | (simp -dsimp (disch := first | assumption | omega) only [dec_t, dec_f])
      | (refine And.intro ?_ ?_
         · first | omega | decide | (simp (disch := omega) only [wkW, Int.reduceToNat, Int.reducePow] <;> omega) | (simp <;> omega))
      | (simp (disch := omega) only [wkW, Int.reduceToNat, Int.reducePow])
      | fail

end Go.Proofs.YtbmhnjghpjkjpaaDoor
set_option maxHeartbeats 4000000
set_option maxRecDepth 4000
set_option exponentiation.threshold 300000
set_option linter.unusedVariables false
set_option linter.unusedSimpArgs false
namespace Go.Proofs.YtbmhnjghpjkjpaaDoor
open Go Go.PV

theorem nmaxb {v : Nat} (k : Nat) (h : v < 2 ^ k) (hk : k ≤ 20000) : v < NMax := nmax_of h (by omega)
theorem mul_two_lt {a b m n : Nat} (h1 : a < 2 ^ m) (h2 : b < 2 ^ n) : a * b < 2 ^ (m + n) := by
  rw [Nat.pow_add]
  exact Nat.mul_lt_mul_of_lt_of_lt h1 h2
theorem two_lt (n m : Nat) (h : n < m) : 2 ^ n < 2 ^ m := Nat.pow_lt_pow_right (by decide) h
theorem five_lt {m : Nat} (h : m ≤ 342) : 5 ^ m < 2 ^ 800 := Nat.lt_of_le_of_lt (Nat.pow_le_pow_right (by decide) h) (by decide +kernel)

theorem quick_table (q : Int) : Meets Tryd.prog 3 [.int .i64 q] (.bool true) := by
  by_cases hq : -342 ≤ q ∧ q ≤ 308
  · obtain ⟨p1, p2⟩ := rowP_bounds q
    have hE := rowE_bounds hq
    have h1 := quick_power q hq
    have g1 : 5 ^ (-q).toNat < 2 ^ 800 := five_lt (by omega)
    have g2 : 5 ^ q.toNat < 2 ^ 800 := five_lt (by omega)
    have g3 := five_pos (-q).toNat
    have hl := two_limbs p1 p2
    have hlo := row_low q
    have hhi := row_high q
    have hex := @row_exact q
    have hst := @row_strict q
    have hP : (9223372036854775808 : Int) ≤ ((rowP q / 18446744073709551616 : Nat) : Int) := by
      rw [show (2 : Nat) ^ 127 = 9223372036854775808 * 18446744073709551616 by decide] at p1
      have := (Nat.le_div_iff_mul_le (by decide)).2 p1
      omega
    have hE0 : q < 0 → rowE q < 0 := fun h => by unfold rowE; rw [if_neg (by omega)]; omega
    have hP0 : 0 < rowP q := Nat.lt_of_lt_of_le (Nat.two_pow_pos 127) p1
    clear p1
    generalize rowP q = P at *
    generalize rowE q = ex at *
    have p3 : P + 1 < 2 ^ 129 := by
      rw [show (2 : Nat) ^ 128 = 340282366920938463463374607431768211456 by decide] at p2
      rw [show (2 : Nat) ^ 129 = 680564733841876926926749214863536422912 by decide]
      omega
    have e1 : P * (2 ^ ex.toNat * 5 ^ (-q).toNat) = P * 5 ^ (-q).toNat * 2 ^ ex.toNat := by ac_rfl
    have e2 : (P + 1) * (2 ^ ex.toNat * 5 ^ (-q).toNat) = (P + 1) * 5 ^ (-q).toNat * 2 ^ ex.toNat := by ac_rfl
    rw [e1] at hlo hex hst
    rw [e2] at hhi
    have t1 : 2 ^ ex.toNat < 2 ^ 701 := two_lt _ _ (by omega)
    have t2 : 2 ^ (-ex).toNat < 2 ^ 1001 := two_lt _ _ (by omega)
    have n0 : P < NMax := nmaxb _ p2 (by decide)
    have n1 : P + 1 < NMax := nmaxb _ p3 (by decide)
    have m2 := mul_two_lt p2 g1
    have m3 := mul_two_lt p3 g1
    have m4 := mul_two_lt m2 t1
    have m5 := mul_two_lt m3 t1
    have m6 := mul_two_lt g2 t2
    have n2 := nmaxb _ m2 (by decide)
    have n3 := nmaxb _ m3 (by decide)
    have n4 := nmaxb _ m4 (by decide)
    have n5 := nmaxb _ m5 (by decide)
    have n6 := nmaxb _ m6 (by decide)
    have n7 := nmaxb _ g1 (by decide)
    have n8 := nmaxb _ g2 (by decide)
    have ha := add_nat n0 (nmaxb (v := 1) 1 (by decide) (by decide)) n1
    rw [natL_oneL] at ha
    have h8 := cmp_nat n4 n6
    have h9 := cmp_nat n6 n5
    have hP1 : P ≠ 0 := Nat.ne_of_gt hP0
    have hG1 : 5 ^ (-q).toNat ≠ 0 := Nat.ne_of_gt g3
    have k1 := mul_nat0 n0 n7 n2
    have k2 := mul_nat0 n1 n7 n3
    have k3 := shl_nat n2 (show ex.toNat ≤ 262144 by omega) n4
    have k4 := shl_nat n3 (show ex.toNat ≤ 262144 by omega) n5
    have k5 := shl_nat n8 (show (-ex).toNat ≤ 262144 by omega) n6
    have k6 := pow5_ok q.toNat (by omega) n8
    have k7 := pow5_ok (-q).toNat (by omega) n7
    have hc : ((0 ≤ q ∧ q ≤ 55) ∧ (if P * 5 ^ (-q).toNat * 2 ^ ex.toNat < 5 ^ q.toNat * 2 ^ (-ex).toNat then (-1 : Int) else if 5 ^ q.toNat * 2 ^ (-ex).toNat < P * 5 ^ (-q).toNat * 2 ^ ex.toNat then 1 else 0) = 0) ∨ (¬ (0 ≤ q ∧ q ≤ 55) ∧ (if P * 5 ^ (-q).toNat * 2 ^ ex.toNat < 5 ^ q.toNat * 2 ^ (-ex).toNat then (-1 : Int) else if 5 ^ q.toNat * 2 ^ (-ex).toNat < P * 5 ^ (-q).toNat * 2 ^ ex.toNat then 1 else 0) = -1 ∧ (if 5 ^ q.toNat * 2 ^ (-ex).toNat < (P + 1) * 5 ^ (-q).toNat * 2 ^ ex.toNat then (-1 : Int) else if (P + 1) * 5 ^ (-q).toNat * 2 ^ ex.toNat < 5 ^ q.toNat * 2 ^ (-ex).toNat then 1 else 0) = -1) := by
      by_cases h : 0 ≤ q ∧ q ≤ 55
      · refine .inl ⟨h, ?_⟩
        rw [hex h, if_neg (Nat.lt_irrefl _), if_neg (Nat.lt_irrefl _)]
      · exact .inr ⟨h, if_pos (hst h), if_pos hhi⟩
    rw [hl] at ha
    refine table_walk q ex ((-q).toNat : Int) _ _ (natL (P + 1)) (natL ((P + 1) * 5 ^ (-q).toNat)) _ (natL (P * 5 ^ (-q).toNat)) _ (natL (5 ^ q.toNat)) _ (natL (5 ^ (-q).toNat)) _ _ hq ⟨by omega, by omega⟩ hP h1 ha ?_ ?_ h8 h9 hc
    · clear h8 h9 hc hex hst hlo hhi
      by_cases h : 0 ≤ q
      · have e3 : (-q).toNat = 0 := by omega
        refine .inl ⟨h, ?_, ?_, ?_⟩
        · rw [e3, Nat.pow_zero, Nat.mul_one]; exact hl
        · rw [e3, Nat.pow_zero, Nat.mul_one]
        · rw [show ((q.toNat : Nat) : Int) = q by omega] at k6
          exact k6
      · refine .inr ⟨by omega, hE0 (by omega), ?_, k7, ?_, ?_, k2⟩
        · rw [show q.toNat = 0 by omega, Nat.pow_zero, natL_oneL]
        · rw [wrap_i64 (by omega)]; omega
        · rw [hl] at k1; exact k1
    · clear h8 h9 hc hex hst hlo hhi
      by_cases h : 0 ≤ ex
      · refine .inl ⟨h, ?_, ?_, ?_⟩
        · rw [show (-ex).toNat = 0 by omega, Nat.pow_zero, Nat.mul_one]
        · rw [show ((ex.toNat : Nat) : Int) = ex by omega] at k3; exact k3
        · rw [show ((ex.toNat : Nat) : Int) = ex by omega] at k4; exact k4
      · refine .inr ⟨by omega, ?_, ?_, _, ?_, k5⟩
        · rw [show ex.toNat = 0 by omega, Nat.pow_zero, Nat.mul_one]
        · rw [show ex.toNat = 0 by omega, Nat.pow_zero, Nat.mul_one]
        · rw [wrap_i64 (by omega)]; omega
  · exact table_none q (by omega)
end Go.Proofs.YtbmhnjghpjkjpaaDoor

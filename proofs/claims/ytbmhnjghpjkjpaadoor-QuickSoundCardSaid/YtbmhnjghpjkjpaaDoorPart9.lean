/- Contracts and laws that the row leans on, part 9: texts that were built one by one, laid together. -/
import Derived.Test.YtbmhnjghpjkjpaaDoorPart1
import Derived.Test.YtbmhnjghpjkjpaaDoorPart2
import Derived.Test.YtbmhnjghpjkjpaaDoorPart3
import Derived.Test.YtbmhnjghpjkjpaaDoorPart4
import Derived.Test.YtbmhnjghpjkjpaaDoorPart5
import Derived.Test.YtbmhnjghpjkjpaaDoorPart6
import Derived.Test.YtbmhnjghpjkjpaaDoorPart7
import Derived.Test.YtbmhnjghpjkjpaaDoorPart8
set_option maxHeartbeats 4000000
set_option maxRecDepth 4000
set_option exponentiation.threshold 300000
set_option linter.unusedVariables false
set_option linter.unusedSimpArgs false
namespace Go.Proofs.YtbmhnjghpjkjpaaDoor
open Go Go.PV

theorem natL_single {w : Nat} (h0 : w ≠ 0) (h : w < 18446744073709551616) : natL w = [(w : Int)] := by
  unfold natL
  rw [digs_step (by decide) h0, Nat.div_eq_of_lt h, digs_zero, Nat.mod_eq_of_lt h]
  rfl

theorem law_exactly {v : Nat} (q : Int) (hq : -5000 ≤ q ∧ q ≤ 5000) (hv : v < NMax) (hv2 : v * 10 ^ q.toNat < NMax) : Meets Tryd.prog 18 [.ints .u64 (natL v), .int .i64 q] (.tup [.int .u64 (rdec v q : Int), .bool true]) := by
  by_cases h : 0 ≤ q
  · have d1 : decide (0 ≤ q) = true := decide_eq_true h
    obtain ⟨n, rfl⟩ : ∃ n : Nat, q = (n : Int) := ⟨q.toNat, by omega⟩
    rw [Int.toNat_natCast] at hv2
    have ht : 10 ^ n < NMax := nmax_of (k := 4 * 5000) (Nat.lt_of_le_of_lt (Nat.pow_le_pow_right (by decide) (show n ≤ 5000 by omega)) (by decide +kernel)) (by decide)
    have h1 := pow10_ok n (by omega) ht
    have h2 := mul_nat0 hv ht hv2
    have h3 := round_bin hv2 false 0 (by decide)
    rw [signed_f, show rbin (v * 10 ^ n) 0 = rdec v n by unfold rbin rdec; rw [Int.toNat_natCast, show (-(n : Int)).toNat = 0 by omega]; rfl] at h3
    clear hv hv2 ht
    generalize natL (v * 10 ^ n) = p at *
    generalize natL (10 ^ n) = t at *
    generalize rdec v n = R at *
    refine meets_by ttOk Tryd.func18 Tryd.ntmps18 Tryd.results18 (by kernel_rfl) (c := _) rfl rfl rfl fun E => ?_
    simp only [argsFrame]
    repeat' first
      | (with_reducible first | refine PW.seq ?_ | refine PW.block ?_ | refine PW.fork ?_ | refine PW.skip ?_ | refine PW.exit ?_ | refine PW.ret ?_ | refine PW.scope ?_ | refine PW.label ?_ | refine PW.goto ?_)
      | (simp only [d1])
      | (with_reducible refine PW.region ttOk ?_ ?_
         · rfl)
      | (with_reducible refine PW.regionD ttOk mixed ?_ ?_ ?_
         · rfl
         · rfl)
      | (with_reducible refine ifW_dec (fun g => ?_) (fun g => ?_) <;> first | (exfalso; omega) | (simp -dsimp only [g, wkI]))
      | (with_reducible refine condE_dec (fun g => ?_) (fun g => ?_) <;> try (exfalso; omega))
      | (with_reducible refine condE_not (fun g => ?_) (fun g => ?_) <;> try (exfalso; omega))
      | (simp -dsimp only [↓wkA, ↓wkE, ↓wkJ, wkB, ↓tt, Nat.reduceBEq, Nat.reduceEqDiff, ↓reduceIte, Nat.reduceLT, Array.toList, Nat.reduceAdd, Nat.reduceMul, Int.reduceToNat, Int.reducePow, UInt8.reduceToNat])
      | (refine call_by (h1) (views_data rfl) ⟨trivial, trivial⟩ rfl ?_)
      | (refine call_by (h2) (views_data rfl) ⟨trivial, trivial, trivial⟩ rfl ?_)
      | (refine call_by (h3) (views_data rfl) ⟨trivial, trivial, trivial, trivial, trivial⟩ rfl ?_)
      | (simp -dsimp (disch := first | assumption | omega) only [dec_t, dec_f])
      | (refine And.intro ?_ ?_
         · first | omega | decide | (simp (disch := omega) only [wkW, Int.reduceToNat, Int.reducePow] <;> omega) | (simp <;> omega))
      | (simp (disch := omega) only [wkW, Int.reduceToNat, Int.reducePow])
      | fail
  · have d1 : decide (0 ≤ q) = false := decide_eq_false h
    obtain ⟨n, hn⟩ : ∃ n : Nat, 0 - q = (n : Int) := ⟨(-q).toNat, by omega⟩
    have w1 : IntKind.wrap .i64 (0 - q) = (n : Int) := by rw [hn]; exact wrap_i64 (by omega)
    have ht : 10 ^ n < NMax := nmax_of (k := 4 * 5000) (Nat.lt_of_le_of_lt (Nat.pow_le_pow_right (by decide) (show n ≤ 5000 by omega)) (by decide +kernel)) (by decide)
    have h1 := pow10_ok n (by omega) ht
    have h2 := round_ratio hv ht (Nat.ne_of_gt (ten_pos n)) false 0 (by decide)
    rw [signed_f, show rrat v (10 ^ n) 0 = rdec v q by
      unfold rrat rdec
      rw [show q.toNat = 0 by omega, show (-q).toNat = n by omega, show ((0 : Int) + 1074).toNat = 1074 by decide, show (-((0 : Int) + 1074)).toNat = 0 by decide, Nat.pow_zero, Nat.mul_one, Nat.mul_one]] at h2
    clear hv hv2 ht
    generalize natL (10 ^ n) = t at *
    generalize rdec v q = R at *
    refine meets_by ttOk Tryd.func18 Tryd.ntmps18 Tryd.results18 (by kernel_rfl) (c := _) rfl rfl rfl fun E => ?_
    simp only [argsFrame]
    repeat' first
      | (with_reducible first | refine PW.seq ?_ | refine PW.block ?_ | refine PW.fork ?_ | refine PW.skip ?_ | refine PW.exit ?_ | refine PW.ret ?_ | refine PW.scope ?_ | refine PW.label ?_ | refine PW.goto ?_)
      | (simp only [d1, w1])
      | (with_reducible refine PW.region ttOk ?_ ?_
         · rfl)
      | (with_reducible refine PW.regionD ttOk mixed ?_ ?_ ?_
         · rfl
         · rfl)
      | (with_reducible refine ifW_dec (fun g => ?_) (fun g => ?_) <;> first | (exfalso; omega) | (simp -dsimp only [g, wkI]))
      | (with_reducible refine condE_dec (fun g => ?_) (fun g => ?_) <;> try (exfalso; omega))
      | (with_reducible refine condE_not (fun g => ?_) (fun g => ?_) <;> try (exfalso; omega))
      | (simp -dsimp only [↓wkA, ↓wkE, ↓wkJ, wkB, ↓tt, Nat.reduceBEq, Nat.reduceEqDiff, ↓reduceIte, Nat.reduceLT, Array.toList, Nat.reduceAdd, Nat.reduceMul, Int.reduceToNat, Int.reducePow, UInt8.reduceToNat])
      | (refine call_by (h1) (views_data rfl) ⟨trivial, trivial⟩ rfl ?_)
      | (refine call_by (h2) (views_data rfl) ⟨trivial, trivial, trivial, trivial, trivial⟩ rfl ?_)
      | (simp -dsimp (disch := first | assumption | omega) only [dec_t, dec_f])
      | (refine And.intro ?_ ?_
         · first | omega | decide | (simp (disch := omega) only [wkW, Int.reduceToNat, Int.reducePow] <;> omega) | (simp <;> omega))
      | (simp (disch := omega) only [wkW, Int.reduceToNat, Int.reducePow])
      | fail

theorem law_awake (res : PV) (hres : res = .bool true) : Meets Tryd.prog 7 [] res := by
  subst hres
  have h1 := quick_power 1 (by decide)
  rw [show ((rowP 1 / 18446744073709551616 : Nat) : Int) = 11529215046068469760 by decide +kernel, show ((rowP 1 % 18446744073709551616 : Nat) : Int) = 0 by decide +kernel, show rowE 1 = -125 by decide +kernel] at h1
  have e1 : rdec 3 (-1) = 4599075939470750515 := by decide +kernel
  have h2 : Meets Tryd.prog 17 [.int .u64 3, .int .i64 (-1)] (.tup [.int .u64 4599075939470750515, .bool true]) := by
    have := quick_small_all 3 (-1)
    unfold smallV at this
    rw [decide_eq_true (show smallOk 3 (-1) by decide), if_pos (show smallOk 3 (-1) by decide), e1] at this
    exact this
  have hk : stepOk 3 (-1) := .inr ⟨by decide, .inr (by decide +kernel)⟩
  have h3 : Meets Tryd.prog 14 [.int .u64 3, .int .i64 (-1)] (.tup [.int .u64 4599075939470750515, .bool true]) := by
    have := quick_step 3 (by decide) (-1)
    rw [decide_eq_true hk, step_right hk, e1] at this
    exact this
  have hn : NormalD [50, 53] (-1) := by
    refine ⟨⟨by decide, ⟨by decide, by decide⟩, fun j hj => ?_, by decide⟩, by decide, by decide⟩
    match j, hj with
    | 0, _ => decide
    | 1, _ => decide
    | j + 2, h => simp at h; omega
  have hk2 : tryK [50, 53] (-1) := .inr (.inl ⟨by decide, by decide, .inl (by decide)⟩)
  have h4 := quick_try true hn (by decide)
  unfold tryV at h4
  rw [decide_eq_true hk2, if_pos hk2, signed_t, show rdec (num 10 [50, 53]) (-1) + 9223372036854775808 = 13836183955189006336 by decide +kernel] at h4
  have h4 : Meets Tryd.prog 19 [.agg [.bool true, .str [50, 53], .int .i64 (-1)]] (.tup [.int .u64 13836183955189006336, .bool true]) := h4
  refine meets_by ttOk Tryd.func7 Tryd.ntmps7 Tryd.results7 (by kernel_rfl) (c := _) rfl rfl rfl fun E => ?_
  simp only [argsFrame]
  repeat' first
    | (with_reducible first | refine PW.seq ?_ | refine PW.block ?_ | refine PW.fork ?_ | refine PW.skip ?_ | refine PW.exit ?_ | refine PW.ret ?_ | refine PW.scope ?_ | refine PW.label ?_ | refine PW.goto ?_)
    | (with_reducible refine PW.region ttOk ?_ ?_
       · rfl)
    | (with_reducible refine PW.regionD ttOk mixed ?_ ?_ ?_
       · rfl
       · rfl)
    | (with_reducible refine ifW_dec (fun g => ?_) (fun g => ?_) <;> first | (exfalso; omega) | (simp -dsimp only [g, wkI]))
    | (with_reducible refine condE_dec (fun g => ?_) (fun g => ?_) <;> try (exfalso; omega))
    | (with_reducible refine condE_not (fun g => ?_) (fun g => ?_) <;> try (exfalso; omega))
    | (simp -dsimp only [↓wkA, ↓wkE, ↓wkJ, wkB, ↓tt, Nat.reduceBEq, Nat.reduceEqDiff, ↓reduceIte, Nat.reduceLT, Array.toList, Nat.reduceAdd, Nat.reduceMul, Int.reduceToNat, Int.reducePow, UInt8.reduceToNat])
    | (refine call_by (h1) (views_data rfl) ⟨trivial, trivial⟩ rfl ?_)
    | (refine call_by (h2) (views_data rfl) ⟨trivial, trivial, trivial⟩ rfl ?_)
    | (refine call_by (h3) (views_data rfl) ⟨trivial, trivial, trivial⟩ rfl ?_)
    | (refine call_by (h4) (views_data rfl) (by simp only [okViews, okView, okViews0, okView0, and_self]) rfl ?_)
    | (simp -dsimp (disch := first | assumption | omega) only [dec_t, dec_f])
    | (refine And.intro ?_ ?_
       · first | omega | decide | (simp (disch := omega) only [wkW, Int.reduceToNat, Int.reducePow] <;> omega) | (simp <;> omega))
    | (simp (disch := omega) only [wkW, Int.reduceToNat, Int.reducePow])
    | fail

theorem headL_head {s : List Int} (h : s.getD 0 0 ≠ 48) : headL 48 s = s := by
  cases s with
  | nil => rfl
  | cons y r => rw [headL, if_neg (show ¬ y = 48 from h)]
theorem headL_short {s : List Int} (h : s.getD 0 0 = 48) (hs : s ≠ []) : (headL 48 s).length < s.length := by
  cases s with
  | nil => exact absurd rfl hs
  | cons y r =>
    rw [headL, if_pos (show y = 48 from h), List.length_cons]
    have := headL_le 48 r
    omega
theorem endN_full {s : List Int} (hs : s ≠ []) (h : s.getD (s.length - 1) 0 ≠ 48) : endN s 48 s.length = s.length := by
  have hp := List.length_pos_iff.2 hs
  obtain ⟨n, hn⟩ : ∃ n, s.length = n + 1 := ⟨s.length - 1, by omega⟩
  rw [hn] at h ⊢
  rw [Nat.add_sub_cancel] at h
  rw [endN, if_neg h]

theorem normal_iff {s : List Int} {x : Int} : NormalD s x ↔ AllD s ∧ s ≠ [] ∧ InR x ∧ (s = [48] → x = 0) ∧ (s ≠ [48] → s.getD 0 0 ≠ 48 ∧ s.getD (s.length - 1) 0 ≠ 48) := by
  constructor
  · rintro ⟨⟨h1, h2, h3, h4⟩, h5, h6⟩
    refine ⟨h3, h1, h2, fun h => ?_, fun h => ?_⟩
    · subst h; exact h6.symm
    · unfold normS at h5
      by_cases ht : headL 48 s = []
      · rw [if_pos ht] at h5
        exact absurd h5.symm h
      · rw [if_neg ht] at h5
        have h0 : s.getD 0 0 ≠ 48 := fun e => by
          have l1 := headL_short e h1
          have l2 := congrArg List.length h5
          rw [List.length_take] at l2
          have := Nat.min_le_right (endN (headL 48 s) 48 (headL 48 s).length) (headL 48 s).length
          omega
        rw [headL_head h0] at h5
        have l2 := congrArg List.length h5
        rw [List.length_take] at l2
        have l3 := endN_le s 48 s.length
        have l4 : endN s 48 s.length = s.length := by omega
        have l5 := endN_last (s := s) (c := 48) s.length (by rw [l4]; exact Nat.ne_of_gt (List.length_pos_iff.2 h1))
        rw [l4] at l5
        exact ⟨h0, l5⟩
  · rintro ⟨h3, h1, h2, h4, h5⟩
    by_cases h : s = [48]
    · obtain rfl := h4 h
      subst h
      exact ⟨⟨h1, h2, h3, by decide⟩, by decide, by decide⟩
    · obtain ⟨h6, h7⟩ := h5 h
      have e1 := headL_head h6
      have e2 := endN_full h1 h7
      have e3 : normX s x = x := by
        unfold normX
        rw [e1, if_neg h1, e2]
        omega
      refine ⟨⟨h1, h2, h3, by rw [e3]; exact h2.2⟩, ?_, e3⟩
      unfold normS
      rw [e1, if_neg h1, e2, List.take_length]

theorem normal_walk (neg : Bool) (s : List Int) (x : Int) (hsl : s.length ≤ 140737488351232) (b : Bool) (h1 : ¬ AllD s → b = false) (h2 : AllD s → (s = [] ∨ ¬ InR x) → b = false) (h3 : AllD s → s ≠ [] → InR x → s = [48] → b = decide (x = 0)) (h4 : AllD s → s ≠ [] → InR x → s ≠ [48] → b = (!decide (s.getD 0 0 = 48) && !decide (s.getD (s.length - 1) 0 = 48))) :
    Meets Tryd.prog 20 [.agg [.bool neg, .str s, .int .i64 x]] (.bool b) := by
  refine meets_by ttOk Tryd.func20 Tryd.ntmps20 Tryd.results20 (by kernel_rfl) (c := _) rfl rfl rfl fun E => ?_
  simp only [argsFrame]
  repeat' first
    | (with_reducible first | refine PW.seq ?_ | refine PW.block ?_ | refine PW.fork ?_ | refine PW.skip ?_ | refine PW.exit ?_ | refine PW.ret ?_ | refine PW.scope ?_ | refine PW.label ?_ | refine PW.goto ?_)
    | (with_reducible refine PW.region ttOk ?_ ?_
       · rfl)
    | (with_reducible refine PW.regionD ttOk mixed ?_ ?_ ?_
       · rfl
       · rfl)
    | (with_reducible refine ifW_dec (fun g => ?_) (fun g => ?_) <;> first | (exfalso; omega) | (simp -dsimp only [g, wkI]))
    | (with_reducible refine condE_dec (fun g => ?_) (fun g => ?_) <;> try (exfalso; omega))
    | (with_reducible refine condE_not (fun g => ?_) (fun g => ?_) <;> try (exfalso; omega))
    | (simp -dsimp only [↓wkA, ↓wkE, ↓wkJ, wkB, ↓tt, Nat.reduceBEq, Nat.reduceEqDiff, ↓reduceIte, Nat.reduceLT, Array.toList, Nat.reduceAdd, Nat.reduceMul, Int.reduceToNat, Int.reducePow, UInt8.reduceToNat])
    | (simp -dsimp (disch := first | assumption | omega) only [dec_t, dec_f])
    | (refine And.intro ?_ ?_
       · first | omega | decide | (simp (disch := omega) only [wkW, Int.reduceToNat, Int.reducePow] <;> omega) | (simp <;> omega))
    | (simp (disch := omega) only [wkW, Int.reduceToNat, Int.reducePow])
    | fail
  refine PW.loopA (fun m F H => ∃ i : Nat, i + m = s.length ∧ (∀ j, j < i → isDig (s.getD j 0)) ∧ F = [(4, .int .i64 (i : Int)), (3, .int .i64 (s.length : Int)), (2, .bool false), (1, .ptr 0 0 0)] ∧ H = ⟨1, [(0, .var [.bool neg, .str s, .int .i64 x])], [], [(0, 42)]⟩) s.length [(4, .int .i64 ((0 : Nat) : Int)), (3, .int .i64 (s.length : Int)), (2, .bool false), (1, .ptr 0 0 0)] ⟨1, [(0, .var [.bool neg, .str s, .int .i64 x])], [], [(0, 42)]⟩ (Sub.norm ⟨rfl, rfl, rfl, rfl, trivial⟩ ⟨rfl, trivial⟩ (Nat.le_refl _) rfl rfl rfl rfl (tyOk_spec rfl)) ⟨0, by omega, fun j hj => by omega, rfl, rfl⟩ ?_
  rintro m F H ⟨i, hi, hd, rfl, rfl⟩
  cases m with
  | zero =>
    have hA : AllD s := fun j hj => hd j (by omega)
    have d4 : decide ((i : Int) < (s.length : Int)) = false := decide_eq_false (by omega)
    replace h2 := h2 hA
    replace h3 := h3 hA
    replace h4 := h4 hA
    clear h1 hd
    by_cases hs : s = []
    · obtain rfl := h2 (.inl hs)
      have d5 : decide ((s.length : Int) = 0) = true := decide_eq_true (by rw [hs]; rfl)
      repeat' first
        | (with_reducible first | refine PW.seq ?_ | refine PW.block ?_ | refine PW.fork ?_ | refine PW.skip ?_ | refine PW.exit ?_ | refine PW.ret ?_ | refine PW.scope ?_ | refine PW.label ?_ | refine PW.goto ?_)
        | (simp only [d4, d5])
        | (with_reducible refine PW.region ttOk ?_ ?_
           · rfl)
        | (with_reducible refine PW.regionD ttOk mixed ?_ ?_ ?_
           · rfl
           · rfl)
        | (with_reducible refine ifW_dec (fun g => ?_) (fun g => ?_) <;> first | (exfalso; omega) | (simp -dsimp only [g, wkI]))
        | (with_reducible refine condE_dec (fun g => ?_) (fun g => ?_) <;> try (exfalso; omega))
        | (with_reducible refine condE_not (fun g => ?_) (fun g => ?_) <;> try (exfalso; omega))
        | (simp -dsimp only [↓wkA, ↓wkE, ↓wkJ, wkB, ↓tt, Nat.reduceBEq, Nat.reduceEqDiff, ↓reduceIte, Nat.reduceLT, Array.toList, Nat.reduceAdd, Nat.reduceMul, Int.reduceToNat, Int.reducePow, UInt8.reduceToNat])
        | (simp -dsimp (disch := first | assumption | omega) only [dec_t, dec_f])
        | (refine And.intro ?_ ?_
           · first | omega | decide | (simp (disch := omega) only [wkW, Int.reduceToNat, Int.reducePow] <;> omega) | (simp <;> omega))
        | (simp (disch := omega) only [wkW, Int.reduceToNat, Int.reducePow])
        | fail
    · have d5 : decide ((s.length : Int) = 0) = false := decide_eq_false (by have := List.length_pos_iff.2 hs; omega)
      by_cases hx1 : x < -1152921504606846976
      · obtain rfl := h2 (.inr fun h => by have := h.1; omega)
        have d6 : decide (x < -1152921504606846976) = true := decide_eq_true hx1
        repeat' first
          | (with_reducible first | refine PW.seq ?_ | refine PW.block ?_ | refine PW.fork ?_ | refine PW.skip ?_ | refine PW.exit ?_ | refine PW.ret ?_ | refine PW.scope ?_ | refine PW.label ?_ | refine PW.goto ?_)
          | (simp only [d4, d5, d6])
          | (with_reducible refine PW.region ttOk ?_ ?_
             · rfl)
          | (with_reducible refine PW.regionD ttOk mixed ?_ ?_ ?_
             · rfl
             · rfl)
          | (with_reducible refine ifW_dec (fun g => ?_) (fun g => ?_) <;> first | (exfalso; omega) | (simp -dsimp only [g, wkI]))
          | (with_reducible refine condE_dec (fun g => ?_) (fun g => ?_) <;> try (exfalso; omega))
          | (with_reducible refine condE_not (fun g => ?_) (fun g => ?_) <;> try (exfalso; omega))
          | (simp -dsimp only [↓wkA, ↓wkE, ↓wkJ, wkB, ↓tt, Nat.reduceBEq, Nat.reduceEqDiff, ↓reduceIte, Nat.reduceLT, Array.toList, Nat.reduceAdd, Nat.reduceMul, Int.reduceToNat, Int.reducePow, UInt8.reduceToNat])
          | (simp -dsimp (disch := first | assumption | omega) only [dec_t, dec_f])
          | (refine And.intro ?_ ?_
             · first | omega | decide | (simp (disch := omega) only [wkW, Int.reduceToNat, Int.reducePow] <;> omega) | (simp <;> omega))
          | (simp (disch := omega) only [wkW, Int.reduceToNat, Int.reducePow])
          | fail
      · have d6 : decide (x < -1152921504606846976) = false := decide_eq_false hx1
        by_cases hx2 : 1152921504606846976 < x
        · obtain rfl := h2 (.inr fun h => by have := h.2; omega)
          have d7 : decide (1152921504606846976 < x) = true := decide_eq_true hx2
          repeat' first
            | (with_reducible first | refine PW.seq ?_ | refine PW.block ?_ | refine PW.fork ?_ | refine PW.skip ?_ | refine PW.exit ?_ | refine PW.ret ?_ | refine PW.scope ?_ | refine PW.label ?_ | refine PW.goto ?_)
            | (simp only [d4, d5, d6, d7])
            | (with_reducible refine PW.region ttOk ?_ ?_
               · rfl)
            | (with_reducible refine PW.regionD ttOk mixed ?_ ?_ ?_
               · rfl
               · rfl)
            | (with_reducible refine ifW_dec (fun g => ?_) (fun g => ?_) <;> first | (exfalso; omega) | (simp -dsimp only [g, wkI]))
            | (with_reducible refine condE_dec (fun g => ?_) (fun g => ?_) <;> try (exfalso; omega))
            | (with_reducible refine condE_not (fun g => ?_) (fun g => ?_) <;> try (exfalso; omega))
            | (simp -dsimp only [↓wkA, ↓wkE, ↓wkJ, wkB, ↓tt, Nat.reduceBEq, Nat.reduceEqDiff, ↓reduceIte, Nat.reduceLT, Array.toList, Nat.reduceAdd, Nat.reduceMul, Int.reduceToNat, Int.reducePow, UInt8.reduceToNat])
            | (simp -dsimp (disch := first | assumption | omega) only [dec_t, dec_f])
            | (refine And.intro ?_ ?_
               · first | omega | decide | (simp (disch := omega) only [wkW, Int.reduceToNat, Int.reducePow] <;> omega) | (simp <;> omega))
            | (simp (disch := omega) only [wkW, Int.reduceToNat, Int.reducePow])
            | fail
        · have d7 : decide (1152921504606846976 < x) = false := decide_eq_false hx2
          have hx : InR x := ⟨by omega, by omega⟩
          by_cases hq : s = [48]
          · obtain rfl := h3 hs hx hq
            have d8 : decide (s = [48]) = true := decide_eq_true hq
            repeat' first
              | (with_reducible first | refine PW.seq ?_ | refine PW.block ?_ | refine PW.fork ?_ | refine PW.skip ?_ | refine PW.exit ?_ | refine PW.ret ?_ | refine PW.scope ?_ | refine PW.label ?_ | refine PW.goto ?_)
              | (simp only [d4, d5, d6, d7, d8])
              | (with_reducible refine PW.region ttOk ?_ ?_
                 · rfl)
              | (with_reducible refine PW.regionD ttOk mixed ?_ ?_ ?_
                 · rfl
                 · rfl)
              | (with_reducible refine ifW_dec (fun g => ?_) (fun g => ?_) <;> first | (exfalso; omega) | (simp -dsimp only [g, wkI]))
              | (with_reducible refine condE_dec (fun g => ?_) (fun g => ?_) <;> try (exfalso; omega))
              | (with_reducible refine condE_not (fun g => ?_) (fun g => ?_) <;> try (exfalso; omega))
              | (simp -dsimp only [↓wkA, ↓wkE, ↓wkJ, wkB, ↓tt, Nat.reduceBEq, Nat.reduceEqDiff, ↓reduceIte, Nat.reduceLT, Array.toList, Nat.reduceAdd, Nat.reduceMul, Int.reduceToNat, Int.reducePow, UInt8.reduceToNat])
              | (simp -dsimp (disch := first | assumption | omega) only [dec_t, dec_f])
              | (refine And.intro ?_ ?_
                 · first | omega | decide | (simp (disch := omega) only [wkW, Int.reduceToNat, Int.reducePow] <;> omega) | (simp <;> omega))
              | (simp (disch := omega) only [wkW, Int.reduceToNat, Int.reducePow])
              | fail
          · obtain rfl := h4 hs hx hq
            have hp := List.length_pos_iff.2 hs
            have d8 : decide (s = [48]) = false := decide_eq_false hq
            have w1 : IntKind.wrap .i64 ((s.length : Int) - 1) = ((s.length - 1 : Nat) : Int) := by rw [wrap_i64 (by omega)]; omega
            by_cases d9 : s.getD 0 0 = 48
            case' pos => have d9 := decide_eq_true d9
            case' neg => have d9 := decide_eq_false d9
            all_goals rw [d9]
            all_goals
              repeat' first
                | (with_reducible first | refine PW.seq ?_ | refine PW.block ?_ | refine PW.fork ?_ | refine PW.skip ?_ | refine PW.exit ?_ | refine PW.ret ?_ | refine PW.scope ?_ | refine PW.label ?_ | refine PW.goto ?_)
                | (simp only [d4, d5, d6, d7, d8, d9, w1, Int.toNat_natCast])
                | (with_reducible refine PW.region ttOk ?_ ?_
                   · rfl)
                | (with_reducible refine PW.regionD ttOk mixed ?_ ?_ ?_
                   · rfl
                   · rfl)
                | (with_reducible refine ifW_dec (fun g => ?_) (fun g => ?_) <;> first | (exfalso; omega) | (simp -dsimp only [g, wkI]))
                | (with_reducible refine condE_dec (fun g => ?_) (fun g => ?_) <;> try (exfalso; omega))
                | (with_reducible refine condE_not (fun g => ?_) (fun g => ?_) <;> try (exfalso; omega))
                | (simp -dsimp only [↓wkA, ↓wkE, ↓wkJ, wkB, ↓tt, Nat.reduceBEq, Nat.reduceEqDiff, ↓reduceIte, Nat.reduceLT, Array.toList, Nat.reduceAdd, Nat.reduceMul, Int.reduceToNat, Int.reducePow, UInt8.reduceToNat])
                | (simp -dsimp (disch := first | assumption | omega) only [dec_t, dec_f])
                | (refine And.intro ?_ ?_
                   · first | omega | decide | (simp (disch := omega) only [wkW, Int.reduceToNat, Int.reducePow] <;> omega) | (simp <;> omega))
                | (simp (disch := omega) only [wkW, Int.reduceToNat, Int.reducePow])
                | fail
            all_goals rfl
  | succ m =>
    have d4 : decide ((i : Int) < (s.length : Int)) = true := decide_eq_true (by omega)
    have w1 : IntKind.wrap .i64 ((i : Int) + 1) = ((i + 1 : Nat) : Int) := by rw [wrap_i64 (by omega)]; omega
    by_cases h5 : s.getD i 0 < 48
    · have d5 : decide (s.getD i 0 < 48) = true := decide_eq_true h5
      obtain rfl := h1 fun h => by have := (h i (by omega)).1; omega
      repeat' first
        | (with_reducible first | refine PW.seq ?_ | refine PW.block ?_ | refine PW.fork ?_ | refine PW.skip ?_ | refine PW.exit ?_ | refine PW.ret ?_ | refine PW.scope ?_ | refine PW.label ?_ | refine PW.goto ?_)
        | (simp only [d4, d5, w1, Int.toNat_natCast])
        | (with_reducible refine PW.region ttOk ?_ ?_
           · rfl)
        | (with_reducible refine PW.regionD ttOk mixed ?_ ?_ ?_
           · rfl
           · rfl)
        | (with_reducible refine ifW_dec (fun g => ?_) (fun g => ?_) <;> first | (exfalso; omega) | (simp -dsimp only [g, wkI]))
        | (with_reducible refine condE_dec (fun g => ?_) (fun g => ?_) <;> try (exfalso; omega))
        | (with_reducible refine condE_not (fun g => ?_) (fun g => ?_) <;> try (exfalso; omega))
        | (simp -dsimp only [↓wkA, ↓wkE, ↓wkJ, wkB, ↓tt, Nat.reduceBEq, Nat.reduceEqDiff, ↓reduceIte, Nat.reduceLT, Array.toList, Nat.reduceAdd, Nat.reduceMul, Int.reduceToNat, Int.reducePow, UInt8.reduceToNat])
        | (simp -dsimp (disch := first | assumption | omega) only [dec_t, dec_f])
        | (refine And.intro ?_ ?_
           · first | omega | decide | (simp (disch := omega) only [wkW, Int.reduceToNat, Int.reducePow] <;> omega) | (simp <;> omega))
        | (simp (disch := omega) only [wkW, Int.reduceToNat, Int.reducePow])
        | fail
    · have d5 : decide (s.getD i 0 < 48) = false := decide_eq_false h5
      by_cases h6 : 57 < s.getD i 0
      · have d6 : decide (57 < s.getD i 0) = true := decide_eq_true h6
        obtain rfl := h1 fun h => by have := (h i (by omega)).2; omega
        repeat' first
          | (with_reducible first | refine PW.seq ?_ | refine PW.block ?_ | refine PW.fork ?_ | refine PW.skip ?_ | refine PW.exit ?_ | refine PW.ret ?_ | refine PW.scope ?_ | refine PW.label ?_ | refine PW.goto ?_)
          | (simp only [d4, d5, d6, w1, Int.toNat_natCast])
          | (with_reducible refine PW.region ttOk ?_ ?_
             · rfl)
          | (with_reducible refine PW.regionD ttOk mixed ?_ ?_ ?_
             · rfl
             · rfl)
          | (with_reducible refine ifW_dec (fun g => ?_) (fun g => ?_) <;> first | (exfalso; omega) | (simp -dsimp only [g, wkI]))
          | (with_reducible refine condE_dec (fun g => ?_) (fun g => ?_) <;> try (exfalso; omega))
          | (with_reducible refine condE_not (fun g => ?_) (fun g => ?_) <;> try (exfalso; omega))
          | (simp -dsimp only [↓wkA, ↓wkE, ↓wkJ, wkB, ↓tt, Nat.reduceBEq, Nat.reduceEqDiff, ↓reduceIte, Nat.reduceLT, Array.toList, Nat.reduceAdd, Nat.reduceMul, Int.reduceToNat, Int.reducePow, UInt8.reduceToNat])
          | (simp -dsimp (disch := first | assumption | omega) only [dec_t, dec_f])
          | (refine And.intro ?_ ?_
             · first | omega | decide | (simp (disch := omega) only [wkW, Int.reduceToNat, Int.reducePow] <;> omega) | (simp <;> omega))
          | (simp (disch := omega) only [wkW, Int.reduceToNat, Int.reducePow])
          | fail
      · have d6 : decide (57 < s.getD i 0) = false := decide_eq_false h6
        repeat' first
          | (with_reducible first | refine PW.seq ?_ | refine PW.block ?_ | refine PW.fork ?_ | refine PW.skip ?_ | refine PW.exit ?_ | refine PW.ret ?_ | refine PW.scope ?_ | refine PW.label ?_ | refine PW.goto ?_)
          | (simp only [d4, d5, d6, w1, Int.toNat_natCast])
          | (with_reducible refine PW.region ttOk ?_ ?_
             · rfl)
          | (with_reducible refine PW.regionD ttOk mixed ?_ ?_ ?_
             · rfl
             · rfl)
          | (with_reducible refine ifW_dec (fun g => ?_) (fun g => ?_) <;> first | (exfalso; omega) | (simp -dsimp only [g, wkI]))
          | (with_reducible refine condE_dec (fun g => ?_) (fun g => ?_) <;> try (exfalso; omega))
          | (with_reducible refine condE_not (fun g => ?_) (fun g => ?_) <;> try (exfalso; omega))
          | (simp -dsimp only [↓wkA, ↓wkE, ↓wkJ, wkB, ↓tt, Nat.reduceBEq, Nat.reduceEqDiff, ↓reduceIte, Nat.reduceLT, Array.toList, Nat.reduceAdd, Nat.reduceMul, Int.reduceToNat, Int.reducePow, UInt8.reduceToNat])
          | (simp -dsimp (disch := first | assumption | omega) only [dec_t, dec_f])
          | (refine And.intro ?_ ?_
             · first | omega | decide | (simp (disch := omega) only [wkW, Int.reduceToNat, Int.reducePow] <;> omega) | (simp <;> omega))
          | (simp (disch := omega) only [wkW, Int.reduceToNat, Int.reducePow])
          | fail
        exact Again.mk m [(4, .int .i64 ((i + 1 : Nat) : Int)), (3, .int .i64 (s.length : Int)), (2, .bool false), (1, .ptr 0 0 0)] ⟨1, [(0, .var [.bool neg, .str s, .int .i64 x])], [], [(0, 42)]⟩ (by omega) (Sub.norm ⟨rfl, rfl, rfl, rfl, trivial⟩ ⟨rfl, trivial⟩ (Nat.le_refl _) rfl rfl rfl rfl (tyOk_spec rfl)) ⟨i + 1, by omega, fun j hj => by
          rcases Nat.lt_succ_iff_lt_or_eq.1 hj with h | rfl
          · exact hd j h
          · exact ⟨by omega, by omega⟩, rfl, rfl⟩

theorem law_normal (neg : Bool) (s : List Int) (x : Int) (hsl : s.length ≤ 140737488351232) [Decidable (NormalD s x)] : Meets Tryd.prog 20 [.agg [.bool neg, .str s, .int .i64 x]] (.bool (decide (NormalD s x))) := by
  refine normal_walk neg s x hsl _ (fun h => ?_) (fun h1 h2 => ?_) (fun h1 h2 h3 h4 => ?_) (fun h1 h2 h3 h4 => ?_)
  · exact decide_eq_false fun hn => h (normal_iff.1 hn).1
  · refine decide_eq_false fun hn => ?_
    obtain ⟨_, h4, h5, _⟩ := normal_iff.1 hn
    exact h2.elim h4 fun h => h h5
  · refine decide_eq_decide.2 (normal_iff.trans ⟨fun h => h.2.2.2.1 h4, fun h => ⟨h1, h2, h3, fun _ => h, fun h5 => absurd h4 h5⟩⟩)
  · rw [← decide_not, ← decide_not, ← Bool.decide_and]
    exact decide_eq_decide.2 (normal_iff.trans ⟨fun h => h.2.2.2.2 h4, fun h => ⟨h1, h2, h3, fun h5 => absurd h5 h4, fun _ => h⟩⟩)
end Go.Proofs.YtbmhnjghpjkjpaaDoor
set_option maxHeartbeats 4000000
set_option maxRecDepth 4000
set_option exponentiation.threshold 300000
set_option linter.unusedVariables false
set_option linter.unusedSimpArgs false
namespace Go.Proofs.YtbmhnjghpjkjpaaDoor
open Go Go.PV

theorem nmaxb {v : Nat} (k : Nat) (h : v < 2 ^ k) (hk : k ≤ 20000) : v < NMax := nmax_of h (by omega)
theorem mul_two_lt {a b m n : Nat} (h1 : a < 2 ^ m) (h2 : b < 2 ^ n) : a * b < 2 ^ (m + n) := by
  rw [Nat.pow_add]
  exact Nat.mul_lt_mul_of_lt_of_lt h1 h2
end Go.Proofs.YtbmhnjghpjkjpaaDoor
set_option maxHeartbeats 4000000
set_option maxRecDepth 4000
set_option exponentiation.threshold 300000
set_option linter.unusedVariables false
set_option linter.unusedSimpArgs false
namespace Go.Proofs.YtbmhnjghpjkjpaaDoor
open Go Go.PV

theorem sure_none (w q : Int) (hi lo ex er out : Int) (ok : Bool) (h1 : Meets Tryd.prog 8 [.int .i64 q] (.tup [.int .u64 hi, .int .u64 lo, .int .i64 ex, .int .i64 er])) (h2 : Meets Tryd.prog 14 [.int .u64 w, .int .i64 q] (.tup [.int .u64 out, .bool ok])) (hc : (w = 0 ∧ ok = true ∧ out = 0) ∨ (w ≠ 0 ∧ er ≠ 0 ∧ ok = false ∧ out = 0)) :
    Meets Tryd.prog 4 [.int .u64 w, .int .i64 q] (.bool true) := by
  have h0 := law_awake _ rfl
  rcases hc with ⟨hw, rfl, rfl⟩ | ⟨hw, he, rfl, rfl⟩
  case' inl => have d1 : decide (w = 0) = true := decide_eq_true hw; have d2 := d1
  case' inr => have d1 : decide (w = 0) = false := decide_eq_false hw; have d2 : decide (er = 0) = false := decide_eq_false he
  all_goals (refine meets_by ttOk Tryd.func4 Tryd.ntmps4 Tryd.results4 (by kernel_rfl) (c := _) rfl rfl rfl fun E => ?_; simp only [argsFrame])
  all_goals
    repeat' first
      | (with_reducible first | refine PW.seq ?_ | refine PW.block ?_ | refine PW.fork ?_ | refine PW.skip ?_ | refine PW.exit ?_ | refine PW.ret ?_ | refine PW.scope ?_ | refine PW.label ?_ | refine PW.goto ?_)
      | (simp only [d1, d2])
      | (with_reducible refine PW.region ttOk ?_ ?_
         · rfl)
      | (with_reducible refine PW.regionD ttOk mixed ?_ ?_ ?_
         · rfl
         · rfl)
      | (with_reducible refine ifW_dec (fun g => ?_) (fun g => ?_) <;> first | (exfalso; omega) | (simp -dsimp only [g, wkI]))
      | (with_reducible refine condE_dec (fun g => ?_) (fun g => ?_) <;> try (exfalso; omega))
      | (with_reducible refine condE_not (fun g => ?_) (fun g => ?_) <;> try (exfalso; omega))
      | (simp -dsimp only [↓wkA, ↓wkE, ↓wkJ, wkB, ↓tt, Nat.reduceBEq, Nat.reduceEqDiff, ↓reduceIte, Nat.reduceLT, Array.toList, Nat.reduceAdd, Nat.reduceMul, Int.reduceToNat, Int.reducePow, UInt8.reduceToNat])
      | (refine call_by (h0) (views_data rfl) trivial rfl ?_)
      | (refine call_by (h1) (views_data rfl) ⟨trivial, trivial⟩ rfl ?_)
      | (refine call_by (h2) (views_data rfl) ⟨trivial, trivial, trivial⟩ rfl ?_)
      | (simp -dsimp (disch := first | assumption | omega) only [dec_t, dec_f])
      | (refine And.intro ?_ ?_
         · first | omega | decide | (simp (disch := omega) only [wkW, Int.reduceToNat, Int.reducePow] <;> omega) | (simp <;> omega))
      | (simp (disch := omega) only [wkW, Int.reduceToNat, Int.reducePow])
      | fail

theorem sure_walk (w q : Int) (hw : w ≠ 0) (hi lo ex e2 out A B : Int) (ok : Bool) (b1 b2 : List Int) (h1 : Meets Tryd.prog 8 [.int .i64 q] (.tup [.int .u64 hi, .int .u64 lo, .int .i64 ex, .int .i64 0])) (h2 : Meets Tryd.prog 14 [.int .u64 w, .int .i64 q] (.tup [.int .u64 out, .bool ok]))
    (h3 : Meets Tryd.prog 15 [.ints .u64 [lo, hi], .int .u64 w, .int .u64 0] (.tup [.ints .u64 b1, .int .i64 0])) (h4 : ((0 ≤ q ∧ q ≤ 55) ∧ b2 = b1 ∧ A = B) ∨ (¬ (0 ≤ q ∧ q ≤ 55) ∧ Meets Tryd.prog 9 [.ints .u64 b1, .ints .u64 [w]] (.tup [.ints .u64 b2, .int .i64 0]))) (he : IntKind.wrap .i64 (ex + q) = e2)
    (h5 : Meets Tryd.prog 16 [.bool false, .ints .u64 b1, .int .i64 e2, .bool false] (.tup [.int .u64 A, .int .i64 0])) (h6 : Meets Tryd.prog 16 [.bool false, .ints .u64 b2, .int .i64 e2, .bool false] (.tup [.int .u64 B, .int .i64 0]))
    (hc : (A = B ∧ ok = true ∧ out = A) ∨ (A ≠ B ∧ ok = false ∧ out = 0)) :
    Meets Tryd.prog 4 [.int .u64 w, .int .i64 q] (.bool true) := by
  have h0 := law_awake _ rfl
  have d1 : decide (w = 0) = false := decide_eq_false hw
  have h4' : (decide (q < 0) = false ∧ decide (55 < q) = false ∧ b2 = b1 ∧ A = B) ∨ ((decide (q < 0) = true ∨ (decide (q < 0) = false ∧ decide (55 < q) = true)) ∧ Meets Tryd.prog 9 [.ints .u64 b1, .ints .u64 [w]] (.tup [.ints .u64 b2, .int .i64 0])) := by
    rcases h4 with ⟨h, h'⟩ | ⟨h, h'⟩
    · exact .inl ⟨decide_eq_false (by omega), decide_eq_false (by omega), h'⟩
    · refine .inr ⟨?_, h'⟩
      by_cases hq : q < 0
      · exact .inl (decide_eq_true hq)
      · exact .inr ⟨decide_eq_false hq, decide_eq_true (by omega)⟩
  clear h4 hw
  rcases hc with ⟨hAB, rfl, rfl⟩ | ⟨hAB, rfl, rfl⟩
  case' inl => have d2 := decide_eq_true hAB
  case' inr => have d2 := decide_eq_false hAB
  all_goals rcases h4' with ⟨d3, d4, rfl, hAB2⟩ | ⟨d3 | ⟨d3, d4⟩, h7⟩
  all_goals first
    | (exact absurd hAB2 hAB)
    | skip
  all_goals clear hAB
  all_goals (refine meets_by ttOk Tryd.func4 Tryd.ntmps4 Tryd.results4 (by kernel_rfl) (c := _) rfl rfl rfl fun E => ?_; simp only [argsFrame])
  all_goals
    repeat' first
      | (with_reducible first | refine PW.seq ?_ | refine PW.block ?_ | refine PW.fork ?_ | refine PW.skip ?_ | refine PW.exit ?_ | refine PW.ret ?_ | refine PW.scope ?_ | refine PW.label ?_ | refine PW.goto ?_)
      | (simp only [d1, d2, d3, he])
      | (simp only [d4])
      | (with_reducible refine PW.region ttOk ?_ ?_
         · rfl)
      | (with_reducible refine PW.regionD ttOk mixed ?_ ?_ ?_
         · rfl
         · rfl)
      | (with_reducible refine ifW_dec (fun g => ?_) (fun g => ?_) <;> first | (exfalso; omega) | (simp -dsimp only [g, wkI]))
      | (with_reducible refine condE_dec (fun g => ?_) (fun g => ?_) <;> try (exfalso; omega))
      | (with_reducible refine condE_not (fun g => ?_) (fun g => ?_) <;> try (exfalso; omega))
      | (simp -dsimp only [↓wkA, ↓wkE, ↓wkJ, wkB, ↓tt, Nat.reduceBEq, Nat.reduceEqDiff, ↓reduceIte, Nat.reduceLT, Array.toList, Nat.reduceAdd, Nat.reduceMul, Int.reduceToNat, Int.reducePow, UInt8.reduceToNat])
      | (refine call_by (h0) (views_data rfl) trivial rfl ?_)
      | (refine call_by (h1) (views_data rfl) ⟨trivial, trivial⟩ rfl ?_)
      | (refine call_by (h2) (views_data rfl) ⟨trivial, trivial, trivial⟩ rfl ?_)
      | (refine call_drop (args' := [.ints .u64 [lo, hi], .int .u64 w, .int .u64 0]) rfl h3 ⟨Nat.le_refl _, trivial, trivial, trivial⟩ rfl ?_; simp only [wkD, Nat.reduceBEq])
      | (refine call_drop (args' := [.ints .u64 b1, .ints .u64 [w]]) rfl h7 ⟨trivial, Nat.le_refl _, trivial⟩ rfl ?_; simp only [wkD, Nat.reduceBEq])
      | (refine call_by (h5) (views_data rfl) ⟨trivial, trivial, trivial, trivial, trivial⟩ rfl ?_)
      | (refine call_by (h6) (views_data rfl) ⟨trivial, trivial, trivial, trivial, trivial⟩ rfl ?_)
      | (simp -dsimp (disch := first | assumption | omega) only [dec_t, dec_f])
      | (refine And.intro ?_ ?_
         · first | omega | decide | (simp (disch := omega) only [wkW, Int.reduceToNat, Int.reducePow] <;> omega) | (simp <;> omega))
      | (simp (disch := omega) only [wkW, Int.reduceToNat, Int.reducePow])
      | fail

theorem quick_sure (w : Nat) (hw : w < 18446744073709551616) (q : Int) : Meets Tryd.prog 4 [.int .u64 (w : Int), .int .i64 q] (.bool true) := by
  have h2 := quick_step w hw q
  by_cases h0 : w = 0
  · subst h0
    rw [decide_eq_true (show stepOk 0 q from .inl rfl)] at h2
    unfold stepV at h2
    rw [if_pos rfl] at h2
    by_cases hq : -342 ≤ q ∧ q ≤ 308
    · exact sure_none 0 q _ _ _ _ _ _ (quick_power q hq) h2 (.inl ⟨rfl, rfl, rfl⟩)
    · exact sure_none 0 q _ _ _ _ _ _ (quick_power_err q (by omega)) h2 (.inl ⟨rfl, rfl, rfl⟩)
  · have hw0 : (w : Int) ≠ 0 := by omega
    by_cases hq : -342 ≤ q ∧ q ≤ 308
    · have h1 := quick_power q hq
      obtain ⟨p1, p2⟩ := rowP_bounds q
      have hE := rowE_bounds hq
      have hl := two_limbs p1 p2
      have hw2 : w < 2 ^ 64 := hw
      have s1 : stepLo w q = rbin (rowP q * w + 0) (rowE q + q) := by unfold stepLo; rw [Nat.add_zero, Nat.mul_comm]
      have s2 : stepHi w q = rbin (rowP q * w + 0 + w) (rowE q + q) := by unfold stepHi; rw [show w * (rowP q + 1) = rowP q * w + 0 + w by rw [Nat.mul_add, Nat.mul_one, Nat.add_zero, Nat.mul_comm]]
      have hok : stepOk w q ↔ ((0 ≤ q ∧ q ≤ 55) ∨ stepLo w q = stepHi w q) := ⟨fun h => h.elim (fun h => absurd h h0) fun h => h.2, fun h => .inr ⟨hq, h⟩⟩
      have hV : stepOk w q → stepV w q = stepLo w q := fun h => by unfold stepV; rw [if_neg h0, if_pos h]
      have hV2 := @step_not w q
      generalize rowP q = P at *
      generalize rowE q = ex at *
      have m1 := mul_two_lt p2 hw2
      have m2 : P * w + 0 + w < 2 ^ 193 := by
        rw [show (2 : Nat) ^ 193 = 2 ^ (128 + 64) + 2 ^ (128 + 64) by decide]
        have : 2 ^ 64 < 2 ^ (128 + 64) := by decide
        omega
      have n1 : P * w + 0 < NMax := nmaxb _ m1 (by decide)
      have n2 : P * w + 0 + w < NMax := nmaxb _ m2 (by decide)
      have h3 := mul_add_nat (c := 0) (nmaxb _ p2 (by decide)) hw (by decide) n1
      have h4 := add_nat n1 (nmaxb _ hw2 (by decide)) n2
      rw [natL_single h0 hw] at h4
      rw [hl] at h3
      have h5 := round_bin n1 false (ex + q) ⟨by omega, by omega⟩
      have h6 := round_bin n2 false (ex + q) ⟨by omega, by omega⟩
      rw [signed_f, ← s1] at h5
      rw [signed_f, ← s2] at h6
      by_cases h55 : 0 ≤ q ∧ q ≤ 55
      · have hk := hok.2 (.inl h55)
        rw [decide_eq_true hk, hV hk] at h2
        exact sure_walk (w : Int) q hw0 _ _ ex (ex + q) _ _ _ _ _ _ h1 h2 h3 (.inl ⟨h55, rfl, rfl⟩) (wrap_i64 (by omega)) h5 h5 (.inl ⟨rfl, rfl, rfl⟩)
      · refine sure_walk (w : Int) q hw0 _ _ ex (ex + q) _ _ _ _ _ _ h1 h2 h3 (.inr ⟨h55, h4⟩) (wrap_i64 (by omega)) h5 h6 ?_
        by_cases hAB : stepLo w q = stepHi w q
        · have hk := hok.2 (.inr hAB)
          exact .inl ⟨by rw [hAB], decide_eq_true hk, by rw [hV hk]⟩
        · have hk : ¬ stepOk w q := fun h => (hok.1 h).elim h55 hAB
          exact .inr ⟨by omega, decide_eq_false hk, by rw [hV2 hk]; rfl⟩
    · have hk : ¬ stepOk w q := fun h => h.elim (fun h => h0 h) fun h => hq h.1
      rw [decide_eq_false hk, step_not hk] at h2
      exact sure_none _ q _ _ _ _ _ _ (quick_power_err q (by omega)) h2 (.inr ⟨hw0, by decide, rfl, rfl⟩)
end Go.Proofs.YtbmhnjghpjkjpaaDoor
set_option maxHeartbeats 4000000
set_option maxRecDepth 4000
set_option exponentiation.threshold 300000
set_option linter.unusedVariables false
set_option linter.unusedSimpArgs false
namespace Go.Proofs.YtbmhnjghpjkjpaaDoor
open Go Go.PV

theorem cut_at2 (i n : Nat) {E : Entry Tryd.prog} {nt : Nat} {ops : Array Oper} {d : Bool} {Q : Exit → PV.Frame → Heap → Prop} {F : PV.Frame} {H : Heap} (hl : n ≤ F.length) (F' : PV.Frame) (H' : Heap) (hs : Sub E nt F H F' H') (h : PW Tryd.prog E nt (.region i ops d) Q F' H') : PW Tryd.prog E nt (.region i ops d) Q F H := PW.sub hs h
theorem sound_walk (w q R1 R2 X : Int) (ok1 ok2 : Bool) (h1 : Meets Tryd.prog 17 [.int .u64 w, .int .i64 q] (.tup [.int .u64 R1, .bool ok1])) (h2 : Meets Tryd.prog 14 [.int .u64 w, .int .i64 q] (.tup [.int .u64 R2, .bool ok2]))
    (hs : ok1 = true ↔ (w ≤ 9007199254740992 ∧ -22 ≤ q ∧ q ≤ 22)) (hs0 : ok1 = false → R1 = 0) (ht0 : ok2 = false → R2 = 0)
    (hc : (w = 0 ∧ ok2 = true ∧ R2 = 0 ∧ R1 = 0) ∨ (w ≠ 0 ∧ ((q < -342 ∨ 308 < q) ∧ ok2 = false ∨ ((-342 ≤ q ∧ q ≤ 308) ∧ Meets Tryd.prog 18 [.ints .u64 [w], .int .i64 q] (.tup [.int .u64 X, .bool true]) ∧ (ok1 = true → R1 = X) ∧ ((ok2 = true ∧ R2 = X) ∨ (ok2 = false ∧ (q < 0 ∨ 55 < q))))))) :
    Meets Tryd.prog 5 [.int .u64 w, .int .i64 q] (.bool true) := by
  have h0 := law_awake _ rfl
  have hs' : (ok1 = true ∧ decide (w ≤ 9007199254740992) = true ∧ decide (-22 ≤ q) = true ∧ decide (q ≤ 22) = true) ∨ (ok1 = false ∧ decide (w ≤ 9007199254740992) = false ∧ decide (w ≤ 9007199254740992) = false ∧ decide (w ≤ 9007199254740992) = false) ∨ (ok1 = false ∧ decide (w ≤ 9007199254740992) = true ∧ decide (-22 ≤ q) = false ∧ decide (-22 ≤ q) = false) ∨ (ok1 = false ∧ decide (w ≤ 9007199254740992) = true ∧ decide (-22 ≤ q) = true ∧ decide (q ≤ 22) = false) := by
    cases ok1 with
    | true =>
      obtain ⟨a, b, c⟩ := hs.1 rfl
      exact .inl ⟨rfl, decide_eq_true a, decide_eq_true b, decide_eq_true c⟩
    | false =>
      have hn : ¬ (w ≤ 9007199254740992 ∧ -22 ≤ q ∧ q ≤ 22) := fun h => by cases hs.2 h
      refine .inr ?_
      by_cases a : w ≤ 9007199254740992
      · by_cases b : -22 ≤ q
        · exact .inr (.inr ⟨rfl, decide_eq_true a, decide_eq_true b, decide_eq_false (by omega)⟩)
        · exact .inr (.inl ⟨rfl, decide_eq_true a, decide_eq_false b, decide_eq_false b⟩)
      · exact .inl ⟨rfl, decide_eq_false a, decide_eq_false a, decide_eq_false a⟩
  have hc' : (decide (w = 0) = true ∧ ok2 = true ∧ R2 = 0 ∧ R1 = 0) ∨ (decide (w = 0) = false ∧ ((decide (q < -342) = true ∧ decide (q < -342) = true ∧ ok2 = false) ∨ (decide (q < -342) = false ∧ decide (308 < q) = true ∧ ok2 = false))) ∨ (decide (w = 0) = false ∧ decide (q < -342) = false ∧ decide (308 < q) = false ∧ Meets Tryd.prog 18 [.ints .u64 [w], .int .i64 q] (.tup [.int .u64 X, .bool true]) ∧ (ok1 = true → R1 = X) ∧ ((ok2 = true ∧ R2 = X) ∨ (ok2 = false ∧ ((decide (q < 0) = true ∧ decide (q < 0) = true) ∨ (decide (q < 0) = false ∧ decide (55 < q) = true))))) := by
    rcases hc with ⟨h, h'⟩ | ⟨h, h' | ⟨⟨ha, hb⟩, hX, hk, hj⟩⟩
    · exact .inl ⟨decide_eq_true h, h'⟩
    · refine .inr (.inl ⟨decide_eq_false h, ?_⟩)
      by_cases hq : q < -342
      · exact .inl ⟨decide_eq_true hq, decide_eq_true hq, h'.2⟩
      · exact .inr ⟨decide_eq_false hq, decide_eq_true (h'.1.resolve_left hq), h'.2⟩
    · refine .inr (.inr ⟨decide_eq_false h, decide_eq_false (by omega), decide_eq_false (by omega), hX, hk, ?_⟩)
      rcases hj with hj | ⟨hj, hq⟩
      · exact .inl hj
      · refine .inr ⟨hj, ?_⟩
        by_cases h0 : q < 0
        · exact .inl ⟨decide_eq_true h0, decide_eq_true h0⟩
        · exact .inr ⟨decide_eq_false h0, decide_eq_true (hq.resolve_left h0)⟩
  clear hc hs
  refine meets_by ttOk Tryd.func5 Tryd.ntmps5 Tryd.results5 (by kernel_rfl) (c := _) rfl rfl rfl fun E => ?_
  simp only [argsFrame]
  repeat' first
    | (refine cut_at2 6 9 (Nat.le_of_ble_eq_true rfl) [(9, .bool ok2), (8, .int .u64 R2), (7, .bool ok1), (6, .int .u64 R1), (4, .bool false), (1, .int .i64 q), (0, .int .u64 w)] ⟨0, [], [], []⟩ (Sub.norm ⟨rfl, rfl, rfl, rfl, rfl, rfl, rfl, trivial⟩ trivial (Nat.le_refl _) rfl rfl rfl rfl) ?_; rcases hc' with ⟨d4, rfl, rfl, rfl⟩ | ⟨d4, ⟨d5, d6, rfl⟩ | ⟨d5, d6, rfl⟩⟩ | ⟨d4, d5, d6, hX, hk, ⟨rfl, rfl⟩ | ⟨rfl, ⟨d7, d8⟩ | ⟨d7, d8⟩⟩⟩; all_goals rcases hs' with ⟨rfl, d1, d2, d3⟩ | ⟨rfl, d1, d2, d3⟩ | ⟨rfl, d1, d2, d3⟩ | ⟨rfl, d1, d2, d3⟩; all_goals (try obtain rfl := hs0 rfl); all_goals (try obtain rfl := ht0 rfl); all_goals (try obtain rfl := hk rfl))
    | (with_reducible first | refine PW.seq ?_ | refine PW.block ?_ | refine PW.fork ?_ | refine PW.skip ?_ | refine PW.exit ?_ | refine PW.ret ?_ | refine PW.scope ?_ | refine PW.label ?_ | refine PW.goto ?_)
    | (simp only [d1, d2, d3, d4])
    | (simp only [d5, d6])
    | (simp only [d7, d8])
    | (with_reducible refine PW.region ttOk ?_ ?_
       · rfl)
    | (with_reducible refine PW.regionD ttOk mixed ?_ ?_ ?_
       · rfl
       · rfl)
    | (with_reducible refine ifW_dec (fun g => ?_) (fun g => ?_) <;> first | (exfalso; omega) | (simp -dsimp only [g, wkI]))
    | (with_reducible refine condE_dec (fun g => ?_) (fun g => ?_) <;> try (exfalso; omega))
    | (with_reducible refine condE_not (fun g => ?_) (fun g => ?_) <;> try (exfalso; omega))
    | (simp -dsimp only [↓wkA, ↓wkE, ↓wkJ, wkB, ↓tt, Nat.reduceBEq, Nat.reduceEqDiff, ↓reduceIte, Nat.reduceLT, Array.toList, Nat.reduceAdd, Nat.reduceMul, Int.reduceToNat, Int.reducePow, UInt8.reduceToNat])
    | (refine call_by (h0) (views_data rfl) trivial rfl ?_)
    | (refine call_by (h1) (views_data rfl) ⟨trivial, trivial, trivial⟩ rfl ?_)
    | (refine call_by (h2) (views_data rfl) ⟨trivial, trivial, trivial⟩ rfl ?_)
    | (refine call_by' (args' := [.ints .u64 [w], .int .i64 q]) rfl hX ⟨Nat.le_refl _, trivial, trivial⟩ rfl ?_)
    | (simp -dsimp (disch := first | assumption | omega) only [dec_t, dec_f])
    | (refine And.intro ?_ ?_
       · first | omega | decide | (simp (disch := omega) only [wkW, Int.reduceToNat, Int.reducePow] <;> omega) | (simp <;> omega))
    | (simp (disch := omega) only [wkW, Int.reduceToNat, Int.reducePow])
    | fail

theorem quick_sound (w : Nat) (hw : w < 18446744073709551616) (q : Int) : Meets Tryd.prog 5 [.int .u64 (w : Int), .int .i64 q] (.bool true) := by
  have h1 := quick_small_all w q
  have h2 := quick_step w hw q
  have hV1 : smallOk w q → smallV w q = rdec w q := fun h => by unfold smallV; rw [if_pos h]
  have hV0 : ¬ smallOk w q → smallV w q = 0 := fun h => by unfold smallV; rw [if_neg h]
  refine sound_walk (w : Int) q _ _ (rdec w q : Int) _ _ h1 h2 ?_ (fun h => by rw [hV0 (of_decide_eq_false h)]; rfl) (fun h => by rw [step_not (of_decide_eq_false h)]; rfl) ?_
  · rw [decide_eq_true_eq]
    unfold smallOk
    omega
  · by_cases h0 : w = 0
    · subst h0
      have hk : stepOk 0 q := .inl rfl
      refine .inl ⟨rfl, decide_eq_true hk, by rw [step_right hk, rdec_zero]; rfl, ?_⟩
      by_cases h : smallOk 0 q
      · rw [hV1 h, rdec_zero]; rfl
      · rw [hV0 h]; rfl
    · refine .inr ⟨by omega, ?_⟩
      by_cases hq : -342 ≤ q ∧ q ≤ 308
      · refine .inr ⟨hq, ?_, fun h => by rw [hV1 (of_decide_eq_true h)], ?_⟩
        · have hw2 : w < 2 ^ 64 := hw
          have hb : w * 10 ^ q.toNat < 2 ^ 2000 := by
            have h10 : 10 ^ q.toNat < 2 ^ 1100 := Nat.lt_of_le_of_lt (Nat.pow_le_pow_right (by decide) (show q.toNat ≤ 308 by omega)) (by decide +kernel)
            have hm := Nat.mul_lt_mul_of_lt_of_lt hw2 h10
            rw [← Nat.pow_add] at hm
            exact Nat.lt_of_lt_of_le hm (Nat.pow_le_pow_right (by decide) (by decide))
          have hx := law_exactly (v := w) q ⟨by omega, by omega⟩ (nmax_of hw2 (by decide)) (nmax_of hb (by decide))
          rw [natL_single h0 hw] at hx
          exact hx
        · by_cases hk : stepOk w q
          · exact .inl ⟨decide_eq_true hk, by rw [step_right hk]⟩
          · refine .inr ⟨decide_eq_false hk, ?_⟩
            by_cases h55 : 0 ≤ q ∧ q ≤ 55
            · exact absurd (.inr ⟨hq, .inl h55⟩) hk
            · omega
      · exact .inl ⟨by omega, decide_eq_false fun hk => hk.elim (fun h => h0 h) fun h => hq h.1⟩
end Go.Proofs.YtbmhnjghpjkjpaaDoor
set_option maxHeartbeats 4000000
set_option maxRecDepth 4000
set_option exponentiation.threshold 300000
set_option linter.unusedVariables false
set_option linter.unusedSimpArgs false
namespace Go.Proofs.YtbmhnjghpjkjpaaDoor
open Go Go.PV

theorem true_walk (neg : Bool) (s : List Int) (x out R R' : Int) (ok nm : Bool) (a : List Int) (hsl : s.length ≤ 140737488351232) (h1 : Meets Tryd.prog 19 [.agg [.bool neg, .str s, .int .i64 x]] (.tup [.int .u64 out, .bool ok])) (h2 : Meets Tryd.prog 20 [.agg [.bool neg, .str s, .int .i64 x]] (.bool nm))
    (hc : (nm = false ∧ ok = false ∧ out = 0) ∨ (nm = true ∧ s = [48] ∧ ok = true ∧ out = signW neg) ∨ (nm = true ∧ s ≠ [48] ∧ ok = false ∧ out = 0 ∧ (15 < s.length ∨ x < -22 ∨ 22 < x)) ∨ (nm = true ∧ s ≠ [48] ∧ ok = true ∧ 2000 < s.length) ∨
      (nm = true ∧ s ≠ [48] ∧ ok = true ∧ s.length ≤ 2000 ∧ (-3000 ≤ x ∧ x ≤ 3000) ∧ Meets Tryd.prog 21 [.str s] (.tup [.ints .u64 a, .int .i64 0, .int .i64 0]) ∧ Meets Tryd.prog 18 [.ints .u64 a, .int .i64 x] (.tup [.int .u64 R, .bool true]) ∧ (neg = false → out = R) ∧ (neg = true → Meets Tryd.prog 22 [.int .u64 R] (.int .u64 out)))) :
    Meets Tryd.prog 6 [.agg [.bool neg, .str s, .int .i64 x]] (.bool true) := by
  have h0 := law_awake _ rfl
  have h9 : decide (x = x) = true := decide_eq_true rfl
  rcases hc with ⟨rfl, rfl, rfl⟩ | ⟨rfl, hs, rfl, rfl⟩ | ⟨rfl, hs, rfl, rfl, hx⟩ | ⟨rfl, hs, rfl, hl⟩ | ⟨rfl, hs, rfl, hl, ⟨hx1, hx2⟩, h3, h4, hn0, hn1⟩
  · skip
    refine meets_by ttOk Tryd.func6 Tryd.ntmps6 Tryd.results6 (by kernel_rfl) (c := _) rfl rfl rfl fun E => ?_
    simp only [argsFrame]
    repeat' first
      | (with_reducible first | refine PW.seq ?_ | refine PW.block ?_ | refine PW.fork ?_ | refine PW.skip ?_ | refine PW.exit ?_ | refine PW.ret ?_ | refine PW.scope ?_ | refine PW.label ?_ | refine PW.goto ?_)
      | (with_reducible refine PW.region ttOk ?_ ?_
         · rfl)
      | (with_reducible refine PW.regionD ttOk mixed ?_ ?_ ?_
         · rfl
         · rfl)
      | (with_reducible refine ifW_dec (fun g => ?_) (fun g => ?_) <;> first | (exfalso; omega) | (simp -dsimp only [g, wkI]))
      | (with_reducible refine condE_dec (fun g => ?_) (fun g => ?_) <;> try (exfalso; omega))
      | (with_reducible refine condE_not (fun g => ?_) (fun g => ?_) <;> try (exfalso; omega))
      | (simp -dsimp only [↓wkA, ↓wkE, ↓wkJ, wkB, ↓tt, Nat.reduceBEq, Nat.reduceEqDiff, ↓reduceIte, Nat.reduceLT, Array.toList, Nat.reduceAdd, Nat.reduceMul, Int.reduceToNat, Int.reducePow, UInt8.reduceToNat])
      | (refine call_by (h0) (views_data rfl) trivial rfl ?_)
      | (refine call_by (h1) (views_data rfl) (by simp only [okViews, okView, okViews0, okView0, and_self]) rfl ?_)
      | (refine call_by (h2) (views_data rfl) (by simp only [okViews, okView, okViews0, okView0, and_self]) rfl ?_)
      | (simp -dsimp (disch := first | assumption | omega) only [dec_t, dec_f])
      | (refine And.intro ?_ ?_
         · first | omega | decide | (simp (disch := omega) only [wkW, Int.reduceToNat, Int.reducePow] <;> omega) | (simp <;> omega))
      | (simp (disch := omega) only [wkW, Int.reduceToNat, Int.reducePow])
      | fail
  · have d1 : decide (s = [48]) = true := decide_eq_true hs
    cases neg
    case' false => have h1 : Meets Tryd.prog 19 [.agg [.bool false, .str s, .int .i64 x]] (.tup [.int .u64 0, .bool true]) := h1
    case' true => have h1 : Meets Tryd.prog 19 [.agg [.bool true, .str s, .int .i64 x]] (.tup [.int .u64 9223372036854775808, .bool true]) := h1
    all_goals (refine meets_by ttOk Tryd.func6 Tryd.ntmps6 Tryd.results6 (by kernel_rfl) (c := _) rfl rfl rfl fun E => ?_; simp only [argsFrame])
    all_goals
      repeat' first
        | (with_reducible first | refine PW.seq ?_ | refine PW.block ?_ | refine PW.fork ?_ | refine PW.skip ?_ | refine PW.exit ?_ | refine PW.ret ?_ | refine PW.scope ?_ | refine PW.label ?_ | refine PW.goto ?_)
        | (simp only [d1])
        | (with_reducible refine PW.region ttOk ?_ ?_
           · rfl)
        | (with_reducible refine PW.regionD ttOk mixed ?_ ?_ ?_
           · rfl
           · rfl)
        | (with_reducible refine ifW_dec (fun g => ?_) (fun g => ?_) <;> first | (exfalso; omega) | (simp -dsimp only [g, wkI]))
        | (with_reducible refine condE_dec (fun g => ?_) (fun g => ?_) <;> try (exfalso; omega))
        | (with_reducible refine condE_not (fun g => ?_) (fun g => ?_) <;> try (exfalso; omega))
        | (simp -dsimp only [↓wkA, ↓wkE, ↓wkJ, wkB, ↓tt, Nat.reduceBEq, Nat.reduceEqDiff, ↓reduceIte, Nat.reduceLT, Array.toList, Nat.reduceAdd, Nat.reduceMul, Int.reduceToNat, Int.reducePow, UInt8.reduceToNat])
        | (refine call_by (h0) (views_data rfl) trivial rfl ?_)
        | (refine call_by (h1) (views_data rfl) (by simp only [okViews, okView, okViews0, okView0, and_self]) rfl ?_)
        | (refine call_by (h2) (views_data rfl) (by simp only [okViews, okView, okViews0, okView0, and_self]) rfl ?_)
        | (simp -dsimp (disch := first | assumption | omega) only [dec_t, dec_f])
        | (refine And.intro ?_ ?_
           · first | omega | decide | (simp (disch := omega) only [wkW, Int.reduceToNat, Int.reducePow] <;> omega) | (simp <;> omega))
        | (simp (disch := omega) only [wkW, Int.reduceToNat, Int.reducePow])
        | fail
  · have d1 : decide (s = [48]) = false := decide_eq_false hs
    have hx' : (decide (15 < (s.length : Int)) = true ∧ decide (15 < (s.length : Int)) = true ∧ decide (15 < (s.length : Int)) = true) ∨ (decide (15 < (s.length : Int)) = false ∧ decide (x < -22) = true ∧ decide (x < -22) = true) ∨ (decide (15 < (s.length : Int)) = false ∧ decide (x < -22) = false ∧ decide (22 < x) = true) := by
      by_cases h : 15 < s.length
      · have := decide_eq_true (show 15 < (s.length : Int) by omega); exact .inl ⟨this, this, this⟩
      · by_cases h' : x < -22
        · exact .inr (.inl ⟨decide_eq_false (by omega), decide_eq_true h', decide_eq_true h'⟩)
        · exact .inr (.inr ⟨decide_eq_false (by omega), decide_eq_false h', decide_eq_true (by omega)⟩)
    clear hx
    rcases hx' with ⟨d2, d3, d4⟩ | ⟨d2, d3, d4⟩ | ⟨d2, d3, d4⟩
    all_goals (refine meets_by ttOk Tryd.func6 Tryd.ntmps6 Tryd.results6 (by kernel_rfl) (c := _) rfl rfl rfl fun E => ?_; simp only [argsFrame])
    all_goals
      repeat' first
        | (with_reducible first | refine PW.seq ?_ | refine PW.block ?_ | refine PW.fork ?_ | refine PW.skip ?_ | refine PW.exit ?_ | refine PW.ret ?_ | refine PW.scope ?_ | refine PW.label ?_ | refine PW.goto ?_)
        | (simp only [d1, d2, d3, d4])
        | (with_reducible refine PW.region ttOk ?_ ?_
           · rfl)
        | (with_reducible refine PW.regionD ttOk mixed ?_ ?_ ?_
           · rfl
           · rfl)
        | (with_reducible refine ifW_dec (fun g => ?_) (fun g => ?_) <;> first | (exfalso; omega) | (simp -dsimp only [g, wkI]))
        | (with_reducible refine condE_dec (fun g => ?_) (fun g => ?_) <;> try (exfalso; omega))
        | (with_reducible refine condE_not (fun g => ?_) (fun g => ?_) <;> try (exfalso; omega))
        | (simp -dsimp only [↓wkA, ↓wkE, ↓wkJ, wkB, ↓tt, Nat.reduceBEq, Nat.reduceEqDiff, ↓reduceIte, Nat.reduceLT, Array.toList, Nat.reduceAdd, Nat.reduceMul, Int.reduceToNat, Int.reducePow, UInt8.reduceToNat])
        | (refine call_by (h0) (views_data rfl) trivial rfl ?_)
        | (refine call_by (h1) (views_data rfl) (by simp only [okViews, okView, okViews0, okView0, and_self]) rfl ?_)
        | (refine call_by (h2) (views_data rfl) (by simp only [okViews, okView, okViews0, okView0, and_self]) rfl ?_)
        | (simp -dsimp (disch := first | assumption | omega) only [dec_t, dec_f])
        | (refine And.intro ?_ ?_
           · first | omega | decide | (simp (disch := omega) only [wkW, Int.reduceToNat, Int.reducePow] <;> omega) | (simp <;> omega))
        | (simp (disch := omega) only [wkW, Int.reduceToNat, Int.reducePow])
        | fail
  · have d1 : decide (s = [48]) = false := decide_eq_false hs
    have d2 : decide (2000 < (s.length : Int)) = true := decide_eq_true (by omega)
    refine meets_by ttOk Tryd.func6 Tryd.ntmps6 Tryd.results6 (by kernel_rfl) (c := _) rfl rfl rfl fun E => ?_
    simp only [argsFrame]
    repeat' first
      | (with_reducible first | refine PW.seq ?_ | refine PW.block ?_ | refine PW.fork ?_ | refine PW.skip ?_ | refine PW.exit ?_ | refine PW.ret ?_ | refine PW.scope ?_ | refine PW.label ?_ | refine PW.goto ?_)
      | (simp only [d1, d2])
      | (with_reducible refine PW.region ttOk ?_ ?_
         · rfl)
      | (with_reducible refine PW.regionD ttOk mixed ?_ ?_ ?_
         · rfl
         · rfl)
      | (with_reducible refine ifW_dec (fun g => ?_) (fun g => ?_) <;> first | (exfalso; omega) | (simp -dsimp only [g, wkI]))
      | (with_reducible refine condE_dec (fun g => ?_) (fun g => ?_) <;> try (exfalso; omega))
      | (with_reducible refine condE_not (fun g => ?_) (fun g => ?_) <;> try (exfalso; omega))
      | (simp -dsimp only [↓wkA, ↓wkE, ↓wkJ, wkB, ↓tt, Nat.reduceBEq, Nat.reduceEqDiff, ↓reduceIte, Nat.reduceLT, Array.toList, Nat.reduceAdd, Nat.reduceMul, Int.reduceToNat, Int.reducePow, UInt8.reduceToNat])
      | (refine call_by (h0) (views_data rfl) trivial rfl ?_)
      | (refine call_by (h1) (views_data rfl) (by simp only [okViews, okView, okViews0, okView0, and_self]) rfl ?_)
      | (refine call_by (h2) (views_data rfl) (by simp only [okViews, okView, okViews0, okView0, and_self]) rfl ?_)
      | (simp -dsimp (disch := first | assumption | omega) only [dec_t, dec_f])
      | (refine And.intro ?_ ?_
         · first | omega | decide | (simp (disch := omega) only [wkW, Int.reduceToNat, Int.reducePow] <;> omega) | (simp <;> omega))
      | (simp (disch := omega) only [wkW, Int.reduceToNat, Int.reducePow])
      | fail
  · have d1 : decide (s = [48]) = false := decide_eq_false hs
    have d2 : decide (2000 < (s.length : Int)) = false := decide_eq_false (by omega)
    have d3 : decide (x < -3000) = false := decide_eq_false (by omega)
    have d4 : decide (3000 < x) = false := decide_eq_false (by omega)
    clear hx1 hx2 hl hs
    cases neg
    case' false => obtain rfl := hn0 rfl
    case' true => have h5 := hn1 rfl
    all_goals clear hn0 hn1
    all_goals (refine meets_by ttOk Tryd.func6 Tryd.ntmps6 Tryd.results6 (by kernel_rfl) (c := _) rfl rfl rfl fun E => ?_; simp only [argsFrame])
    all_goals
      repeat' first
        | (with_reducible first | refine PW.seq ?_ | refine PW.block ?_ | refine PW.fork ?_ | refine PW.skip ?_ | refine PW.exit ?_ | refine PW.ret ?_ | refine PW.scope ?_ | refine PW.label ?_ | refine PW.goto ?_)
        | (simp only [d1, d2, d3, d4])
        | (with_reducible refine PW.region ttOk ?_ ?_
           · rfl)
        | (with_reducible refine PW.regionD ttOk mixed ?_ ?_ ?_
           · rfl
           · rfl)
        | (with_reducible refine ifW_dec (fun g => ?_) (fun g => ?_) <;> first | (exfalso; omega) | (simp -dsimp only [g, wkI]))
        | (with_reducible refine condE_dec (fun g => ?_) (fun g => ?_) <;> try (exfalso; omega))
        | (with_reducible refine condE_not (fun g => ?_) (fun g => ?_) <;> try (exfalso; omega))
        | (simp -dsimp only [↓wkA, ↓wkE, ↓wkJ, wkB, ↓tt, Nat.reduceBEq, Nat.reduceEqDiff, ↓reduceIte, Nat.reduceLT, Array.toList, Nat.reduceAdd, Nat.reduceMul, Int.reduceToNat, Int.reducePow, UInt8.reduceToNat])
        | (refine call_by (h0) (views_data rfl) trivial rfl ?_)
        | (refine call_by (h1) (views_data rfl) (by simp only [okViews, okView, okViews0, okView0, and_self]) rfl ?_)
        | (refine call_by (h2) (views_data rfl) (by simp only [okViews, okView, okViews0, okView0, and_self]) rfl ?_)
        | (refine call_by (h3) (views_data rfl) ⟨trivial, trivial⟩ rfl ?_)
        | (refine call_by (h4) (views_data rfl) ⟨trivial, trivial, trivial⟩ rfl ?_)
        | (refine call_by (h5) (views_data rfl) ⟨trivial, trivial⟩ rfl ?_)
        | (simp -dsimp (disch := first | assumption | omega) only [dec_t, dec_f])
        | (refine And.intro ?_ ?_
           · first | omega | decide | (simp (disch := omega) only [wkW, Int.reduceToNat, Int.reducePow] <;> omega) | (simp <;> omega))
        | (simp (disch := omega) only [wkW, Int.reduceToNat, Int.reducePow])
        | fail

theorem normal_num {s : List Int} {x : Int} (h : NormalD s x) (hs : s ≠ [48]) : num 10 s ≠ 0 := by
  obtain ⟨h1, h2, _, _, h5⟩ := normal_iff.1 h
  have h6 := (h5 hs).1
  intro e
  have hp := List.length_pos_iff.2 h2
  exact h6 ((numN_allz (digs_all h1) s.length (Nat.le_refl _)).1 e 0 hp)

theorem try_range {s : List Int} {x : Int} (h : NormalD s x) (hs : s ≠ [48]) (hl : s.length ≤ 2000) (hk : tryK s x) : -2400 ≤ x ∧ x ≤ 308 := by
  rcases hk with hk | ⟨_, _, hk | hk⟩ | ⟨h1, _, hk, _⟩
  · exact absurd hk hs
  · have := hk.2; omega
  · rcases hk with hk | hk
    · exact absurd hk (normal_num h hs)
    · have := hk.1; omega
  · rcases hk with hk | hk
    · exact absurd hk (Nat.succ_ne_zero _)
    · have := hk.1; omega

theorem quick_true (neg : Bool) (s : List Int) (x : Int) (hsl : s.length ≤ 140737488351232) : Meets Tryd.prog 6 [.agg [.bool neg, .str s, .int .i64 x]] (.bool true) := by
  have hdec : Decidable (NormalD s x) := Classical.propDecidable _
  have h2 := law_normal neg s x hsl
  by_cases hN : NormalD s x
  · rw [decide_eq_true hN] at h2
    have h1 := quick_try neg hN hsl
    by_cases hs : s = [48]
    · refine true_walk neg s x _ 0 0 _ _ [] hsl h1 h2 (.inr (.inl ⟨rfl, hs, decide_eq_true (.inl hs), ?_⟩))
      unfold tryV
      rw [if_pos (.inl hs), hs, num_zero, rdec_zero]
      cases neg
      · rfl
      · rfl
    · by_cases hk : tryK s x
      · by_cases hl : s.length ≤ 2000
        · obtain ⟨x1, x2⟩ := try_range hN hs hl hk
          obtain ⟨hA, hne, _⟩ := normal_iff.1 hN
          have hr := read_nat (digs_all hA) hne (by omega)
          have hb := num_digs_lt (digs_all hA)
          have hb2 : num 10 s < 2 ^ 8000 := Nat.lt_trans (Nat.lt_of_lt_of_le hb (Nat.pow_le_pow_right (by decide) hl)) (by decide +kernel)
          have h10 : 10 ^ x.toNat < 2 ^ 1100 := Nat.lt_of_le_of_lt (Nat.pow_le_pow_right (by decide) (show x.toNat ≤ 308 by omega)) (by decide +kernel)
          have hb3 := Nat.mul_lt_mul_of_lt_of_lt hb2 h10
          rw [← Nat.pow_add] at hb3
          have hx := law_exactly (v := num 10 s) x ⟨by omega, by omega⟩ (nmax_of hb2 (by decide)) (nmax_of hb3 (by decide))
          clear hb hb2 hb3 h10
          refine true_walk neg s x _ _ 0 _ _ _ hsl h1 h2 (.inr (.inr (.inr (.inr ⟨rfl, hs, decide_eq_true hk, hl, ⟨by omega, by omega⟩, hr, hx, fun hn => ?_, fun hn => ?_⟩))))
          · unfold tryV
            rw [if_pos hk, hn, signed_f]
          · unfold tryV
            rw [if_pos hk, hn, signed_t]
            have := rdec_le (num 10 s) x
            unfold infB at this
            exact ieee_neg _ (by omega)
        · exact true_walk neg s x _ 0 0 _ _ [] hsl h1 h2 (.inr (.inr (.inr (.inl ⟨rfl, hs, decide_eq_true hk, by omega⟩))))
      · refine true_walk neg s x _ 0 0 _ _ [] hsl h1 h2 (.inr (.inr (.inl ⟨rfl, hs, decide_eq_false hk, ?_, ?_⟩)))
        · unfold tryV
          rw [if_neg hk]
          rfl
        · obtain ⟨hA, _⟩ := normal_iff.1 hN
          by_cases h15 : s.length ≤ 15
          · by_cases hx : -22 ≤ x ∧ x ≤ 22
            · exact absurd (try_sure hA h15 hx) hk
            · omega
          · omega
  · rw [decide_eq_false hN] at h2
    exact true_walk neg s x 0 0 0 _ _ [] hsl (try_not neg hN hsl) h2 (.inl ⟨rfl, rfl, rfl⟩)
end Go.Proofs.YtbmhnjghpjkjpaaDoor
set_option maxHeartbeats 4000000
set_option maxRecDepth 4000
set_option exponentiation.threshold 300000
set_option linter.unusedVariables false
set_option linter.unusedSimpArgs false
namespace Go.PV
open Go Go.RowKit

theorem opened_agg {P : Program} {w : World} {H : Type} {enc : TypeId × Value → H} {held : Bool} {t : TypeId} {ss : List Shape} (h : Typed P t ss) {cs : Array Value} {d : DataW H} {pl : List MemPlace} (hd : DataW.Trod enc P w 0 (fun _ => true) held t (.agg cs) d pl) (hn : ∀ n ∈ d.weights P t, n ≤ reachBytes) :
    ∃ ps : List PV, ps.length = ss.length ∧ (∀ j, j < ss.length → Fits (ss.getD j .bool) (ps.getD j .undef)) ∧ RD w (fun _ => False) (.agg ps) (.agg cs) := by
  obtain ⟨fuel, hf⟩ := hd
  have e : (Value.agg cs).cells.toList = cs.toList := rfl
  rw [e] at hf
  obtain ⟨ps, h1, h2, h3, h4⟩ := opened h hf hn
  have hsz : cs.size = ss.length := by rw [← h2, Array.length_toList]
  refine ⟨ps, h1, h3, .agg ps cs (by omega) (fun u hu => ?_) (fun i hi => ?_)⟩
  · obtain ⟨i, hi, rfl⟩ := List.getElem_of_mem hu
    have := (h4 i (by omega)).1
    rw [List.getD_eq_getElem?_getD, List.getElem?_eq_getElem hi] at this
    exact this
  · have := (h4 i (by omega)).2
    rw [List.getD_eq_getElem?_getD (l := cs.toList), Array.getElem?_toList] at this
    rw [Array.getD_eq_getD_getElem?]
    exact this
end Go.PV
namespace Go.Proofs.YtbmhnjghpjkjpaaDoor
open Go Go.PV

abbrev decS : List Shape := [.bool, .str, .int .i64]
theorem typed_dec : Typed Tryd.prog 42 decS :=
  .struct [[.bool], [.str], [.int .i64]] Tryd.underlying42 rfl (by kernel_rfl)
    (fun i f h => by
      match i, h with
      | 0, h => cases h; exact .bool (by kernel_rfl)
      | 1, h => cases h; exact .str (by kernel_rfl)
      | 2, h => cases h; exact .int (by kernel_rfl)
      | i + 3, h => simp at h)
    (fun i f h => by
      match i, h with
      | 0, h => cases h; exact ⟨rfl, by kernel_rfl⟩
      | 1, h => cases h; exact ⟨rfl, by kernel_rfl⟩
      | 2, h => cases h; exact ⟨rfl, by kernel_rfl⟩
      | i + 3, h => simp at h)
theorem fits_dec {ps : List PV} (hl : ps.length = decS.length) (hf : ∀ j, j < decS.length → Fits (decS.getD j .bool) (ps.getD j .undef)) : ∃ (neg : Bool) (s : List Int) (x : Int), PV.agg ps = .agg [.bool neg, .str s, .int .i64 x] ∧ s.length ≤ 140737488351232 ∧ (∀ c ∈ s, 0 ≤ c ∧ c < 256) ∧ (-9223372036854775808 ≤ x ∧ x ≤ 9223372036854775807) := by
  match ps, hl with
  | [p0, p1, p2], _ =>
    have h0 : Fits .bool p0 := hf 0 (by decide)
    have h1 : Fits .str p1 := hf 1 (by decide)
    have h2 : Fits (.int .i64) p2 := hf 2 (by decide)
    cases h0 with | bool neg =>
    cases h1 with | str t ht hb =>
    cases h2 with | int _ v hv =>
    exact ⟨neg, t, v, rfl, ht, hb, wf_i64 hv⟩
end Go.Proofs.YtbmhnjghpjkjpaaDoor

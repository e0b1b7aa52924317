import Derived.Test.YtjfakpogfakicaaDoorK2
set_option linter.unusedVariables false
set_option linter.unusedSimpArgs false
namespace Go.Proofs.YtjfakpogfakicaaDoor
open Go Go.PV

theorem pow10_ok (n : Nat) (hn : n < 9223372036854775807) (h : 10 ^ n < NMax) : Meets Tryd.prog 6 [.int .i64 (n : Int)] (.tup [.ints .u64 (natL (10 ^ n)), .int .i64 0]) := by
  have hp := pow_ten n hn _ (fun _ => rfl) (fun h2 => absurd h h2)
  refine meets_by ttOk Tryd.func6 Tryd.ntmps6 Tryd.results6 (by kernel_rfl) (c := _) rfl rfl rfl fun E => ?_
  simp only [argsFrame]
  repeat' first
    | (with_reducible first | refine PW.seq ?_ | refine PW.block ?_ | refine PW.fork ?_ | refine PW.skip ?_ | refine PW.exit ?_ | refine PW.ret ?_)
    | (with_reducible refine PW.region ttOk ?_ ?_
       · rfl)
    | (with_reducible refine PW.regionD ttOk mixed ?_ ?_ ?_
       · rfl
       · rfl)
    | (with_reducible refine ifW_dec (fun g => ?_) (fun g => ?_) <;> first | (exfalso; omega) | (simp -dsimp only [g, wkI]))
    | (with_reducible refine condE_dec (fun g => ?_) (fun g => ?_) <;> try (exfalso; omega))
    | (with_reducible refine condE_not (fun g => ?_) (fun g => ?_) <;> try (exfalso; omega))
    | (simp -dsimp only [↓wkA, wkB, ↓tt, Nat.reduceBEq, Nat.reduceEqDiff, ↓reduceIte, Nat.reduceLT, Array.toList, Nat.reduceAdd, Nat.reduceMul, Int.reduceToNat, Int.reducePow, UInt8.reduceToNat])
    | (refine call_drop (args' := [.ints .u64 [10], .int .i64 (n : Int)]) rfl hp (by simp -dsimp only [okViews, ↓wkA, wkB, ↓tt, Nat.reduceBEq, Nat.reduceEqDiff, ↓reduceIte, Nat.reduceLT, Array.toList, Nat.reduceAdd, Nat.reduceMul, Int.reduceToNat, Int.reducePow, UInt8.reduceToNat]; decide) rfl ?_)
    | (simp -dsimp (disch := first | assumption | omega) only [dec_t, dec_f])
    | (refine And.intro ?_ ?_
       · first | omega | decide | (simp (disch := omega) only [wkW, Int.reduceToNat, Int.reducePow] <;> omega) | (simp <;> omega))
    | (simp (disch := omega) only [wkW, Int.reduceToNat, Int.reducePow])
    | fail

theorem pow10_over (n : Nat) (hn : n < 9223372036854775807) (h : ¬ 10 ^ n < NMax) : Meets Tryd.prog 6 [.int .i64 (n : Int)] (.tup [.nil, .int .i64 2]) := by
  have hp := pow_ten n hn _ (fun h2 => absurd h2 h) (fun _ => rfl)
  refine meets_by ttOk Tryd.func6 Tryd.ntmps6 Tryd.results6 (by kernel_rfl) (c := _) rfl rfl rfl fun E => ?_
  simp only [argsFrame]
  repeat' first
    | (with_reducible first | refine PW.seq ?_ | refine PW.block ?_ | refine PW.fork ?_ | refine PW.skip ?_ | refine PW.exit ?_ | refine PW.ret ?_)
    | (with_reducible refine PW.region ttOk ?_ ?_
       · rfl)
    | (with_reducible refine PW.regionD ttOk mixed ?_ ?_ ?_
       · rfl
       · rfl)
    | (with_reducible refine ifW_dec (fun g => ?_) (fun g => ?_) <;> first | (exfalso; omega) | (simp -dsimp only [g, wkI]))
    | (with_reducible refine condE_dec (fun g => ?_) (fun g => ?_) <;> try (exfalso; omega))
    | (with_reducible refine condE_not (fun g => ?_) (fun g => ?_) <;> try (exfalso; omega))
    | (simp -dsimp only [↓wkA, wkB, ↓tt, Nat.reduceBEq, Nat.reduceEqDiff, ↓reduceIte, Nat.reduceLT, Array.toList, Nat.reduceAdd, Nat.reduceMul, Int.reduceToNat, Int.reducePow, UInt8.reduceToNat])
    | (refine call_by' (args' := [.ints .u64 [10], .int .i64 (n : Int)]) rfl hp (by simp -dsimp only [okViews, ↓wkA, wkB, ↓tt, Nat.reduceBEq, Nat.reduceEqDiff, ↓reduceIte, Nat.reduceLT, Array.toList, Nat.reduceAdd, Nat.reduceMul, Int.reduceToNat, Int.reducePow, UInt8.reduceToNat]; decide) rfl ?_)
    | (simp -dsimp (disch := first | assumption | omega) only [dec_t, dec_f])
    | (refine And.intro ?_ ?_
       · first | omega | decide | (simp (disch := omega) only [wkW, Int.reduceToNat, Int.reducePow] <;> omega) | (simp <;> omega))
    | (simp (disch := omega) only [wkW, Int.reduceToNat, Int.reducePow])
    | fail

theorem text_ten : text 10 false 10 = [49, 48] := by
  simp [text, digs, lettersOf, smalls]

theorem text_ge {b : Nat} (hb : 2 ≤ b) (u : Bool) : ∀ v, v ≠ 0 → b ^ ((text b u v).length - 1) ≤ v := by
  intro v
  induction v using Nat.strongRecOn with
  | _ v ih =>
    intro h0
    rw [text_step hb u h0, List.length_append, List.length_singleton, Nat.add_sub_cancel]
    by_cases h1 : v / b = 0
    · rw [h1, text_nil]; simp; omega
    · have h2 := ih _ (Nat.div_lt_self (by omega) (show 1 < b by omega)) h1
      have h3 : 0 < (text b u (v / b)).length := List.length_pos_iff.2 (text_ne hb u h1)
      have h4 : b ^ (text b u (v / b)).length = b ^ ((text b u (v / b)).length - 1) * b := by
        rw [← Nat.pow_succ]; congr 1; omega
      rw [h4]
      have h5 := Nat.div_mul_le_self v b
      have h6 : b ^ ((text b u (v / b)).length - 1) * b ≤ v / b * b := Nat.mul_le_mul_right _ h2
      omega

set_option exponentiation.threshold 300000 in
theorem ten_long {n : Nat} (h : 80000 ≤ n) : ¬ 10 ^ n < NMax := by
  have h1 : (10 : Nat) ^ 80000 ≤ 10 ^ n := Nat.pow_le_pow_right (by decide) h
  have h2 : (2 : Nat) ^ 262144 ≤ 10 ^ 80000 := by
    have e1 : (10 : Nat) ^ 80000 = (10 ^ 10) ^ 8000 := by rw [← Nat.pow_mul]
    have e2 : (2 : Nat) ^ 262144 ≤ (2 ^ 33) ^ 8000 := by
      rw [← Nat.pow_mul]; exact Nat.pow_le_pow_right (by decide) (by decide)
    rw [e1]
    exact Nat.le_trans e2 (Nat.pow_le_pow_left (by decide) 8000)
  rw [nmax_two]; omega

end Go.Proofs.YtjfakpogfakicaaDoor


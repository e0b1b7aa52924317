import Derived.Test.YtjfakpogfakicaaDoorR5
set_option linter.unusedVariables false
set_option linter.unusedSimpArgs false
namespace Go.Proofs.YtjfakpogfakicaaDoor
open Go Go.PV


set_option maxRecDepth 4000 in
set_option maxHeartbeats 4000000 in
theorem near_walk (s t K U T e x' ap tw : List Int) (y side half b : Int) (k mo : Nat) (c : Bool) (h : Int) (hh : h = if c then 49 else 48) (hsl : s.length ≤ 4000) (hk : k < s.length) (htl : t.length = k)
    (hrow : Meets Tryd.prog 5 [.str s] (.bool true)) (hrow2 : Meets Tryd.prog 5 [.str (48 :: t)] (.bool true))
    (hround : Meets Tryd.prog 4 [.str s, .int .i64 (k : Int), .bool (decide (mo = 1))] (.tup [.str t, .bool c, .int .i64 0]))
    (hpow : Meets Tryd.prog 6 [.int .i64 ((s.length : Int) - (k : Int))] (.tup [.ints .u64 U, .int .i64 0]))
    (hread : Meets Tryd.prog 7 [.str s] (.tup [.ints .u64 e, .int .i64 0, .int .i64 0]))
    (hread2 : Meets Tryd.prog 7 [.str (h :: t)] (.tup [.ints .u64 K, .int .i64 0, .int .i64 0]))
    (hmul : Meets Tryd.prog 8 [.ints .u64 K, .ints .u64 U] (.tup [.ints .u64 T, .int .i64 0]))
    (hcmp : Meets Tryd.prog 9 [.ints .u64 T, .ints .u64 e] (.int .i64 side))
    (hsub : Meets Tryd.prog 10 [.ints .u64 e, .ints .u64 T] (.tup [.ints .u64 x', .int .i64 y]))
    (hside : (side ≤ 0 ∧ x' = ap) ∨ (0 < side ∧ Meets Tryd.prog 10 [.ints .u64 T, .ints .u64 e] (.tup [.ints .u64 ap, .int .i64 0])))
    (hshl : Meets Tryd.prog 11 [.ints .u64 ap, .int .i64 1] (.tup [.ints .u64 tw, .int .i64 0]))
    (hcmp2 : Meets Tryd.prog 9 [.ints .u64 tw, .ints .u64 U] (.int .i64 half))
    (hbit : Meets Tryd.prog 12 [.ints .u64 K, .int .i64 0] (.int .i64 b))
    (hfin : (mo = 1 ∧ side ≤ 0 → half < 0) ∧ (¬ (mo = 1 ∧ side ≤ 0) → half < 0 ∨ half = 0 ∧ (mo = 1 ∨ b = 0))) :
    Meets Tryd.prog 3 [.str s, .int .i64 (k : Int), .bool (decide (mo = 1))] (.bool true) := by
  have w1 : IntKind.wrap .i64 ((s.length : Int) - (k : Int)) = (s.length : Int) - (k : Int) := wrap_i64 (by omega)
  refine meets_by ttOk Tryd.func3 Tryd.ntmps3 Tryd.results3 (by kernel_rfl) (c := _) rfl rfl rfl fun E => ?_
  simp only [argsFrame]
  rcases hside with ⟨hs1, rfl⟩ | ⟨hs1, hsub2⟩
  case' inl => have hsub2 := hsub
  all_goals cases c <;> simp only [Bool.false_eq_true, if_false, if_true] at hh <;> subst hh
  all_goals
    repeat' first
      | (simp only [eq_self, decide_true, Bool.not_true, w1])
      | (with_reducible first | refine PW.seq ?_ | refine PW.block ?_ | refine PW.fork ?_ | refine PW.skip ?_ | refine PW.exit ?_ | refine PW.ret ?_)
      | (with_reducible refine PW.region ttOk ?_ ?_
         · rfl)
      | (with_reducible refine PW.regionD ttOk mixed ?_ ?_ ?_
         · rfl
         · rfl)
      | (with_reducible refine ifW_dec (fun g => ?_) (fun g => ?_) <;> first | (exfalso; omega) | (simp -dsimp only [g, wkI]))
      | (with_reducible refine condE_dec (fun g => ?_) (fun g => ?_) <;> try (exfalso; omega))
      | (with_reducible refine condE_not (fun g => ?_) (fun g => ?_) <;> try (exfalso; omega))
      | (simp -dsimp only [↓wkA, wkB, ↓tt, Nat.reduceBEq, Nat.reduceEqDiff, ↓reduceIte, Nat.reduceLT, Array.toList, Nat.reduceAdd, Nat.reduceMul, Int.reduceToNat, Int.reducePow, UInt8.reduceToNat])
      | (refine call_by round_first (views_data rfl) ⟨trivial, trivial, trivial, trivial⟩ rfl ?_)
      | (refine call_by hround (views_data rfl) ⟨trivial, trivial, trivial, trivial⟩ rfl ?_)
      | (refine call_by hrow (views_data rfl) ⟨trivial, trivial⟩ rfl ?_)
      | (refine call_by hrow2 (views_data rfl) ⟨trivial, trivial⟩ rfl ?_)
      | (refine call_by hpow (views_data rfl) ⟨trivial, trivial⟩ rfl ?_)
      | (refine call_by hread (views_data rfl) ⟨trivial, trivial⟩ rfl ?_)
      | (refine call_by hread2 (views_data rfl) ⟨trivial, trivial⟩ rfl ?_)
      | (refine call_by hmul (views_data rfl) ⟨trivial, trivial, trivial⟩ rfl ?_)
      | (refine call_by hcmp (views_data rfl) ⟨trivial, trivial, trivial⟩ rfl ?_)
      | (refine call_by hsub (views_data rfl) ⟨trivial, trivial, trivial⟩ rfl ?_)
      | (refine call_by hsub2 (views_data rfl) ⟨trivial, trivial, trivial⟩ rfl ?_)
      | (refine call_by hshl (views_data rfl) ⟨trivial, trivial, trivial⟩ rfl ?_)
      | (refine call_by hcmp2 (views_data rfl) ⟨trivial, trivial, trivial⟩ rfl ?_)
      | (refine call_by hbit (views_data rfl) ⟨trivial, trivial, trivial⟩ rfl ?_)
      | (simp -dsimp (disch := first | assumption | omega) only [dec_t, dec_f])
      | (refine And.intro ?_ ?_
         · first | omega | decide | (simp (disch := omega) only [wkW, Int.reduceToNat, Int.reducePow] <;> omega) | (simp <;> omega))
      | (simp (disch := omega) only [wkW, Int.reduceToNat, Int.reducePow])
      | fail
  all_goals (refine congrArg PV.bool ?_; first | exact (decide_eq_true (by omega)).symm | exact decide_eq_true (by omega))
end Go.Proofs.YtjfakpogfakicaaDoor


/- Contracts and laws that the row leans on, part 10: texts that were built one by one, laid together. -/
import Derived.Test.YtbmhnjghpjkjpaaGreatDoorPart9
set_option maxHeartbeats 4000000
set_option maxRecDepth 4000
set_option exponentiation.threshold 300000
set_option linter.unusedVariables false
set_option linter.unusedSimpArgs false
namespace Go.Proofs.YtbmhnjghpjkjpaaGreatDoor
open Go Go.PV
theorem scan_blank (c : Int) : Meets Tryz.prog 92 [.int .u8 c] (.bool (blB c)) := by
  unfold blB
  by_cases h1 : c = 32
  case' pos => have d1 : decide (c = 32) = true := decide_eq_true h1
  case' neg => have d1 : decide (c = 32) = false := decide_eq_false h1
  all_goals by_cases h2 : 9 ≤ c
  all_goals first
    | (have d2 : decide (9 ≤ c) = true := decide_eq_true h2)
    | (have d2 : decide (9 ≤ c) = false := decide_eq_false h2)
  all_goals rw [d1, d2]
  all_goals (refine meets_by ttOk Tryz.func92 Tryz.ntmps92 Tryz.results92 (by kernel_rfl) (c := _) rfl rfl rfl fun E => ?_; simp only [argsFrame])
  all_goals
    repeat' first
      | (with_reducible first | refine PW.seq ?_ | refine PW.block ?_ | refine PW.fork ?_ | refine PW.skip ?_ | refine PW.exit ?_ | refine PW.ret ?_ | refine PW.scope ?_ | refine PW.label ?_ | refine PW.goto ?_)
      | (simp only [d1, d2, Bool.true_or, Bool.false_or, Bool.true_and, Bool.false_and])
      | (with_reducible refine PW.region ttOk ?_ ?_
         · rfl)
      | (with_reducible refine PW.regionD ttOk mixed ?_ ?_ ?_
         · rfl
         · rfl)
      | (with_reducible refine ifW_dec (fun g => ?_) (fun g => ?_) <;> first | (exfalso; omega) | (simp -dsimp only [g, wkI]))
      | (with_reducible refine condE_dec (fun g => ?_) (fun g => ?_) <;> try (exfalso; omega))
      | (with_reducible refine condE_not (fun g => ?_) (fun g => ?_) <;> try (exfalso; omega))
      | (simp -dsimp only [↓wkA, ↓wkE, ↓wkJ, wkB, ↓tt, Nat.reduceBEq, Nat.reduceEqDiff, ↓reduceIte, Nat.reduceLT, Array.toList, Nat.reduceAdd, Nat.reduceMul, Int.reduceToNat, Int.reducePow, UInt8.reduceToNat])
      | (simp -dsimp (disch := first | assumption | omega) only [dec_t, dec_f])
      | (refine And.intro ?_ ?_
         · first | omega | decide | (simp (disch := omega) only [wkW, Int.reduceToNat, Int.reducePow] <;> omega) | (simp <;> omega))
      | (simp (disch := omega) only [wkW, Int.reduceToNat, Int.reducePow])
      | fail
abbrev blF (s : List Int) (i : Nat) : PV.Frame := [(4, .int .i64 0), (1, .int .i64 (i : Int)), (0, .str s)]
theorem scan_blanks (s : List Int) (i : Nat) (hi : i ≤ s.length) (hsl : s.length ≤ 281474976710656) : Meets Tryz.prog 49 [.str s, .int .i64 (i : Int)] (.int .i64 (bend s i : Int)) := by
  refine meets_by ttOk Tryz.func49 Tryz.ntmps49 Tryz.results49 (by kernel_rfl) (c := _) rfl rfl rfl fun E => ?_
  simp only [argsFrame]
  repeat' first
    | (with_reducible first | refine PW.seq ?_ | refine PW.block ?_ | refine PW.fork ?_ | refine PW.skip ?_ | refine PW.exit ?_ | refine PW.ret ?_ | refine PW.scope ?_ | refine PW.label ?_ | refine PW.goto ?_)
    | (with_reducible refine PW.region ttOk ?_ ?_
       · rfl)
    | (with_reducible refine PW.regionD ttOk mixed ?_ ?_ ?_
       · rfl
       · rfl)
    | (with_reducible refine ifW_dec (fun g => ?_) (fun g => ?_) <;> first | (exfalso; omega) | (simp -dsimp only [g, wkI]))
    | (with_reducible refine condE_dec (fun g => ?_) (fun g => ?_) <;> try (exfalso; omega))
    | (with_reducible refine condE_not (fun g => ?_) (fun g => ?_) <;> try (exfalso; omega))
    | (simp -dsimp only [↓wkA, ↓wkE, ↓wkJ, wkB, ↓tt, Nat.reduceBEq, Nat.reduceEqDiff, ↓reduceIte, Nat.reduceLT, Array.toList, Nat.reduceAdd, Nat.reduceMul, Int.reduceToNat, Int.reducePow, UInt8.reduceToNat])
    | (simp -dsimp (disch := first | assumption | omega) only [dec_t, dec_f])
    | (refine And.intro ?_ ?_
       · first | omega | decide | (simp (disch := omega) only [wkW, Int.reduceToNat, Int.reducePow] <;> omega) | (simp <;> omega))
    | (simp (disch := omega) only [wkW, Int.reduceToNat, Int.reducePow])
    | fail
  refine PW.loopA (fun m F H => ∃ j : Nat, j + m = s.length ∧ bend s j = bend s i ∧ F = blF s j ∧ H = ⟨0, [], [], []⟩) (s.length - i) (blF s i) ⟨0, [], [], []⟩ (Sub.norm ⟨rfl, rfl, rfl, trivial⟩ trivial (Nat.le_refl _) rfl rfl rfl rfl (tyOk_spec rfl)) ⟨i, by omega, rfl, rfl, rfl⟩ ?_
  rintro m F H ⟨j, hj, hb, rfl, rfl⟩
  by_cases hl : j < s.length
  · have d1 : decide ((j : Int) < (s.length : Int)) = true := decide_eq_true (by omega)
    have h1 := scan_blank (s.getD j 0)
    have w1 : IntKind.wrap .i64 ((j : Int) + 1) = ((j + 1 : Nat) : Int) := wrap_i64 (by omega)
    cases hc : blB (s.getD j 0) with
    | true =>
      rw [hc] at h1
      repeat' first
        | (with_reducible first | refine PW.seq ?_ | refine PW.block ?_ | refine PW.fork ?_ | refine PW.skip ?_ | refine PW.exit ?_ | refine PW.ret ?_ | refine PW.scope ?_ | refine PW.label ?_ | refine PW.goto ?_)
        | (simp only [d1, w1, Int.toNat_natCast])
        | (with_reducible refine PW.region ttOk ?_ ?_
           · rfl)
        | (with_reducible refine PW.regionD ttOk mixed ?_ ?_ ?_
           · rfl
           · rfl)
        | (with_reducible refine ifW_dec (fun g => ?_) (fun g => ?_) <;> first | (exfalso; omega) | (simp -dsimp only [g, wkI]))
        | (with_reducible refine condE_dec (fun g => ?_) (fun g => ?_) <;> try (exfalso; omega))
        | (with_reducible refine condE_not (fun g => ?_) (fun g => ?_) <;> try (exfalso; omega))
        | (simp -dsimp only [↓wkA, ↓wkE, ↓wkJ, wkB, ↓tt, Nat.reduceBEq, Nat.reduceEqDiff, ↓reduceIte, Nat.reduceLT, Array.toList, Nat.reduceAdd, Nat.reduceMul, Int.reduceToNat, Int.reducePow, UInt8.reduceToNat])
        | (refine call_by (h1) (views_data rfl) ⟨trivial, trivial⟩ rfl ?_)
        | (simp -dsimp (disch := first | assumption | omega) only [dec_t, dec_f])
        | (refine And.intro ?_ ?_
           · first | omega | decide | (simp (disch := omega) only [wkW, Int.reduceToNat, Int.reducePow] <;> omega) | (simp <;> omega))
        | (simp (disch := omega) only [wkW, Int.reduceToNat, Int.reducePow])
        | fail
      exact Again.mk (m - 1) (blF s (j + 1)) ⟨0, [], [], []⟩ (by omega) (Sub.norm ⟨rfl, rfl, rfl, trivial⟩ trivial (Nat.le_refl _) rfl rfl rfl rfl (tyOk_spec rfl)) ⟨j + 1, by omega, by rw [← hb]; exact (run_step blB0 hc).symm, rfl, rfl⟩
    | false =>
      rw [hc] at h1
      have hb : bend s i = j := by rw [← hb]; exact run_stop hc
      rw [hb]
      repeat' first
        | (with_reducible first | refine PW.seq ?_ | refine PW.block ?_ | refine PW.fork ?_ | refine PW.skip ?_ | refine PW.exit ?_ | refine PW.ret ?_ | refine PW.scope ?_ | refine PW.label ?_ | refine PW.goto ?_)
        | (simp only [d1, w1, Int.toNat_natCast])
        | (with_reducible refine PW.region ttOk ?_ ?_
           · rfl)
        | (with_reducible refine PW.regionD ttOk mixed ?_ ?_ ?_
           · rfl
           · rfl)
        | (with_reducible refine ifW_dec (fun g => ?_) (fun g => ?_) <;> first | (exfalso; omega) | (simp -dsimp only [g, wkI]))
        | (with_reducible refine condE_dec (fun g => ?_) (fun g => ?_) <;> try (exfalso; omega))
        | (with_reducible refine condE_not (fun g => ?_) (fun g => ?_) <;> try (exfalso; omega))
        | (simp -dsimp only [↓wkA, ↓wkE, ↓wkJ, wkB, ↓tt, Nat.reduceBEq, Nat.reduceEqDiff, ↓reduceIte, Nat.reduceLT, Array.toList, Nat.reduceAdd, Nat.reduceMul, Int.reduceToNat, Int.reducePow, UInt8.reduceToNat])
        | (refine call_by (h1) (views_data rfl) ⟨trivial, trivial⟩ rfl ?_)
        | (simp -dsimp (disch := first | assumption | omega) only [dec_t, dec_f])
        | (refine And.intro ?_ ?_
           · first | omega | decide | (simp (disch := omega) only [wkW, Int.reduceToNat, Int.reducePow] <;> omega) | (simp <;> omega))
        | (simp (disch := omega) only [wkW, Int.reduceToNat, Int.reducePow])
        | fail
  · have d1 : decide ((j : Int) < (s.length : Int)) = false := decide_eq_false (by omega)
    have hb : bend s i = j := by
      rw [← hb]
      refine run_stop ?_
      rw [List.getD_eq_getElem?_getD, List.getElem?_eq_none (by omega)]
      decide
    rw [hb]
    repeat' first
      | (with_reducible first | refine PW.seq ?_ | refine PW.block ?_ | refine PW.fork ?_ | refine PW.skip ?_ | refine PW.exit ?_ | refine PW.ret ?_ | refine PW.scope ?_ | refine PW.label ?_ | refine PW.goto ?_)
      | (simp only [d1, Int.toNat_natCast])
      | (with_reducible refine PW.region ttOk ?_ ?_
         · rfl)
      | (with_reducible refine PW.regionD ttOk mixed ?_ ?_ ?_
         · rfl
         · rfl)
      | (with_reducible refine ifW_dec (fun g => ?_) (fun g => ?_) <;> first | (exfalso; omega) | (simp -dsimp only [g, wkI]))
      | (with_reducible refine condE_dec (fun g => ?_) (fun g => ?_) <;> try (exfalso; omega))
      | (with_reducible refine condE_not (fun g => ?_) (fun g => ?_) <;> try (exfalso; omega))
      | (simp -dsimp only [↓wkA, ↓wkE, ↓wkJ, wkB, ↓tt, Nat.reduceBEq, Nat.reduceEqDiff, ↓reduceIte, Nat.reduceLT, Array.toList, Nat.reduceAdd, Nat.reduceMul, Int.reduceToNat, Int.reducePow, UInt8.reduceToNat])
      | (simp -dsimp (disch := first | assumption | omega) only [dec_t, dec_f])
      | (refine And.intro ?_ ?_
         · first | omega | decide | (simp (disch := omega) only [wkW, Int.reduceToNat, Int.reducePow] <;> omega) | (simp <;> omega))
      | (simp (disch := omega) only [wkW, Int.reduceToNat, Int.reducePow])
      | fail
def nuF (s : List Int) : Nat := sgn s (bend s 0)
def nuOk (s : List Int) : Prop := mend s (nuF s) ≠ nuF s
instance (s : List Int) : Decidable (nuOk s) := inferInstanceAs (Decidable (_ ≠ _))
def nuN (s : List Int) : Bool := decide (s.getD (bend s 0) 0 = 45)
def nuD (s : List Int) : List Int := mdigs s (nuF s)
def nuX (s : List Int) : Int := eval s (mend s (nuF s)) - mplaces s (nuF s)
def nuE (s : List Int) : Nat := eend s (mend s (nuF s))
theorem bend_le (s : List Int) : bend s 0 ≤ s.length := run_le _ (Nat.zero_le _)
theorem nuF_le (s : List Int) : nuF s ≤ s.length := sgn_le (bend_le s)
theorem nuE_pos {s : List Int} (h : nuOk s) : 0 < nuE s := by
  have h1 := mend_ge s (nuF s)
  have h2 := eend_ge s (mend s (nuF s))
  unfold nuOk at h
  unfold nuE
  omega
theorem nuD_all (s : List Int) : AllD (nuD s) := all_digs (mdigs_digs s _)
theorem nuD_ne {s : List Int} (h : nuOk s) : nuD s ≠ [] := mdigs_ne (nuF_le s) h
theorem nuD_le (s : List Int) : (nuD s).length ≤ s.length := mdigs_le (nuF_le s)
theorem nuX_le {s : List Int} (hsl : s.length ≤ 281474976710656) : -1300000000000000 ≤ nuX s ∧ nuX s ≤ 1000000000000000 := by
  have h1 := eval_le s (mend s (nuF s))
  have h2 := mplaces_le (nuF_le s)
  unfold nuX
  omega
theorem normX_le {s : List Int} {x : Int} (hd : AllD s) : normX s x ≤ x + s.length ∨ normX s x = 0 := by
  rcases norm_val (x := x) hd with ⟨h1, h2, h3⟩ | ⟨h1, j, h2, h3, h4, h5, h6, h7, h8⟩
  · exact .inr h3
  · exact .inl (by omega)
theorem nu_ok {s : List Int} (h : nuOk s) (hsl : s.length ≤ 281474976710656) : NormOk (nuD s) (nuX s) := by
  have h1 := nuX_le hsl
  have h2 := nuD_le s
  refine ⟨nuD_ne h, ⟨by omega, by omega⟩, nuD_all s, ?_⟩
  rcases normX_le (x := nuX s) (nuD_all s) with h3 | h3 <;> omega
def nuS (s : List Int) : List Int := normS (nuD s)
def nuY (s : List Int) : Int := normX (nuD s) (nuX s)
theorem nu_normal {s : List Int} (h : nuOk s) (hsl : s.length ≤ 281474976710656) : NormalD (nuS s) (nuY s) :=
  norm_normal (nuD_all s) (nu_ok h hsl).2.1.1 (nu_ok h hsl).2.2.2
theorem nuS_le {s : List Int} (h : nuOk s) : (nuS s).length ≤ s.length := Nat.le_trans (norm_len (nuD_ne h)) (nuD_le s)
theorem number_walk (s : List Int) (b e : Int) (neg ok : Bool) (ds t : List Int) (x y : Int) (h1 : Meets Tryz.prog 49 [.str s, .int .i64 0] (.int .i64 b)) (h2 : Meets Tryz.prog 48 [.str s, .int .i64 b] (.tup [.agg [.bool neg, .str ds, .int .i64 x], .int .i64 e, .bool ok]))
    (h3 : ok = true → Meets Tryz.prog 50 [.agg [.bool neg, .str ds, .int .i64 x]] (.agg [.bool neg, .str t, .int .i64 y])) (res : PV) (hr1 : ok = false → res = .tup [.agg [.bool false, .str [], .int .i64 0], .int .i64 0]) (hr2 : ok = true → res = .tup [.agg [.bool neg, .str t, .int .i64 y], .int .i64 e]) :
    Meets Tryz.prog 19 [.str s] res := by
  cases ok
  case' true => replace h3 := h3 rfl; replace hr2 := hr2 rfl; subst hr2
  case' false => replace hr1 := hr1 rfl; subst hr1
  all_goals (refine meets_by ttOk Tryz.func19 Tryz.ntmps19 Tryz.results19 (by kernel_rfl) (c := _) rfl rfl rfl fun E => ?_; simp only [argsFrame])
  all_goals
    repeat' first
      | (with_reducible first | refine PW.seq ?_ | refine PW.block ?_ | refine PW.fork ?_ | refine PW.skip ?_ | refine PW.exit ?_ | refine PW.ret ?_ | refine PW.scope ?_ | refine PW.label ?_ | refine PW.goto ?_)
      | (with_reducible refine PW.region ttOk ?_ ?_
         · rfl)
      | (with_reducible refine PW.regionD ttOk mixed ?_ ?_ ?_
         · rfl
         · rfl)
      | (with_reducible refine ifW_dec (fun g => ?_) (fun g => ?_) <;> first | (exfalso; omega) | (simp -dsimp only [g, wkI]))
      | (with_reducible refine condE_dec (fun g => ?_) (fun g => ?_) <;> try (exfalso; omega))
      | (with_reducible refine condE_not (fun g => ?_) (fun g => ?_) <;> try (exfalso; omega))
      | (simp -dsimp only [↓wkA, ↓wkE, ↓wkJ, wkB, ↓tt, Nat.reduceBEq, Nat.reduceEqDiff, ↓reduceIte, Nat.reduceLT, Array.toList, Nat.reduceAdd, Nat.reduceMul, Int.reduceToNat, Int.reducePow, UInt8.reduceToNat])
      | (refine call_by (h1) (views_data rfl) ⟨trivial, trivial, trivial⟩ rfl ?_)
      | (refine call_by (h2) (views_data rfl) ⟨trivial, trivial, trivial⟩ rfl ?_)
      | (refine call_by (h3) (views_data rfl) (by simp only [okViews, okView, okViews0, okView0, and_self]) rfl ?_)
      | (simp -dsimp (disch := first | assumption | omega) only [dec_t, dec_f])
      | (refine And.intro ?_ ?_
         · first | omega | decide | (simp (disch := omega) only [wkW, Int.reduceToNat, Int.reducePow] <;> omega) | (simp <;> omega))
      | (simp (disch := omega) only [wkW, Int.reduceToNat, Int.reducePow])
      | fail
theorem scan_number {s : List Int} (h : nuOk s) (hsl : s.length ≤ 281474976710656) : Meets Tryz.prog 19 [.str s] (.tup [.agg [.bool (nuN s), .str (nuS s), .int .i64 (nuY s)], .int .i64 (nuE s : Int)]) :=
  number_walk s _ _ _ true _ _ _ _ (scan_blanks s 0 (Nat.zero_le _) hsl) (lit_walk s _ (bend_le s) hsl _ (fun e => absurd e h) fun _ => rfl) (fun _ => scan_normal _ _ _ (nu_ok h hsl).2.1 (Nat.le_trans (nuD_le s) hsl)) _ (fun e => by cases e) fun _ => rfl
theorem scan_number_no {s : List Int} (h : ¬ nuOk s) (hsl : s.length ≤ 281474976710656) : Meets Tryz.prog 19 [.str s] (.tup [.agg [.bool false, .str [], .int .i64 0], .int .i64 0]) :=
  number_walk s _ 0 false false [] [] 0 0 (scan_blanks s 0 (Nat.zero_le _) hsl) (lit_walk s _ (bend_le s) hsl _ (fun _ => rfl) fun e => absurd e h) (fun e => by cases e) _ (fun _ => rfl) fun e => by cases e
theorem parse_walk (s : List Int) (e R : Int) (neg : Bool) (t : List Int) (y : Int) (ok : Bool) (h0 : decide (e = 0) = !ok) (h1 : Meets Tryz.prog 19 [.str s] (.tup [.agg [.bool neg, .str t, .int .i64 y], .int .i64 e])) (h2 : ok = true → Meets Tryz.prog 21 [.agg [.bool neg, .str t, .int .i64 y]] (.tup [.int .u64 R, .int .i64 0]))
    (res : PV) (hr1 : ok = false → res = .tup [.int .u64 0, .int .i64 0]) (hr2 : ok = true → res = .tup [.int .u64 R, .int .i64 e]) : Meets Tryz.prog 16 [.str s] res := by
  cases ok
  case' true => replace h2 := h2 rfl; replace hr2 := hr2 rfl; subst hr2
  case' false => replace hr1 := hr1 rfl; subst hr1
  all_goals (refine meets_by ttOk Tryz.func16 Tryz.ntmps16 Tryz.results16 (by kernel_rfl) (c := _) rfl rfl rfl fun E => ?_; simp only [argsFrame])
  all_goals
    repeat' first
      | (with_reducible first | refine PW.seq ?_ | refine PW.block ?_ | refine PW.fork ?_ | refine PW.skip ?_ | refine PW.exit ?_ | refine PW.ret ?_ | refine PW.scope ?_ | refine PW.label ?_ | refine PW.goto ?_)
      | (simp only [h0])
      | (with_reducible refine PW.region ttOk ?_ ?_
         · rfl)
      | (with_reducible refine PW.regionD ttOk mixed ?_ ?_ ?_
         · rfl
         · rfl)
      | (with_reducible refine ifW_dec (fun g => ?_) (fun g => ?_) <;> first | (exfalso; omega) | (simp -dsimp only [g, wkI]))
      | (with_reducible refine condE_dec (fun g => ?_) (fun g => ?_) <;> try (exfalso; omega))
      | (with_reducible refine condE_not (fun g => ?_) (fun g => ?_) <;> try (exfalso; omega))
      | (simp -dsimp only [↓wkA, ↓wkE, ↓wkJ, wkB, ↓tt, Nat.reduceBEq, Nat.reduceEqDiff, ↓reduceIte, Nat.reduceLT, Array.toList, Nat.reduceAdd, Nat.reduceMul, Int.reduceToNat, Int.reducePow, UInt8.reduceToNat])
      | (refine call_by (h1) (views_data rfl) ⟨trivial, trivial⟩ rfl ?_)
      | (refine call_by (h2) (views_data rfl) (by simp only [okViews, okView, okViews0, okView0, and_self]) rfl ?_)
      | (simp -dsimp (disch := first | assumption | omega) only [dec_t, dec_f])
      | (refine And.intro ?_ ?_
         · first | omega | decide | (simp (disch := omega) only [wkW, Int.reduceToNat, Int.reducePow] <;> omega) | (simp <;> omega))
      | (simp (disch := omega) only [wkW, Int.reduceToNat, Int.reducePow])
      | fail
def nuV (s : List Int) : Nat := dblV (nuN s) (nuD s) (nuX s)
theorem nu_double {s : List Int} (h : nuOk s) (hsl : s.length ≤ 281474976710656) : Meets Tryz.prog 21 [.agg [.bool (nuN s), .str (nuS s), .int .i64 (nuY s)]] (.tup [.int .u64 (nuV s : Int), .int .i64 0]) := by
  have h1 := strtod_double (nuN s) (nu_normal h hsl).1 (Nat.le_trans (nuS_le h) hsl)
  unfold dblV nuS nuY at h1
  rw [norm_rdec (nuD_all s)] at h1
  exact h1
theorem nu_exact {s : List Int} (h : nuOk s) (hsl : s.length ≤ 281474976710656) : Meets Tryz.prog 20 [.agg [.bool (nuN s), .str (nuS s), .int .i64 (nuY s)]] (.tup [.int .u64 (nuV s : Int), .int .i64 0]) := by
  have h1 := strtod_exact (nuN s) (nu_normal h hsl).1 (Nat.le_trans (nuS_le h) hsl)
  unfold dblV nuS nuY at h1
  rw [norm_rdec (nuD_all s)] at h1
  exact h1
theorem strtod_parse {s : List Int} (h : nuOk s) (hsl : s.length ≤ 281474976710656) : Meets Tryz.prog 16 [.str s] (.tup [.int .u64 (nuV s : Int), .int .i64 (nuE s : Int)]) :=
  parse_walk s _ _ _ _ _ true (decide_eq_false (by have := nuE_pos h; omega)) (scan_number h hsl) (fun _ => nu_double h hsl) _ (fun e => by cases e) fun _ => rfl
theorem strtod_parse_no {s : List Int} (h : ¬ nuOk s) (hsl : s.length ≤ 281474976710656) : Meets Tryz.prog 16 [.str s] (.tup [.int .u64 0, .int .i64 0]) :=
  parse_walk s 0 0 _ _ _ false rfl (scan_number_no h hsl) (fun e => by cases e) _ (fun _ => rfl) fun e => by cases e
theorem road_walk (s : List Int) (e R o : Int) (neg : Bool) (t : List Int) (y : Int) (ok sure : Bool) (h0 : decide (e = 0) = !ok) (h1 : Meets Tryz.prog 19 [.str s] (.tup [.agg [.bool neg, .str t, .int .i64 y], .int .i64 e])) (h2 : ok = true → Meets Tryz.prog 22 [.agg [.bool neg, .str t, .int .i64 y]] (.tup [.int .u64 R, .bool sure]))
    (ho1 : ok = false → o = 0) (ho2 : ok = true → sure = true → o = 1) (ho3 : ok = true → sure = false → o = 2) : Meets Tryz.prog 18 [.str s] (.int .i64 o) := by
  cases ok
  case' true => replace h2 := h2 rfl; replace ho2 := ho2 rfl; replace ho3 := ho3 rfl
  case' false => replace ho1 := ho1 rfl; subst ho1; have h3 := h0
  case' true => cases sure
  case' true.false => replace ho3 := ho3 rfl; subst ho3
  case' true.true => replace ho2 := ho2 rfl; subst ho2
  all_goals (refine meets_by ttOk Tryz.func18 Tryz.ntmps18 Tryz.results18 (by kernel_rfl) (c := _) rfl rfl rfl fun E => ?_; simp only [argsFrame])
  all_goals
    repeat' first
      | (with_reducible first | refine PW.seq ?_ | refine PW.block ?_ | refine PW.fork ?_ | refine PW.skip ?_ | refine PW.exit ?_ | refine PW.ret ?_ | refine PW.scope ?_ | refine PW.label ?_ | refine PW.goto ?_)
      | (simp only [h0])
      | (with_reducible refine PW.region ttOk ?_ ?_
         · rfl)
      | (with_reducible refine PW.regionD ttOk mixed ?_ ?_ ?_
         · rfl
         · rfl)
      | (with_reducible refine ifW_dec (fun g => ?_) (fun g => ?_) <;> first | (exfalso; omega) | (simp -dsimp only [g, wkI]))
      | (with_reducible refine condE_dec (fun g => ?_) (fun g => ?_) <;> try (exfalso; omega))
      | (with_reducible refine condE_not (fun g => ?_) (fun g => ?_) <;> try (exfalso; omega))
      | (simp -dsimp only [↓wkA, ↓wkE, ↓wkJ, wkB, ↓tt, Nat.reduceBEq, Nat.reduceEqDiff, ↓reduceIte, Nat.reduceLT, Array.toList, Nat.reduceAdd, Nat.reduceMul, Int.reduceToNat, Int.reducePow, UInt8.reduceToNat])
      | (refine call_by (h1) (views_data rfl) ⟨trivial, trivial⟩ rfl ?_)
      | (refine call_by (h2) (views_data rfl) (by simp only [okViews, okView, okViews0, okView0, and_self]) rfl ?_)
      | (simp -dsimp (disch := first | assumption | omega) only [dec_t, dec_f])
      | (refine And.intro ?_ ?_
         · first | omega | decide | (simp (disch := omega) only [wkW, Int.reduceToNat, Int.reducePow] <;> omega) | (simp <;> omega))
      | (simp (disch := omega) only [wkW, Int.reduceToNat, Int.reducePow])
      | fail
def roadV (s : List Int) : Int := if nuOk s then (if tryK (nuS s) (nuY s) then 1 else 2) else 0
theorem strtod_road (s : List Int) (hsl : s.length ≤ 281474976710656) : Meets Tryz.prog 18 [.str s] (.int .i64 (roadV s)) := by
  unfold roadV
  by_cases h : nuOk s
  · rw [if_pos h]
    refine road_walk s _ _ _ _ _ _ true _ (decide_eq_false (by have := nuE_pos h; omega)) (scan_number h hsl) (fun _ => quick_try _ (nu_normal h hsl) (Nat.le_trans (nuS_le h) hsl)) (fun e => by cases e) (fun _ hk => if_pos (of_decide_eq_true hk)) (fun _ hk => if_neg (of_decide_eq_false hk))
  · rw [if_neg h]
    exact road_walk s 0 0 _ _ _ _ false false rfl (scan_number_no h hsl) (fun e => by cases e) (fun _ => rfl) (fun e => by cases e) (fun e => by cases e)
theorem road_x : Meets Tryz.prog 18 [.str [120]] (.int .i64 0) := by
  have h := strtod_road [120] (by decide)
  rw [show roadV [120] = 0 from if_neg (by decide +kernel)] at h
  exact h
theorem road_12 : Meets Tryz.prog 18 [.str [49, 50]] (.int .i64 1) := by
  have h := strtod_road [49, 50] (by decide)
  have e1 : nuS [49, 50] = [49, 50] := by decide +kernel
  have e2 : nuY [49, 50] = 0 := by decide +kernel
  have hk : tryK (nuS [49, 50]) (nuY [49, 50]) := by
    rw [e1, e2]
    exact .inr (.inl ⟨by decide, by decide, .inl (by decide)⟩)
  rw [show roadV [49, 50] = 1 from (if_pos (by decide +kernel)).trans (if_pos hk)] at h
  exact h
theorem parse_at (s : List Int) (v e : Nat) (hl : s.length ≤ 1000) (h : nuOk s) (hv : nuV s = v) (he : nuE s = e) : Meets Tryz.prog 16 [.str s] (.tup [.int .u64 (v : Int), .int .i64 (e : Int)]) := by
  have := strtod_parse h (by omega)
  rw [hv, he] at this
  exact this
theorem top_reads (res : PV) (hres : res = .bool true) : Meets Tryz.prog 14 [] res := by
  subst hres
  have h1 : Meets Tryz.prog 16 [.str [32, 45, 49, 46, 53, 101, 49, 120]] (.tup [.int .u64 13848005904210853888, .int .i64 7]) := parse_at _ 13848005904210853888 7 (by decide) (by decide +kernel) (by decide +kernel) (by decide +kernel)
  have h2 : Meets Tryz.prog 16 [.str [48, 120, 49, 112, 51]] (.tup [.int .u64 0, .int .i64 1]) := parse_at _ 0 1 (by decide) (by decide +kernel) (by decide +kernel) (by decide +kernel)
  refine meets_by ttOk Tryz.func14 Tryz.ntmps14 Tryz.results14 (by kernel_rfl) (c := _) rfl rfl rfl fun E => ?_
  simp only [argsFrame]
  repeat' first
    | (with_reducible first | refine PW.seq ?_ | refine PW.block ?_ | refine PW.fork ?_ | refine PW.skip ?_ | refine PW.exit ?_ | refine PW.ret ?_ | refine PW.scope ?_ | refine PW.label ?_ | refine PW.goto ?_)
    | (with_reducible refine PW.region ttOk ?_ ?_
       · rfl)
    | (with_reducible refine PW.regionD ttOk mixed ?_ ?_ ?_
       · rfl
       · rfl)
    | (with_reducible refine ifW_dec (fun g => ?_) (fun g => ?_) <;> first | (exfalso; omega) | (simp -dsimp only [g, wkI]))
    | (with_reducible refine condE_dec (fun g => ?_) (fun g => ?_) <;> try (exfalso; omega))
    | (with_reducible refine condE_not (fun g => ?_) (fun g => ?_) <;> try (exfalso; omega))
    | (simp -dsimp only [↓wkA, ↓wkE, ↓wkJ, wkB, ↓tt, Nat.reduceBEq, Nat.reduceEqDiff, ↓reduceIte, Nat.reduceLT, Array.toList, Nat.reduceAdd, Nat.reduceMul, Int.reduceToNat, Int.reducePow, UInt8.reduceToNat])
    | (refine call_by (h1) (views_data rfl) ⟨trivial, trivial⟩ rfl ?_)
    | (refine call_by (h2) (views_data rfl) ⟨trivial, trivial⟩ rfl ?_)
    | (simp -dsimp (disch := first | assumption | omega) only [dec_t, dec_f])
    | (refine And.intro ?_ ?_
       · first | omega | decide | (simp (disch := omega) only [wkW, Int.reduceToNat, Int.reducePow] <;> omega) | (simp <;> omega))
    | (simp (disch := omega) only [wkW, Int.reduceToNat, Int.reducePow])
    | fail
theorem try_val {s : List Int} (h : nuOk s) : signed (nuN s) (rdec (num 10 (nuS s)) (nuY s)) = nuV s := by
  unfold nuV dblV nuS nuY
  rw [norm_rdec (nuD_all s)]
theorem core_roads (s : List Int) (hsl : s.length ≤ 281474976710656) : Meets Tryz.prog 4 [.str s] (.bool true) := by
  have r0 := top_reads _ rfl
  have r1 := road_x
  have r2 := road_12
  have g3 := strtod_road s hsl
  unfold roadV at g3
  by_cases h : nuOk s
  · have g1 := scan_number h hsl
    have g2 := strtod_parse h hsl
    rw [if_pos h] at g3
    have g4 := nu_exact h hsl
    have g5 := nu_double h hsl
    have g6 := quick_try (nuN s) (nu_normal h hsl) (Nat.le_trans (nuS_le h) hsl)
    unfold tryV at g6
    rw [try_val h] at g6
    have d0 : decide ((nuE s : Int) = 0) = false := decide_eq_false (by have := nuE_pos h; omega)
    generalize nuV s = V at *
    generalize nuE s = e at *
    generalize nuS s = t at *
    generalize nuY s = y at *
    generalize nuN s = ng at *
    have d1 : decide ((V : Int) = (V : Int)) = true := decide_eq_true rfl
    have d2 : decide ((e : Int) = (e : Int)) = true := decide_eq_true rfl
    by_cases hk : tryK t y
    case' pos => rw [if_pos hk] at g3; rw [if_pos hk, decide_eq_true hk] at g6
    case' neg => rw [if_neg hk] at g3; rw [if_neg hk, decide_eq_false hk] at g6
    all_goals (refine meets_by ttOk Tryz.func4 Tryz.ntmps4 Tryz.results4 (by kernel_rfl) (c := _) rfl rfl rfl fun E => ?_; simp only [argsFrame])
    all_goals
      repeat' first
        | (with_reducible first | refine PW.seq ?_ | refine PW.block ?_ | refine PW.fork ?_ | refine PW.skip ?_ | refine PW.exit ?_ | refine PW.ret ?_ | refine PW.scope ?_ | refine PW.label ?_ | refine PW.goto ?_)
        | (simp only [d0, d1, d2])
        | (with_reducible refine PW.region ttOk ?_ ?_
           · rfl)
        | (with_reducible refine PW.regionD ttOk mixed ?_ ?_ ?_
           · rfl
           · rfl)
        | (with_reducible refine ifW_dec (fun g => ?_) (fun g => ?_) <;> first | (exfalso; omega) | (simp -dsimp only [g, wkI]))
        | (with_reducible refine condE_dec (fun g => ?_) (fun g => ?_) <;> try (exfalso; omega))
        | (with_reducible refine condE_not (fun g => ?_) (fun g => ?_) <;> try (exfalso; omega))
        | (simp -dsimp only [↓wkA, ↓wkE, ↓wkJ, wkB, ↓tt, Nat.reduceBEq, Nat.reduceEqDiff, ↓reduceIte, Nat.reduceLT, Array.toList, Nat.reduceAdd, Nat.reduceMul, Int.reduceToNat, Int.reducePow, UInt8.reduceToNat])
        | (refine call_by (r0) (views_data rfl) trivial rfl ?_)
        | (refine call_by (r1) (views_data rfl) ⟨trivial, trivial⟩ rfl ?_)
        | (refine call_by (r2) (views_data rfl) ⟨trivial, trivial⟩ rfl ?_)
        | (refine call_by (g1) (views_data rfl) ⟨trivial, trivial⟩ rfl ?_)
        | (refine call_by (g2) (views_data rfl) ⟨trivial, trivial⟩ rfl ?_)
        | (refine call_by (g3) (views_data rfl) ⟨trivial, trivial⟩ rfl ?_)
        | (refine call_by (g4) (views_data rfl) (by simp only [okViews, okView, okViews0, okView0, and_self]) rfl ?_)
        | (refine call_by (g5) (views_data rfl) (by simp only [okViews, okView, okViews0, okView0, and_self]) rfl ?_)
        | (refine call_by (g6) (views_data rfl) (by simp only [okViews, okView, okViews0, okView0, and_self]) rfl ?_)
        | (simp -dsimp (disch := first | assumption | omega) only [dec_t, dec_f])
        | (refine And.intro ?_ ?_
           · first | omega | decide | (simp (disch := omega) only [wkW, Int.reduceToNat, Int.reducePow] <;> omega) | (simp <;> omega))
        | (simp (disch := omega) only [wkW, Int.reduceToNat, Int.reducePow])
        | fail
  · have g1 := scan_number_no h hsl
    have g2 := strtod_parse_no h hsl
    rw [if_neg h] at g3
    refine meets_by ttOk Tryz.func4 Tryz.ntmps4 Tryz.results4 (by kernel_rfl) (c := _) rfl rfl rfl fun E => ?_
    simp only [argsFrame]
    repeat' first
      | (with_reducible first | refine PW.seq ?_ | refine PW.block ?_ | refine PW.fork ?_ | refine PW.skip ?_ | refine PW.exit ?_ | refine PW.ret ?_ | refine PW.scope ?_ | refine PW.label ?_ | refine PW.goto ?_)
      | (with_reducible refine PW.region ttOk ?_ ?_
         · rfl)
      | (with_reducible refine PW.regionD ttOk mixed ?_ ?_ ?_
         · rfl
         · rfl)
      | (with_reducible refine ifW_dec (fun g => ?_) (fun g => ?_) <;> first | (exfalso; omega) | (simp -dsimp only [g, wkI]))
      | (with_reducible refine condE_dec (fun g => ?_) (fun g => ?_) <;> try (exfalso; omega))
      | (with_reducible refine condE_not (fun g => ?_) (fun g => ?_) <;> try (exfalso; omega))
      | (simp -dsimp only [↓wkA, ↓wkE, ↓wkJ, wkB, ↓tt, Nat.reduceBEq, Nat.reduceEqDiff, ↓reduceIte, Nat.reduceLT, Array.toList, Nat.reduceAdd, Nat.reduceMul, Int.reduceToNat, Int.reducePow, UInt8.reduceToNat])
      | (refine call_by (r0) (views_data rfl) trivial rfl ?_)
      | (refine call_by (r1) (views_data rfl) ⟨trivial, trivial⟩ rfl ?_)
      | (refine call_by (r2) (views_data rfl) ⟨trivial, trivial⟩ rfl ?_)
      | (refine call_by (g1) (views_data rfl) ⟨trivial, trivial⟩ rfl ?_)
      | (refine call_by (g2) (views_data rfl) ⟨trivial, trivial⟩ rfl ?_)
      | (refine call_by (g3) (views_data rfl) ⟨trivial, trivial⟩ rfl ?_)
      | (simp -dsimp (disch := first | assumption | omega) only [dec_t, dec_f])
      | (refine And.intro ?_ ?_
         · first | omega | decide | (simp (disch := omega) only [wkW, Int.reduceToNat, Int.reducePow] <;> omega) | (simp <;> omega))
      | (simp (disch := omega) only [wkW, Int.reduceToNat, Int.reducePow])
      | fail
end Go.Proofs.YtbmhnjghpjkjpaaGreatDoor

/- Contracts and laws that the row leans on, part 8: texts that were built one by one, laid together. -/
import Derived.Test.YtjhkpjddcaglnaaDoorPart7
import Derived.Shelf.Small.Strs
import Derived.Shelf.Strings.Search1
import Derived.Shelf.Strings.Prefix
import Derived.Shelf.Strings.Repeat
import Derived.Test.YtjhkpjddcaglnaaDoorProg
import Derived.Test.YtjhkpjddcaglnaaDoorPart4
set_option maxHeartbeats 4000000
set_option maxRecDepth 4000
set_option linter.unusedVariables false
set_option linter.unusedSimpArgs false
namespace Go.Proofs.YtjhkpjddcaglnaaDoor
open Go Go.PV

theorem ref04_decode (d : Nat) (hd : d < 18446744073709551616) : Meets Tryd.prog 65 [.int .u64 (d : Int)] (partsP d) := by
  have hb := field_lt d
  have hf := frac_lt d
  have h1 : decide ((d : Int) / 9223372036854775808 = 1) = negD d := decide_eq_decide.2 (by omega)
  have h2 : (d : Int) / 4503599627370496 % 2048 = (fieldD d : Int) := by have := shr_52 (d := d); omega
  have h3 : (d : Int) % 4503599627370496 = (fracD d : Int) := by unfold fracD; omega
  have w0 : IntKind.wrap .u64 ((d : Int) / 9223372036854775808) = (d : Int) / 9223372036854775808 := wrap_u64 (by omega)
  have w1 : IntKind.wrap .u64 ((d : Int) / 4503599627370496) = (d : Int) / 4503599627370496 := wrap_u64 (by omega)
  have w2 : IntKind.wrap .i64 (fieldD d : Int) = (fieldD d : Int) := wrap_i64 (by omega)
  have w3 : IntKind.wrap .u64 (4503599627370496 + (fracD d : Int)) = 4503599627370496 + (fracD d : Int) := wrap_u64 (by omega)
  have w4 : IntKind.wrap .i64 ((fieldD d : Int) - 1075) = (fieldD d : Int) - 1075 := wrap_i64 (by omega)
  have hC : classD d = if fieldD d = 2047 then (if fracD d = 0 then 3 else 4) else if 0 < fieldD d then 2 else if fracD d = 0 then 0 else 1 := by
    have := abs_zero (d := d)
    unfold classD
    repeat' split
    all_goals omega
  have hM : partsM d = if fieldD d = 2047 then (fracD d : Int) else if 0 < fieldD d then 4503599627370496 + (fracD d : Int) else (fracD d : Int) := by
    unfold partsM mantD
    rw [hC]
    repeat' split
    all_goals omega
  have hE : partsE d = if fieldD d = 2047 then 0 else if 0 < fieldD d then (fieldD d : Int) - 1075 else if fracD d = 0 then 0 else -1074 := by
    unfold partsE expD
    rw [hC]
    repeat' split
    all_goals omega
  have q0 : (d : Int).tdiv 9223372036854775808 = (d : Int) / 9223372036854775808 := Int.tdiv_eq_ediv_of_nonneg (by omega)
  have q1 : (d : Int).tdiv 4503599627370496 = (d : Int) / 4503599627370496 := Int.tdiv_eq_ediv_of_nonneg (by omega)
  have q2 : ((d : Int) / 4503599627370496).tmod 2048 = (fieldD d : Int) := by rw [Int.tmod_eq_emod_of_nonneg (by omega)]; exact h2
  have q3 : (d : Int).tmod 4503599627370496 = (fracD d : Int) := by rw [Int.tmod_eq_emod_of_nonneg (by omega)]; exact h3
  unfold partsP
  rw [hM, hE, hC]
  clear hM hE hC
  generalize fieldD d = fd at *
  generalize fracD d = fr at *
  generalize negD d = ng at *
  refine meets_by ttOk Tryd.func65 Tryd.ntmps65 Tryd.results65 (by kernel_rfl) (c := _) rfl rfl rfl fun E => ?_
  simp only [argsFrame]
  repeat' first
    | (simp only [q0, q1, q2, q3, w0, w1, h1, w2, w3, w4])
    | (with_reducible first | refine PW.seq ?_ | refine PW.block ?_ | refine PW.fork ?_ | refine PW.skip ?_ | refine PW.exit ?_ | refine PW.ret ?_)
    | (with_reducible refine PW.region ttOk ?_ ?_
       · rfl)
    | (with_reducible refine PW.regionD ttOk mixed ?_ ?_ ?_
       · rfl
       · rfl)
    | (with_reducible refine ifW_dec (fun g => ?_) (fun g => ?_) <;> first | (exfalso; omega) | (simp -dsimp only [g, wkI]))
    | (with_reducible refine condE_dec (fun g => ?_) (fun g => ?_) <;> try (exfalso; omega))
    | (with_reducible refine condE_not (fun g => ?_) (fun g => ?_) <;> try (exfalso; omega))
    | (simp -dsimp only [↓wkA, ↓wkE, wkB, ↓tt, Nat.reduceBEq, Nat.reduceEqDiff, ↓reduceIte, Nat.reduceLT, Array.toList, Nat.reduceAdd, Nat.reduceMul, Int.reduceToNat, Int.reducePow, UInt8.reduceToNat])
    | (simp -dsimp (disch := first | assumption | omega) only [dec_t, dec_f])
    | (refine And.intro ?_ ?_
       · first | omega | decide | (simp (disch := omega) only [wkW, Int.reduceToNat, Int.reducePow] <;> omega) | (simp <;> omega))
    | (simp (disch := omega) only [wkW, Int.reduceToNat, Int.reducePow])
    | fail
  all_goals ((repeat' split) <;> first | rfl | (exfalso; omega) | (subst_vars; rfl))

theorem ref11_all_walk (d : Int) (ng : Bool) (c e ex : Int) (m N D : Nat) (s t : List Int) (hm0 : m ≠ 0) (he : -1074 ≤ e ∧ e ≤ 971) (hex : ex = min e 0) (x : Int)
    (hfin : Meets Tryd.prog 64 [.int .u64 d] (.bool true)) (hdec : Meets Tryd.prog 65 [.int .u64 d] (.agg [.bool ng, .int .i64 c, .int .u64 (m : Int), .int .i64 e]))
    (r1 r2 : List Int) (hrow : Meets Tryd.prog 66 [.int .u64 (m : Int)] (.ints .u64 r1))
    (hra : 0 ≤ e → Meets Tryd.prog 67 [.ints .u64 r1, .int .u64 2, .int .i64 e] (.ints .u64 r2))
    (hrb : e < 0 → Meets Tryd.prog 67 [.ints .u64 r1, .int .u64 5, .int .i64 (-e)] (.ints .u64 r2))
    (hs : Meets Tryd.prog 68 [.ints .u64 r2] (.str s)) (hsl : s.length ≤ 10000) (hpos : 0 < endN s 48 s.length) (ht : s.take (endN s 48 s.length) = t) (hx : ex + (s.length : Int) - (endN s 48 s.length : Int) = x) :
    Meets Tryd.prog 40 [.int .u64 d] (.tup [.agg [.bool ng, .str t, .int .i64 x], .int .i64 0]) := by
  have hel := endN_le s 48 s.length
  have w0 : IntKind.wrap .i64 (-e) = -e := wrap_i64 (by omega)
  have hm : decide ((m : Int) = 0) = false := decide_eq_false (by omega)
  have hloop : ∀ n, n ≤ s.length → endN s 48 n = endN s 48 s.length → 0 < n ∧ (s.getD (n - 1) 0 = 48 → endN s 48 (n - 1) = endN s 48 s.length) ∧ (s.getD (n - 1) 0 ≠ 48 → n = endN s 48 s.length) := by
    intro n hn hen
    cases n with
    | zero => rw [endN] at hen; omega
    | succ n =>
      rw [Nat.add_sub_cancel]
      rw [endN] at hen
      refine ⟨by omega, fun h => by rw [if_pos h] at hen; exact hen, fun h => by rw [if_neg h] at hen; exact hen⟩
  rcases (show (0 ≤ e ∧ ex = 0 ∧ Meets Tryd.prog 67 [.ints .u64 r1, .int .u64 2, .int .i64 e] (.ints .u64 r2)) ∨ (e < 0 ∧ ex = e ∧ Meets Tryd.prog 67 [.ints .u64 r1, .int .u64 5, .int .i64 (-e)] (.ints .u64 r2)) by
    rcases (show e < 0 ∨ 0 ≤ e by omega) with h | h
    · exact .inr ⟨h, by omega, hrb h⟩
    · exact .inl ⟨h, by omega, hra h⟩) with ⟨he0, hex0, hr⟩ | ⟨he0, hex0, hr⟩
  all_goals clear hra hrb hex
  all_goals have w1 := hx
  all_goals (refine meets_by ttOk Tryd.func40 Tryd.ntmps40 Tryd.results40 (by kernel_rfl) (c := _) rfl rfl rfl fun E => ?_; simp only [argsFrame])
  all_goals
    repeat' first
      | (simp only [Int.zero_sub, w0, hm])
      | (with_reducible first | refine PW.seq ?_ | refine PW.block ?_ | refine PW.fork ?_ | refine PW.skip ?_ | refine PW.exit ?_ | refine PW.ret ?_)
      | (with_reducible refine PW.region ttOk ?_ ?_
         · rfl)
      | (with_reducible refine PW.regionD ttOk mixed ?_ ?_ ?_
         · rfl
         · rfl)
      | (with_reducible refine ifW_dec (fun g => ?_) (fun g => ?_) <;> first | (exfalso; omega) | (simp -dsimp only [g, wkI]))
      | (with_reducible refine condE_dec (fun g => ?_) (fun g => ?_) <;> try (exfalso; omega))
      | (with_reducible refine condE_not (fun g => ?_) (fun g => ?_) <;> try (exfalso; omega))
      | (simp -dsimp only [↓wkA, ↓wkE, wkB, ↓tt, Nat.reduceBEq, Nat.reduceEqDiff, ↓reduceIte, Nat.reduceLT, Array.toList, Nat.reduceAdd, Nat.reduceMul, Int.reduceToNat, Int.reducePow, UInt8.reduceToNat])
      | (refine call_by (hfin) (views_data rfl) ⟨trivial, trivial⟩ rfl ?_)
      | (refine call_by (hdec) (views_data rfl) ⟨trivial, trivial⟩ rfl ?_)
      | (refine call_by (hrow) (views_data rfl) ⟨trivial, trivial⟩ rfl ?_)
      | (refine call_by (hr) (views_data rfl) ⟨trivial, trivial, trivial, trivial⟩ rfl ?_)
      | (refine call_by (hs) (views_data rfl) ⟨trivial, trivial⟩ rfl ?_)
      | (simp -dsimp (disch := first | assumption | omega) only [dec_t, dec_f])
      | (refine And.intro ?_ ?_
         · first | omega | decide | (simp (disch := omega) only [wkW, Int.reduceToNat, Int.reducePow] <;> omega) | (simp <;> omega))
      | (simp (disch := omega) only [wkW, Int.reduceToNat, Int.reducePow])
      | fail
  all_goals
    refine PW.loopA (fun n F H => n ≤ s.length ∧ endN s 48 n = endN s 48 s.length ∧ F = [(8, .int .i64 (n : Int)), (7, .str s), (5, .int .i64 ex), (4, .ptr 1 0 0), (2, .ptr 0 0 0)] ∧ H = ⟨2, [(0, .var [.bool false, .str [], .int .i64 0]), (1, .var [.bool ng, .int .i64 c, .int .u64 (m : Int), .int .i64 e])], [], []⟩) s.length [(8, .int .i64 (s.length : Int)), (7, .str s), (5, .int .i64 ex), (4, .ptr 1 0 0), (2, .ptr 0 0 0)] ⟨2, [(0, .var [.bool false, .str [], .int .i64 0]), (1, .var [.bool ng, .int .i64 c, .int .u64 (m : Int), .int .i64 e])], [], []⟩ (Sub.norm ⟨rfl, rfl, by rw [hex0]; rfl, rfl, rfl, trivial⟩ ⟨rfl, rfl, trivial⟩ (Nat.le_refl _) rfl rfl rfl rfl) ⟨Nat.le_refl _, rfl, rfl, rfl⟩ ?_
    rintro n F H ⟨hn, hen, rfl, rfl⟩
    obtain ⟨h1, h2, h3⟩ := hloop n hn hen
    have w2 : IntKind.wrap .i64 ((n : Int) - 1) = ((n - 1 : Nat) : Int) := by rw [wrap_i64 (by omega)]; omega
    have w3 : IntKind.wrap .i64 (ex + (s.length : Int)) = ex + (s.length : Int) := wrap_i64 (by omega)
    clear hloop hdec hfin hrow hr hs
    by_cases h48 : s.getD (n - 1) 0 = 48
    · have hen2 := h2 h48
      clear h2 h3
      repeat' first
        | (simp only [w2, h48, Int.toNat_natCast])
        | (with_reducible first | refine PW.seq ?_ | refine PW.block ?_ | refine PW.fork ?_ | refine PW.skip ?_ | refine PW.exit ?_ | refine PW.ret ?_)
        | (with_reducible refine PW.region ttOk ?_ ?_
           · rfl)
        | (with_reducible refine PW.regionD ttOk mixed ?_ ?_ ?_
           · rfl
           · rfl)
        | (with_reducible refine ifW_dec (fun g => ?_) (fun g => ?_) <;> first | (exfalso; omega) | (simp -dsimp only [g, wkI]))
        | (with_reducible refine condE_dec (fun g => ?_) (fun g => ?_) <;> try (exfalso; omega))
        | (with_reducible refine condE_not (fun g => ?_) (fun g => ?_) <;> try (exfalso; omega))
        | (simp -dsimp only [↓wkA, ↓wkE, wkB, ↓tt, Nat.reduceBEq, Nat.reduceEqDiff, ↓reduceIte, Nat.reduceLT, Array.toList, Nat.reduceAdd, Nat.reduceMul, Int.reduceToNat, Int.reducePow, UInt8.reduceToNat])
        | (simp -dsimp (disch := first | assumption | omega) only [dec_t, dec_f])
        | (refine And.intro ?_ ?_
           · first | omega | decide | (simp (disch := omega) only [wkW, Int.reduceToNat, Int.reducePow] <;> omega) | (simp <;> omega))
        | (simp (disch := omega) only [wkW, Int.reduceToNat, Int.reducePow])
        | fail
      exact Again.mk (n - 1) [(8, .int .i64 ((n - 1 : Nat) : Int)), (7, .str s), (5, .int .i64 ex), (4, .ptr 1 0 0), (2, .ptr 0 0 0)] ⟨2, [(0, .var [.bool false, .str [], .int .i64 0]), (1, .var [.bool ng, .int .i64 c, .int .u64 (m : Int), .int .i64 e])], [], []⟩ (by omega) (Sub.norm ⟨rfl, rfl, rfl, rfl, rfl, trivial⟩ ⟨rfl, rfl, trivial⟩ (Nat.le_refl _) rfl rfl rfl rfl) ⟨by omega, hen2, rfl, rfl⟩
    · have hen2 := h3 h48
      clear h2 h3
      have w4 : IntKind.wrap .i64 (ex + (s.length : Int) - (n : Int)) = x := by rw [wrap_i64 (by omega)]; omega
      have ht2 : s.take n = t := by rw [hen2]; exact ht
      repeat' first
        | (simp only [w2, w3, w4, ht2, Int.toNat_natCast])
        | (with_reducible first | refine PW.seq ?_ | refine PW.block ?_ | refine PW.fork ?_ | refine PW.skip ?_ | refine PW.exit ?_ | refine PW.ret ?_)
        | (with_reducible refine PW.region ttOk ?_ ?_
           · rfl)
        | (with_reducible refine PW.regionS ttOk mixed ?_ ?_ ?_ ?_
           · rfl
           · rfl
           · rfl)
        | (with_reducible refine PW.regionD ttOk mixed ?_ ?_ ?_
           · rfl
           · rfl)
        | (with_reducible refine ifW_dec (fun g => ?_) (fun g => ?_) <;> first | (exfalso; omega) | (simp -dsimp only [g, wkI]))
        | (with_reducible refine condE_dec (fun g => ?_) (fun g => ?_) <;> try (exfalso; omega))
        | (with_reducible refine condE_not (fun g => ?_) (fun g => ?_) <;> try (exfalso; omega))
        | (simp -dsimp only [↓opsE_nil, ↓opsE_cons, ↓opsX_nil, ↓opsX_cons, same_self, and_true, true_and, ↓wkA, ↓wkE, wkB, ↓tt, Nat.reduceBEq, Nat.reduceEqDiff, ↓reduceIte, Nat.reduceLT, Array.toList, Nat.reduceAdd, Nat.reduceMul, Int.reduceToNat, Int.reducePow, UInt8.reduceToNat])
        | (simp -dsimp (disch := first | assumption | omega) only [dec_t, dec_f])
        | (refine And.intro ?_ ?_
           · first | omega | decide | (simp (disch := omega) only [wkW, Int.reduceToNat, Int.reducePow] <;> omega) | (simp <;> omega))
        | (simp (disch := omega) only [wkW, Int.reduceToNat, Int.reducePow])
        | fail
end Go.Proofs.YtjhkpjddcaglnaaDoor
set_option maxHeartbeats 4000000
set_option maxRecDepth 4000
set_option linter.unusedVariables false
set_option linter.unusedSimpArgs false
namespace Go.Proofs.YtjhkpjddcaglnaaDoor
open Go Go.PV

set_option exponentiation.threshold 300000 in
theorem ref11_all (d : Nat) (hd : d < 18446744073709551616) : Meets Tryd.prog 40 [.int .u64 (d : Int)] (allP d) := by
  have hfin := ref04_finite d hd
  have hdec := ref04_decode d hd
  unfold partsP at hdec
  unfold allP
  by_cases hf : finD d
  case neg =>
    rw [decide_eq_false hf] at hfin
    rw [if_neg hf]
    refine meets_by ttOk Tryd.func40 Tryd.ntmps40 Tryd.results40 (by kernel_rfl) (c := _) rfl rfl rfl fun E => ?_
    simp only [argsFrame]
    repeat' first
      | (with_reducible first | refine PW.seq ?_ | refine PW.block ?_ | refine PW.fork ?_ | refine PW.skip ?_ | refine PW.exit ?_ | refine PW.ret ?_)
      | (with_reducible refine PW.region ttOk ?_ ?_
         · rfl)
      | (with_reducible refine PW.regionD ttOk mixed ?_ ?_ ?_
         · rfl
         · rfl)
      | (with_reducible refine ifW_dec (fun g => ?_) (fun g => ?_) <;> first | (exfalso; omega) | (simp -dsimp only [g, wkI]))
      | (with_reducible refine condE_dec (fun g => ?_) (fun g => ?_) <;> try (exfalso; omega))
      | (with_reducible refine condE_not (fun g => ?_) (fun g => ?_) <;> try (exfalso; omega))
      | (simp -dsimp only [↓wkA, ↓wkE, wkB, ↓tt, Nat.reduceBEq, Nat.reduceEqDiff, ↓reduceIte, Nat.reduceLT, Array.toList, Nat.reduceAdd, Nat.reduceMul, Int.reduceToNat, Int.reducePow, UInt8.reduceToNat])
      | (refine call_by (hfin) (views_data rfl) ⟨trivial, trivial⟩ rfl ?_)
      | (simp -dsimp (disch := first | assumption | omega) only [dec_t, dec_f])
      | (refine And.intro ?_ ?_
         · first | omega | decide | (simp (disch := omega) only [wkW, Int.reduceToNat, Int.reducePow] <;> omega) | (simp <;> omega))
      | (simp (disch := omega) only [wkW, Int.reduceToNat, Int.reducePow])
      | fail
  rw [decide_eq_true hf] at hfin
  rw [if_pos hf]
  by_cases h0 : absD d = 0
  · rw [if_pos h0]
    have hM : partsM d = 0 := by
      have := (abs_zero.1 h0).2
      unfold partsM
      rw [if_neg (by have := class_zero.2 h0; omega)]
      omega
    rw [hM] at hdec
    refine meets_by ttOk Tryd.func40 Tryd.ntmps40 Tryd.results40 (by kernel_rfl) (c := _) rfl rfl rfl fun E => ?_
    simp only [argsFrame]
    repeat' first
      | (with_reducible first | refine PW.seq ?_ | refine PW.block ?_ | refine PW.fork ?_ | refine PW.skip ?_ | refine PW.exit ?_ | refine PW.ret ?_)
      | (with_reducible refine PW.region ttOk ?_ ?_
         · rfl)
      | (with_reducible refine PW.regionD ttOk mixed ?_ ?_ ?_
         · rfl
         · rfl)
      | (with_reducible refine ifW_dec (fun g => ?_) (fun g => ?_) <;> first | (exfalso; omega) | (simp -dsimp only [g, wkI]))
      | (with_reducible refine condE_dec (fun g => ?_) (fun g => ?_) <;> try (exfalso; omega))
      | (with_reducible refine condE_not (fun g => ?_) (fun g => ?_) <;> try (exfalso; omega))
      | (simp -dsimp only [↓wkA, ↓wkE, wkB, ↓tt, Nat.reduceBEq, Nat.reduceEqDiff, ↓reduceIte, Nat.reduceLT, Array.toList, Nat.reduceAdd, Nat.reduceMul, Int.reduceToNat, Int.reducePow, UInt8.reduceToNat])
      | (refine call_by (hfin) (views_data rfl) ⟨trivial, trivial⟩ rfl ?_)
      | (refine call_by (hdec) (views_data rfl) ⟨trivial, trivial⟩ rfl ?_)
      | (simp -dsimp (disch := first | assumption | omega) only [dec_t, dec_f])
      | (refine And.intro ?_ ?_
         · first | omega | decide | (simp (disch := omega) only [wkW, Int.reduceToNat, Int.reducePow] <;> omega) | (simp <;> omega))
      | (simp (disch := omega) only [wkW, Int.reduceToNat, Int.reducePow])
      | fail
  rw [if_neg h0]
  obtain ⟨hM, hE⟩ := parts_fin hf h0
  rw [hM, hE] at hdec
  have hm := mantD_lt d
  have hm0 : mantD d ≠ 0 := fun e => h0 (mantD_zero.1 e)
  have hge := expD_ge d
  have hle := expD_le hf
  have hrow := ref11_row (mantD d) (by omega)
  have hnm : ndig (mantD d) ≤ 53 := ndig_two (by simpa using hm)
  have hra : 0 ≤ expD d → Meets Tryd.prog 67 [.ints .u64 (decI (mantD d)), .int .u64 2, .int .i64 (expD d)] (.ints .u64 (decI (allN d))) := fun h => by
    have h1 := ref11_raised (mantD d) 2 (expD d).toNat (by decide) (by omega) (by omega)
    rw [show (((expD d).toNat : Nat) : Int) = expD d by omega] at h1
    rw [show allN d = mantD d * 2 ^ (expD d).toNat from if_pos h]
    exact h1
  have hrb : expD d < 0 → Meets Tryd.prog 67 [.ints .u64 (decI (mantD d)), .int .u64 5, .int .i64 (-expD d)] (.ints .u64 (decI (allN d))) := fun h => by
    have h1 := ref11_raised (mantD d) 5 (-expD d).toNat (by decide) (by omega) (by omega)
    rw [show (((-expD d).toNat : Nat) : Int) = -expD d by omega] at h1
    rw [show allN d = mantD d * 5 ^ (-expD d).toNat from if_neg (by omega)]
    exact h1
  have hlt := allN_lt hf
  have hnd : ndig (allN d) ≤ 3300 := ndig_two hlt
  have hN0 := allN_ne h0
  have hs := ref11_text (allN d) (by omega)
  obtain ⟨ht1, ht2⟩ := core_text hN0
  have hpos := (endN_split (s := text 10 false (allN d)) text_digs (by rw [num_text (by decide)]; exact hN0)).1
  have hel := endN_le (text 10 false (allN d)) 48 (text 10 false (allN d)).length
  have hnd2 : (text 10 false (allN d)).length = ndig (allN d) := rfl
  unfold decP
  refine ref11_all_walk (d : Int) (negD d) (classD d) (expD d) (min (expD d) 0) (mantD d) 0 0 _ _ hm0 ⟨hge, hle⟩ rfl (allX d) hfin hdec _ _ hrow hra hrb hs (by omega) hpos ht1 ?_
  unfold allX tz10
  rw [hnd2] at hel ⊢
  omega

theorem law11_alls (d : Nat) (hd : d < 18446744073709551616) : Meets Tryd.prog 19 [.int .u64 (d : Int)] (.bool true) := by
  have h1 := fixed_all d hd
  have h2 := ref11_all d hd
  obtain ⟨ng, t, x, e, hP⟩ : ∃ ng t x e, allP d = .tup [.agg [.bool ng, .str t, .int .i64 x], .int .i64 e] := by
    unfold allP decP
    split
    · split <;> exact ⟨_, _, _, _, rfl⟩
    · exact ⟨_, _, _, _, rfl⟩
  rw [hP] at h1 h2
  have e1 : decide (t = t) = true := decide_eq_true rfl
  refine meets_by ttOk Tryd.func19 Tryd.ntmps19 Tryd.results19 (by kernel_rfl) (c := _) rfl rfl rfl fun E => ?_
  simp only [argsFrame]
  repeat' first
    | (simp only [e1, eq_self, decide_true, beq_self_eq_true, Bool.and_true, Bool.true_and, Bool.and_self])
    | (with_reducible first | refine PW.seq ?_ | refine PW.block ?_ | refine PW.fork ?_ | refine PW.skip ?_ | refine PW.exit ?_ | refine PW.ret ?_)
    | (with_reducible refine PW.region ttOk ?_ ?_
       · rfl)
    | (with_reducible refine PW.regionD ttOk mixed ?_ ?_ ?_
       · rfl
       · rfl)
    | (with_reducible refine ifW_dec (fun g => ?_) (fun g => ?_) <;> first | (exfalso; omega) | (simp -dsimp only [g, wkI]))
    | (with_reducible refine condE_dec (fun g => ?_) (fun g => ?_) <;> try (exfalso; omega))
    | (with_reducible refine condE_not (fun g => ?_) (fun g => ?_) <;> try (exfalso; omega))
    | (simp -dsimp only [↓wkA, ↓wkE, wkB, ↓tt, Nat.reduceBEq, Nat.reduceEqDiff, ↓reduceIte, Nat.reduceLT, Array.toList, Nat.reduceAdd, Nat.reduceMul, Int.reduceToNat, Int.reducePow, UInt8.reduceToNat])
    | (refine call_by (h1) (views_data rfl) ⟨trivial, trivial⟩ rfl ?_)
    | (refine call_by (h2) (views_data rfl) ⟨trivial, trivial⟩ rfl ?_)
    | (simp -dsimp (disch := first | assumption | omega) only [dec_t, dec_f])
    | (refine And.intro ?_ ?_
       · first | omega | decide | (simp (disch := omega) only [wkW, Int.reduceToNat, Int.reducePow] <;> omega) | (simp <;> omega))
    | (simp (disch := omega) only [wkW, Int.reduceToNat, Int.reducePow])
    | fail

structure FAsk where
  (d : Nat) (n : Int)
def FAsk.pv (a : FAsk) : PV := .agg [.int .u64 (a.d : Int), .int .i64 a.n]
structure FAsk.Ok (a : FAsk) : Prop where
  d : a.d < 18446744073709551616
  n : -9223372036854775808 ≤ a.n ∧ a.n ≤ 9223372036854775807
theorem fasks_get {asks : List FAsk} {i : Nat} (h : i < asks.length) : ∃ a ∈ asks, (asks.map FAsk.pv).getD i .undef = a.pv := by
  refine ⟨asks[i], List.getElem_mem h, ?_⟩
  rw [List.getD_eq_getElem?_getD, List.getElem?_map, List.getElem?_eq_getElem h]
  rfl

theorem fixed_alls (asks : List FAsk) (hok : ∀ a ∈ asks, a.Ok) (hn : asks.length ≤ 140737488351232) : Meets Tryd.prog 4 [.list 2 (asks.map FAsk.pv)] (.bool true) := by
  have c1 : Meets Tryd.prog 19 [.int .u64 13876364508114452480] (.bool true) := law11_alls 13876364508114452480 (by decide)
  refine meets_by ttOk Tryd.func4 Tryd.ntmps4 Tryd.results4 (by kernel_rfl) (c := _) rfl rfl rfl fun E => ?_
  simp only [argsFrame]
  have hget : ∀ i, i < asks.length → ∃ a ∈ asks, (asks.map FAsk.pv).getD i .undef = a.pv := fun i h => fasks_get h
  have hlen : (asks.map FAsk.pv).length = asks.length := List.length_map ..
  generalize asks.map FAsk.pv = L at *
  repeat' first
    | (with_reducible first | refine PW.seq ?_ | refine PW.block ?_ | refine PW.fork ?_ | refine PW.skip ?_ | refine PW.exit ?_ | refine PW.ret ?_)
    | (with_reducible refine PW.region ttOk ?_ ?_
       · rfl)
    | (with_reducible refine PW.regionD ttOk mixed ?_ ?_ ?_
       · rfl
       · rfl)
    | (with_reducible refine ifW_dec (fun g => ?_) (fun g => ?_) <;> first | (exfalso; omega) | (simp -dsimp only [g, wkI]))
    | (with_reducible refine condE_dec (fun g => ?_) (fun g => ?_) <;> try (exfalso; omega))
    | (with_reducible refine condE_not (fun g => ?_) (fun g => ?_) <;> try (exfalso; omega))
    | (simp -dsimp only [↓wkA, ↓wkE, wkB, ↓tt, Nat.reduceBEq, Nat.reduceEqDiff, ↓reduceIte, Nat.reduceLT, Array.toList, Nat.reduceAdd, Nat.reduceMul, Int.reduceToNat, Int.reducePow, UInt8.reduceToNat])
    | (refine call_by (c1) (views_data rfl) ⟨trivial, trivial⟩ rfl ?_)
    | (simp -dsimp (disch := first | assumption | omega) only [dec_t, dec_f])
    | (refine And.intro ?_ ?_
       · first | omega | decide | (simp (disch := omega) only [wkW, Int.reduceToNat, Int.reducePow] <;> omega) | (simp <;> omega))
    | (simp (disch := omega) only [wkW, Int.reduceToNat, Int.reducePow])
    | fail
  refine PW.loopA (fun m F H => ∃ i, i + m = L.length ∧ F = [(3, .int .i64 (i : Int)), (0, .list 2 L)] ∧ H = ⟨0, [], [], []⟩) L.length [(3, .int .i64 ((0 : Nat) : Int)), (0, .list 2 L)] ⟨0, [], [], []⟩ (Sub.norm ⟨rfl, rfl, trivial⟩ trivial (Nat.zero_le _) rfl rfl rfl rfl) ⟨0, by omega, rfl, rfl⟩ ?_
  rintro m F H ⟨i, hi, rfl, rfl⟩
  by_cases hend : i = L.length
  · subst hend
    repeat' first
      | (with_reducible first | refine PW.seq ?_ | refine PW.block ?_ | refine PW.fork ?_ | refine PW.skip ?_ | refine PW.exit ?_ | refine PW.ret ?_)
      | (with_reducible refine PW.region ttOk ?_ ?_
         · rfl)
      | (with_reducible refine PW.regionD ttOk mixed ?_ ?_ ?_
         · rfl
         · rfl)
      | (with_reducible refine ifW_dec (fun g => ?_) (fun g => ?_) <;> first | (exfalso; omega) | (simp -dsimp only [g, wkI]))
      | (with_reducible refine condE_dec (fun g => ?_) (fun g => ?_) <;> try (exfalso; omega))
      | (with_reducible refine condE_not (fun g => ?_) (fun g => ?_) <;> try (exfalso; omega))
      | (simp -dsimp only [↓wkA, ↓wkE, wkB, ↓tt, Nat.reduceBEq, Nat.reduceEqDiff, ↓reduceIte, Nat.reduceLT, Array.toList, Nat.reduceAdd, Nat.reduceMul, Int.reduceToNat, Int.reducePow, UInt8.reduceToNat])
      | (simp -dsimp (disch := first | assumption | omega) only [dec_t, dec_f])
      | (refine And.intro ?_ ?_
         · first | omega | decide | (simp (disch := omega) only [wkW, Int.reduceToNat, Int.reducePow] <;> omega) | (simp <;> omega))
      | (simp (disch := omega) only [wkW, Int.reduceToNat, Int.reducePow])
      | fail
  · obtain ⟨⟨d, n⟩, ha, hg⟩ := hget i (by omega)
    obtain ⟨hd, hnn⟩ := hok _ ha
    simp only [FAsk.pv] at *
    have d1 := law11_alls d hd
    repeat' first
      | (simp only [Int.toNat_natCast, hg])
      | (with_reducible first | refine PW.seq ?_ | refine PW.block ?_ | refine PW.fork ?_ | refine PW.skip ?_ | refine PW.exit ?_ | refine PW.ret ?_)
      | (with_reducible refine PW.region ttOk ?_ ?_
         · rfl)
      | (with_reducible refine PW.regionD ttOk mixed ?_ ?_ ?_
         · rfl
         · rfl)
      | (with_reducible refine ifW_dec (fun g => ?_) (fun g => ?_) <;> first | (exfalso; omega) | (simp -dsimp only [g, wkI]))
      | (with_reducible refine condE_dec (fun g => ?_) (fun g => ?_) <;> try (exfalso; omega))
      | (with_reducible refine condE_not (fun g => ?_) (fun g => ?_) <;> try (exfalso; omega))
      | (simp -dsimp only [↓wkA, ↓wkE, wkB, ↓tt, Nat.reduceBEq, Nat.reduceEqDiff, ↓reduceIte, Nat.reduceLT, Array.toList, Nat.reduceAdd, Nat.reduceMul, Int.reduceToNat, Int.reducePow, UInt8.reduceToNat])
      | (refine call_by (d1) (views_data rfl) ⟨trivial, trivial⟩ rfl ?_)
      | (simp -dsimp (disch := first | assumption | omega) only [dec_t, dec_f])
      | (refine And.intro ?_ ?_
         · first | omega | decide | (simp (disch := omega) only [wkW, Int.reduceToNat, Int.reducePow] <;> omega) | (simp <;> omega))
      | (simp (disch := omega) only [wkW, Int.reduceToNat, Int.reducePow])
      | fail
    exact Again.mk (m - 1) [(3, .int .i64 ((i + 1 : Nat) : Int)), (0, .list 2 L)] ⟨0, [], [], []⟩ (by omega) (Sub.norm ⟨rfl, rfl, trivial⟩ trivial (Nat.zero_le _) rfl rfl rfl rfl) ⟨i + 1, by omega, rfl, rfl⟩

abbrev faskS : List Shape := [.int .u64, .int .i64]
theorem typed_fask : Typed Tryd.prog 40 faskS :=
  .struct [[.int .u64], [.int .i64]] Tryd.underlying40 rfl (by kernel_rfl)
    (fun i f h => by
      match i, h with
      | 0, h => cases h; exact .int (by kernel_rfl)
      | 1, h => cases h; exact .int (by kernel_rfl)
      | i + 2, h => simp at h)
    (fun i f h => by
      match i, h with
      | 0, h => cases h; exact ⟨rfl, by kernel_rfl⟩
      | 1, h => cases h; exact ⟨rfl, by kernel_rfl⟩
      | i + 2, h => simp at h)
theorem typed_fasks : Typed Tryd.prog 36 [.rows true 16 faskS] := .rows true Tryd.underlying36 typed_fask (by kernel_rfl) (by kernel_rfl) (by decide) (fun h => by cases h)
theorem fits_fasks {p : PV} (h : Fits (.rows true 16 faskS) p) : ∃ asks : List FAsk, p = .list 2 (asks.map FAsk.pv) ∧ (∀ a ∈ asks, a.Ok) ∧ asks.length * 16 ≤ 140737488351232 := by
  refine fits_list h FAsk.pv FAsk.Ok fun ps hl hf => ?_
  match ps, hl with
  | [p0, p1], _ =>
    have h0 : Fits (.int .u64) p0 := hf 0 (by decide)
    have h1 : Fits (.int .i64) p1 := hf 1 (by decide)
    cases h0 with | int _ u hu =>
    cases h1 with | int _ f hff =>
    have hu2 := wf_u64 hu
    refine ⟨⟨u.toNat, f⟩, ?_, ⟨by show u.toNat < _; omega, wf_i64 hff⟩⟩
    show _ = PV.agg [.int .u64 ((u.toNat : Nat) : Int), .int .i64 f]
    rw [show ((u.toNat : Nat) : Int) = u by omega]
    rfl
end Go.Proofs.YtjhkpjddcaglnaaDoor
/- What the library proves of strings.Repeat, IndexByte, HasPrefix, laid over the program of this seat by its own command, in plain words. -/
namespace Go.Proofs
open Go.Shelf
def Tryd.lays105_ren : Go.Shelf.Ren := ⟨fun | 105 => 50 | 212 => 74 | 99 => 75 | 165 => 76 | 166 => 77 | 170 => 78 | 169 => 79 | 263 => 93 | 264 => 36 | 206 => 94 | 240 => 95 | 241 => 96 | 276 => 101 | 277 => 102 | n => n, fun | 9 => 9 | 3 => 3 | 4 => 4 | 20 => 20 | 0 => 0 | 46 => 65 | 109 => 93 | 5 => 5 | 72 => 98 | 76 => 102 | 51 => 112 | 146 => 118 | 53 => 38 | 148 => 61 | 70 => 96 | 37 => 57 | 75 => 101 | 127 => 120 | 164 => 122 | 80 => 105 | n => n, fun | n => n⟩
theorem Tryd.lays105 : Go.Proofs.Lays.n105 Tryd.prog Tryd.lays105_ren := {
  mixed := by kernel_rfl
  f99 := Tryd.func75.trans (congrArg some (by kernel_rfl))
  f105 := Tryd.func50.trans (congrArg some (by kernel_rfl))
  f165 := Tryd.func76.trans (congrArg some (by kernel_rfl))
  f166 := Tryd.func77.trans (congrArg some (by kernel_rfl))
  f169 := Tryd.func79.trans (congrArg some (by kernel_rfl))
  f170 := Tryd.func78.trans (congrArg some (by kernel_rfl))
  f206 := Tryd.func94.trans (congrArg some (by kernel_rfl))
  f212 := Tryd.func74.trans (congrArg some (by kernel_rfl))
  f240 := Tryd.func95.trans (congrArg some (by kernel_rfl))
  f241 := Tryd.func96.trans (congrArg some (by kernel_rfl))
  f263 := Tryd.func93.trans (congrArg some (by kernel_rfl))
  f264 := Tryd.func36.trans (congrArg some (by kernel_rfl))
  f276 := Tryd.func101.trans (congrArg some (by kernel_rfl))
  f277 := Tryd.func102.trans (congrArg some (by kernel_rfl))
  t0 := Tryd.underlying0
  a0 := Tryd.isAgg0
  z0 := Tryd.sizeOf0
  v0 := Tryd.zeroValue0
  t3 := Tryd.underlying3
  a3 := Tryd.isAgg3
  z3 := Tryd.sizeOf3
  v3 := Tryd.zeroValue3
  t4 := Tryd.underlying4
  a4 := Tryd.isAgg4
  z4 := Tryd.sizeOf4
  v4 := Tryd.zeroValue4
  t5 := Tryd.underlying5
  a5 := Tryd.isAgg5
  z5 := Tryd.sizeOf5
  v5 := Tryd.zeroValue5
  t9 := Tryd.underlying9
  a9 := Tryd.isAgg9
  z9 := Tryd.sizeOf9
  v9 := Tryd.zeroValue9
  t20 := Tryd.underlying20
  a20 := Tryd.isAgg20
  z20 := Tryd.sizeOf20
  v20 := Tryd.zeroValue20
  t37 := Tryd.underlying57
  a37 := Tryd.isAgg57
  z37 := Tryd.sizeOf57
  v37 := Tryd.zeroValue57
  t46 := Tryd.underlying65
  a46 := Tryd.isAgg65
  z46 := Tryd.sizeOf65
  v46 := Tryd.zeroValue65
  t51 := Tryd.underlying112
  a51 := Tryd.isAgg112
  z51 := Tryd.sizeOf112
  v51 := Tryd.zeroValue112
  t53 := Tryd.underlying38
  a53 := Tryd.isAgg38
  z53 := Tryd.sizeOf38
  v53 := Tryd.zeroValue38
  t70 := Tryd.underlying96
  a70 := Tryd.isAgg96
  z70 := Tryd.sizeOf96
  v70 := Tryd.zeroValue96
  t72 := Tryd.underlying98
  a72 := Tryd.isAgg98
  z72 := Tryd.sizeOf98
  v72 := Tryd.zeroValue98
  t75 := Tryd.underlying101
  a75 := Tryd.isAgg101
  z75 := Tryd.sizeOf101
  v75 := Tryd.zeroValue101
  t76 := Tryd.underlying102
  a76 := Tryd.isAgg102
  z76 := Tryd.sizeOf102
  v76 := Tryd.zeroValue102
  t109 := Tryd.underlying93
  a109 := Tryd.isAgg93
  z109 := Tryd.sizeOf93
  v109 := Tryd.zeroValue93
  t127 := Tryd.underlying120
  a127 := Tryd.isAgg120
  z127 := Tryd.sizeOf120
  v127 := Tryd.zeroValue120
  t146 := Tryd.underlying118
  a146 := Tryd.isAgg118
  z146 := Tryd.sizeOf118
  v146 := Tryd.zeroValue118
  t148 := Tryd.underlying61
  a148 := Tryd.isAgg61
  z148 := Tryd.sizeOf61
  v148 := Tryd.zeroValue61
  t164 := Tryd.underlying122
  a164 := Tryd.isAgg122
  z164 := Tryd.sizeOf122
  v164 := Tryd.zeroValue122 }
theorem Tryd.Builder_Extra_105 : Builder.Extra Tryd.prog Tryd.lays105_ren := {
  sizeBuilder := by kernel_rfl
  liesBuilder := by kernel_rfl
  t5 := Tryd.underlying5
  a5 := Tryd.isAgg5
  z5 := Tryd.sizeOf5
  v5 := Tryd.zeroValue5
  infoByte := by kernel_rfl
  cellsByte := by kernel_rfl
  sizeByte := by kernel_rfl
  neB5 := by decide }
open Go.RowKit Go.Lib in
/-- **strings.Repeat: count ≥ 0, the result within one allocation: count copies of s.** (LAID: no walk: one application.) -/
theorem Tryd.strings_Repeat (s : ByteArray) (c : Nat) (w : World) (hc : c ≤ 9223372036854775807) (hlen : s.size * c ≤ 140737488355328) :
    Calls Tryd.prog 50 #[.string s, .int .i64 c] w fun e w' => e = .returned (.string ⟨(Lib.repeatL s.data.toList c).toArray⟩) ∧ Below w.heap.size w w' := Any.strings_Repeat Tryd.lays105 Tryd.Builder_Extra_105 s c w hc hlen
end Go.Proofs
set_option linter.unusedVariables false
set_option linter.unusedSimpArgs false
namespace Go.Proofs.YtjhkpjddcaglnaaDoor
open Go Go.PV

/-- A contract of the library's that hands back a value: as ours. -/
theorem meets_lib {f : FuncId} {fn : Func} {c : Code} {args : List PV} {res : PV} (hf : Tryd.prog.funcs[f]? = some fn) (hname : (fn.name == "runtime.NumGoroutine") = false) (hb : fn.body = some c)
    (h : ∀ (w : World) (A : Nat → Prop) (vs : Array Value), args.length = vs.size → (∀ i, i < args.length → RD w A (args.getD i .undef) (vs.getD i undef)) →
      ∃ v, (∀ w' A, RD w' A res v) ∧ Calls Tryd.prog f vs w fun e w' => e = .returned v ∧ Go.RowKit.Below w.heap.size w w') : Meets Tryd.prog f args res := by
  refine ⟨fun w A vs hA hl ha => ?_⟩
  obtain ⟨v, hv, hc⟩ := h w A vs hl ha
  exact .inl ⟨call_enters hf hname hb vs w, hc.mono fun e w' ⟨he, hbel⟩ => ⟨v, he, hbel, hv _ _⟩⟩

theorem two_args {w : World} {A : Nat → Prop} {p q : PV} {vs : Array Value} (hl : [p, q].length = vs.size) (ha : ∀ i, i < [p, q].length → RD w A ([p, q].getD i .undef) (vs.getD i undef)) : ∃ u v, vs = #[u, v] ∧ RD w A p u ∧ RD w A q v := by
  have hs : vs.size = 2 := by simpa using hl.symm
  refine ⟨vs[0], vs[1], Array.ext (by simp [hs]) fun i h1 h2 => ?_, ?_, ?_⟩
  · match i, h1, h2 with
    | 0, _, _ => rfl
    | 1, _, _ => rfl
    | i + 2, h1, _ => omega
  · have := ha 0 (by simp)
    simpa [Array.getD, hs] using this
  · have := ha 1 (by simp)
    simpa [Array.getD, hs] using this

theorem bytes_of {s : ByteArray} {l : List Int} (h : bytesI s = l) : s.data.toList = l.map fun x => x.toNat.toUInt8 := by
  subst h
  unfold bytesI
  rw [List.map_map]
  refine (List.map_id _).symm.trans (List.map_congr_left fun b _ => ?_)
  simp

theorem repeatL_one (y : UInt8) : ∀ c, Lib.repeatL [y] c = List.replicate c y
  | 0 => rfl
  | c + 1 => by rw [Lib.repeatL, repeatL_one y c]; rfl

/-- strings.Repeat of one byte. -/
theorem repeat_byte (x : Int) (hx : 0 ≤ x ∧ x < 256) (c : Nat) (hc : c ≤ 1000000000) : Meets Tryd.prog 50 [.str [x], .int .i64 (c : Int)] (.str (List.replicate c x)) := by
  refine meets_lib Tryd.func50 (by kernel_rfl) (c := _) rfl fun w A vs hl ha => ?_
  obtain ⟨u, v, rfl, h1, h2⟩ := two_args hl ha
  obtain rfl := rd_int h2
  cases h1 with
  | str s _ h =>
    have hb := bytes_of h
    have hsz : s.size = 1 := by
      have := bytesI_length s
      rw [h] at this
      simpa using this.symm
    refine ⟨.string ⟨(Lib.repeatL s.data.toList c).toArray⟩, fun w' A => .str _ _ ?_, Tryd.strings_Repeat s c w (by omega) (by rw [hsz]; omega)⟩
    rw [hb]
    simp only [List.map_cons, List.map_nil, repeatL_one]
    unfold bytesI
    simp only [List.map_replicate]
    congr 1
    simp
    omega

end Go.Proofs.YtjhkpjddcaglnaaDoor
set_option maxHeartbeats 4000000
set_option maxRecDepth 4000
set_option linter.unusedVariables false
set_option linter.unusedSimpArgs false
namespace Go.Proofs.YtjhkpjddcaglnaaDoor
open Go Go.PV

/-- N / U, to the nearest, half to even. -/
def rhe (N U : Nat) : Nat := if 2 * (N % U) < U ∨ (2 * (N % U) = U ∧ N / U % 2 = 0) then N / U else N / U + 1
/-- The number whose digits are L of D's kept to k places. -/
def rowW (D L k : Nat) : Nat := if L ≤ k then D * 10 ^ (k - L) else rhe D (10 ^ (L - k))

theorem rowW_bounds {D L : Nat} (hL : ndig D = L) (h0 : D ≠ 0) (k : Nat) : rowW D L k ≤ 10 ^ k ∧ (k ≠ 0 → 10 ^ (k - 1) ≤ rowW D L k) ∧ (L ≤ k → rowW D L k < 10 ^ k) := by
  obtain ⟨g1, g2⟩ := ndig_ge h0
  have g3 := ndig_lt D
  rw [hL] at g1 g2 g3
  unfold rowW
  by_cases h : L ≤ k
  · rw [if_pos h]
    have e : 10 ^ k = 10 ^ L * 10 ^ (k - L) := by rw [← Nat.pow_add]; congr 1; omega
    have hlt : D * 10 ^ (k - L) < 10 ^ k := by rw [e]; exact Nat.mul_lt_mul_of_pos_right g3 (Nat.pow_pos (by decide))
    refine ⟨Nat.le_of_lt hlt, fun _ => ?_, fun _ => hlt⟩
    have e2 : 10 ^ (k - 1) = 10 ^ (L - 1) * 10 ^ (k - L) := by rw [← Nat.pow_add]; congr 1; omega
    rw [e2]
    exact Nat.mul_le_mul_right _ g2
  · rw [if_neg h]
    have hU : 0 < 10 ^ (L - k) := Nat.pow_pos (by decide)
    have e : 10 ^ L = 10 ^ k * 10 ^ (L - k) := by rw [← Nat.pow_add]; congr 1; omega
    have hlt : D / 10 ^ (L - k) < 10 ^ k := by rw [Nat.div_lt_iff_lt_mul hU, ← e]; exact g3
    have hr : D / 10 ^ (L - k) ≤ rhe D (10 ^ (L - k)) ∧ rhe D (10 ^ (L - k)) ≤ D / 10 ^ (L - k) + 1 := by unfold rhe; split <;> omega
    refine ⟨by omega, fun hk => ?_, fun h2 => absurd h2 h⟩
    have e2 : 10 ^ (L - 1) = 10 ^ (k - 1) * 10 ^ (L - k) := by rw [← Nat.pow_add]; congr 1; omega
    have : 10 ^ (k - 1) ≤ D / 10 ^ (L - k) := by rw [Nat.le_div_iff_mul_le hU, ← e2]; exact g2
    omega

/-- Its digits, with no zero at the head. -/
theorem text_k {W k : Nat} (h1 : W < 10 ^ k) (h2 : k ≠ 0 → 10 ^ (k - 1) ≤ W) : text 10 false W = digL k W := by
  rw [text_digL]
  congr 1
  cases k with
  | zero => rw [Nat.pow_zero] at h1; obtain rfl : W = 0 := by omega
            exact ndig_zero
  | succ k => exact ndig_of (h2 (by omega)) h1
theorem text_ten_pow (k : Nat) : text 10 false (10 ^ k) = 49 :: digL k 0 := by
  rw [text_digL, ndig_of (Nat.le_refl _) (Nat.pow_lt_pow_right (by decide) (Nat.lt_succ_self k)), Nat.add_comm, digL_add, Nat.div_self (Nat.pow_pos (by decide))]
  have : digL k (10 ^ k) = digL k 0 := by rw [← digL_mod, Nat.mod_self]
  rw [this]; rfl
theorem digL_zero (k : Nat) : digL k 0 = List.replicate k 48 := by
  have := digL_pad k 0 0 (by decide)
  simpa [digL] using this

theorem fixed_row_neg (s : List Int) (keep : Int) (h : keep < 0) : Meets Tryd.prog 51 [.str s, .int .i64 keep] (.tup [.str [], .bool false]) := by
  refine meets_by ttOk Tryd.func51 Tryd.ntmps51 Tryd.results51 (by kernel_rfl) (c := _) rfl rfl rfl fun E => ?_
  simp only [argsFrame]
  repeat' first
    | (with_reducible first | refine PW.seq ?_ | refine PW.block ?_ | refine PW.fork ?_ | refine PW.skip ?_ | refine PW.exit ?_ | refine PW.ret ?_)
    | (with_reducible refine PW.region ttOk ?_ ?_
       · rfl)
    | (with_reducible refine PW.regionD ttOk mixed ?_ ?_ ?_
       · rfl
       · rfl)
    | (with_reducible refine ifW_dec (fun g => ?_) (fun g => ?_) <;> first | (exfalso; omega) | (simp -dsimp only [g, wkI]))
    | (with_reducible refine condE_dec (fun g => ?_) (fun g => ?_) <;> try (exfalso; omega))
    | (with_reducible refine condE_not (fun g => ?_) (fun g => ?_) <;> try (exfalso; omega))
    | (simp -dsimp only [↓wkA, ↓wkE, wkB, ↓tt, Nat.reduceBEq, Nat.reduceEqDiff, ↓reduceIte, Nat.reduceLT, Array.toList, Nat.reduceAdd, Nat.reduceMul, Int.reduceToNat, Int.reducePow, UInt8.reduceToNat])
    | (simp -dsimp (disch := first | assumption | omega) only [dec_t, dec_f])
    | (refine And.intro ?_ ?_
       · first | omega | decide | (simp (disch := omega) only [wkW, Int.reduceToNat, Int.reducePow] <;> omega) | (simp <;> omega))
    | (simp (disch := omega) only [wkW, Int.reduceToNat, Int.reducePow])
    | fail

/-- fixed.row: the code. -/
theorem fixed_row_walk (s t : List Int) (k : Nat) (hk : k ≤ 100000) (c : Bool) (hr : Meets Tryd.prog 10 [.str s, .int .i64 (k : Int), .bool false] (.tup [.str t, .bool c, .int .i64 0])) (ht : t.length ≤ k) (r : List Int) (hres : r = (if c then [49] else []) ++ t ++ List.replicate (k - t.length) 48) (hc : c = true → t.length = k) :
    Meets Tryd.prog 51 [.str s, .int .i64 (k : Int)] (.tup [.str r, .bool c]) := by
  have hrep := repeat_byte 48 (by decide) (k - t.length) (by omega)
  have w1 : IntKind.wrap .i64 ((k : Int) - (t.length : Int)) = ((k - t.length : Nat) : Int) := by rw [wrap_i64 (by omega)]; omega
  have e1 : (if (0 : Int) > ((k - t.length : Nat) : Int) then (0 : Int) else ((k - t.length : Nat) : Int)) = ((k - t.length : Nat) : Int) := if_neg (by omega)
  obtain ⟨m, hm⟩ : ∃ m, k - t.length = m := ⟨_, rfl⟩
  rw [hm] at hrep w1 e1 hres
  subst hres
  cases c
  · skip
    refine meets_by ttOk Tryd.func51 Tryd.ntmps51 Tryd.results51 (by kernel_rfl) (c := _) rfl rfl rfl fun E => ?_
    simp only [argsFrame]
    repeat' first
      | (simp only [w1, e1])
      | (with_reducible first | refine PW.seq ?_ | refine PW.block ?_ | refine PW.fork ?_ | refine PW.skip ?_ | refine PW.exit ?_ | refine PW.ret ?_)
      | (with_reducible refine PW.region ttOk ?_ ?_
         · rfl)
      | (with_reducible refine PW.regionD ttOk mixed ?_ ?_ ?_
         · rfl
         · rfl)
      | (with_reducible refine ifW_dec (fun g => ?_) (fun g => ?_) <;> first | (exfalso; omega) | (simp -dsimp only [g, wkI]))
      | (with_reducible refine condE_dec (fun g => ?_) (fun g => ?_) <;> try (exfalso; omega))
      | (with_reducible refine condE_not (fun g => ?_) (fun g => ?_) <;> try (exfalso; omega))
      | (simp -dsimp only [↓wkA, ↓wkE, wkB, ↓tt, Nat.reduceBEq, Nat.reduceEqDiff, ↓reduceIte, Nat.reduceLT, Array.toList, Nat.reduceAdd, Nat.reduceMul, Int.reduceToNat, Int.reducePow, UInt8.reduceToNat])
      | (refine call_by (hr) (views_data rfl) ⟨trivial, trivial, trivial, trivial⟩ rfl ?_)
      | (refine call_by (hrep) (views_data rfl) ⟨trivial, trivial, trivial⟩ rfl ?_)
      | (simp -dsimp (disch := first | assumption | omega) only [dec_t, dec_f])
      | (refine And.intro ?_ ?_
         · first | omega | decide | (simp (disch := omega) only [wkW, Int.reduceToNat, Int.reducePow] <;> omega) | (simp <;> omega))
      | (simp (disch := omega) only [wkW, Int.reduceToNat, Int.reducePow])
      | fail
    all_goals simp
  · skip
    refine meets_by ttOk Tryd.func51 Tryd.ntmps51 Tryd.results51 (by kernel_rfl) (c := _) rfl rfl rfl fun E => ?_
    simp only [argsFrame]
    repeat' first
      | (simp only [w1, e1])
      | (with_reducible first | refine PW.seq ?_ | refine PW.block ?_ | refine PW.fork ?_ | refine PW.skip ?_ | refine PW.exit ?_ | refine PW.ret ?_)
      | (with_reducible refine PW.region ttOk ?_ ?_
         · rfl)
      | (with_reducible refine PW.regionD ttOk mixed ?_ ?_ ?_
         · rfl
         · rfl)
      | (with_reducible refine ifW_dec (fun g => ?_) (fun g => ?_) <;> first | (exfalso; omega) | (simp -dsimp only [g, wkI]))
      | (with_reducible refine condE_dec (fun g => ?_) (fun g => ?_) <;> try (exfalso; omega))
      | (with_reducible refine condE_not (fun g => ?_) (fun g => ?_) <;> try (exfalso; omega))
      | (simp -dsimp only [↓wkA, ↓wkE, wkB, ↓tt, Nat.reduceBEq, Nat.reduceEqDiff, ↓reduceIte, Nat.reduceLT, Array.toList, Nat.reduceAdd, Nat.reduceMul, Int.reduceToNat, Int.reducePow, UInt8.reduceToNat])
      | (refine call_by (hr) (views_data rfl) ⟨trivial, trivial, trivial, trivial⟩ rfl ?_)
      | (refine call_by (hrep) (views_data rfl) ⟨trivial, trivial, trivial⟩ rfl ?_)
      | (simp -dsimp (disch := first | assumption | omega) only [dec_t, dec_f])
      | (refine And.intro ?_ ?_
         · first | omega | decide | (simp (disch := omega) only [wkW, Int.reduceToNat, Int.reducePow] <;> omega) | (simp <;> omega))
      | (simp (disch := omega) only [wkW, Int.reduceToNat, Int.reducePow])
      | fail
    all_goals simp

/-- A row that is cut and rounded, as a text. -/
theorem row_text {D L : Nat} (hL : ndig D = L) (h0 : D ≠ 0) {k : Nat} (hkL : k < L) {z : Nat} (hz : z = 1 ↔ AllZ ((text 10 false D).drop (k + 1))) :
    (roundR (text 10 false D) k 0 z).1.length = k ∧ (if (roundR (text 10 false D) k 0 z).2 then [49] else []) ++ (roundR (text 10 false D) k 0 z).1 = text 10 false (rowW D L k) ∧ (roundR (text 10 false D) k 0 z).2 = decide (10 ^ k ≤ rowW D L k) := by
  obtain ⟨b1, b2, b3⟩ := rowW_bounds hL h0 k
  have hd : Digs (text 10 false D) := text_digs
  have hl : (text 10 false D).length = L := hL
  obtain ⟨r1, r2, r3, r4, r5⟩ := roundR_val hd (show k < (text 10 false D).length by omega) 0 z hz rfl rfl rfl
  rw [num_text (by decide), hl] at r4
  rw [hl] at r3 r5
  have hA := num_digs_lt (digs_take hd k)
  rw [List.length_take, hl, Nat.min_eq_left (by omega)] at hA
  generalize num 10 ((text 10 false D).take k) = A at *
  generalize num 10 ((text 10 false D).drop k) = R at *
  have hU : 0 < 10 ^ (L - k) := Nat.pow_pos (by decide)
  have hq : D / 10 ^ (L - k) = A := by
    rw [r4, Nat.mul_comm, Nat.mul_add_div hU, Nat.div_eq_of_lt r3, Nat.add_zero]
  have hm : D % 10 ^ (L - k) = R := by
    rw [r4, Nat.mul_comm, Nat.mul_add_mod, Nat.mod_eq_of_lt r3]
  have hW : rowW D L k = if 2 * R < 10 ^ (L - k) ∨ (2 * R = 10 ^ (L - k) ∧ A % 2 = 0) then A else A + 1 := by
    unfold rowW rhe
    rw [if_neg (by omega), hq, hm]
  obtain ⟨c, hc⟩ : ∃ c, (roundR (text 10 false D) k 0 z).2 = c := ⟨_, rfl⟩
  rw [hc] at r5 ⊢
  generalize (roundR (text 10 false D) k 0 z).1 = t at *
  have hN := num_digs_lt r2
  rw [r1] at hN
  -- the row's number and the digit that is carried out
  have hsum : num 10 t + (if c then 10 ^ k else 0) = rowW D L k := by
    rcases r5 with ⟨h1, h2, h3⟩ | ⟨h2, h3⟩
    · rw [hW, if_pos (show 2 * R < 10 ^ (L - k) ∨ (2 * R = 10 ^ (L - k) ∧ A % 2 = 0) by omega), h2]
      cases c
      · simp
      · exact absurd rfl h1
    · rw [h2, hW, if_neg (show ¬ (2 * R < 10 ^ (L - k) ∨ (2 * R = 10 ^ (L - k) ∧ A % 2 = 0)) by omega)]
  have hcd : c = decide (10 ^ k ≤ rowW D L k) := by
    rw [← hsum]
    cases c
    · exact (decide_eq_false (by rw [if_neg (by decide)]; omega)).symm
    · exact (decide_eq_true (by rw [if_pos rfl]; omega)).symm
  have htd := digs_digL k t r2 r1
  refine ⟨r1, ?_, hcd⟩
  cases c
  · rw [if_neg (by decide), Nat.add_zero] at hsum
    rw [text_k (by omega) b2, ← hsum, ← htd]; rfl
  · rw [if_pos rfl] at hsum
    have : num 10 t = 0 := by omega
    rw [this] at htd
    rw [show rowW D L k = 10 ^ k by omega, text_ten_pow, htd]; rfl

theorem fixed_row {D L : Nat} (hL : ndig D = L) (h0 : D ≠ 0) (hL2 : L ≤ 50000) (k : Nat) (hk : k ≤ 100000) : Meets Tryd.prog 51 [.str (text 10 false D), .int .i64 (k : Int)] (.tup [.str (text 10 false (rowW D L k)), .bool (decide (10 ^ k ≤ rowW D L k))]) := by
  obtain ⟨b1, b2, b3⟩ := rowW_bounds hL h0 k
  have hd : Digs (text 10 false D) := text_digs
  have hl : (text 10 false D).length = L := hL
  obtain ⟨g1, g2⟩ := ndig_ge h0
  by_cases hkL : L ≤ k
  · have hlt := b3 hkL
    rw [decide_eq_false (by omega)]
    have hr := round_keep (text 10 false D) hd (by omega) (by omega) k (by omega) (by omega) 0
    refine fixed_row_walk _ _ k hk false hr (by omega) _ ?_ (fun h => by cases h)
    rw [text_k hlt b2, hl, show rowW D L k = D * 10 ^ (k - L) from if_pos hkL, text_digL D, hL]
    have := digL_mul L (k - L) D
    rw [show L + (k - L) = k by omega] at this
    rw [this]
    simp
  · obtain ⟨z, hz⟩ : ∃ z : Nat, z = 1 ↔ AllZ ((text 10 false D).drop (k + 1)) := by
      by_cases h : AllZ ((text 10 false D).drop (k + 1))
      · exact ⟨1, fun _ => h, fun _ => rfl⟩
      · exact ⟨0, fun h2 => by omega, fun h2 => absurd h2 h⟩
    have hr := num_round (text 10 false D) hd (by omega) k (by omega) 0 z hz
    obtain ⟨r1, r2, r3⟩ := row_text hL h0 (show k < L by omega) hz
    rw [← r3]
    refine fixed_row_walk _ _ k hk _ hr (by omega) _ ?_ (fun _ => r1)
    rw [r1, Nat.sub_self, List.replicate_zero, List.append_nil, r2]
end Go.Proofs.YtjhkpjddcaglnaaDoor
set_option maxHeartbeats 4000000
set_option maxRecDepth 4000
set_option linter.unusedVariables false
set_option linter.unusedSimpArgs false
namespace Go.Proofs.YtjhkpjddcaglnaaDoor
open Go Go.PV

/-- Zeros ahead, so that one digit at least stands ahead of the point. -/
def padZ (n : Nat) (T : List Int) : List Int := if T.length ≤ n then List.replicate (n + 1 - T.length) 48 ++ T else T
theorem padZ_len (n : Nat) (T : List Int) : (padZ n T).length = if T.length ≤ n then n + 1 else T.length := by
  unfold padZ; split
  · simp; omega
  · rfl
theorem padZ_digs {n : Nat} {T : List Int} (h : Digs T) : Digs (padZ n T) := by
  unfold padZ; split
  · exact digs_append (digs_zeros _) h
  · exact h
/-- Where the point stands. -/
theorem padZ_text (n W : Nat) : (padZ n (text 10 false W)).take ((padZ n (text 10 false W)).length - n) = written 10 false (W / 10 ^ n) ∧ (padZ n (text 10 false W)).drop ((padZ n (text 10 false W)).length - n) = digL n W := by
  have hp : 0 < 10 ^ n := Nat.pow_pos (by decide)
  have hl : (text 10 false W).length = ndig W := rfl
  rw [padZ_len]
  unfold padZ
  rw [hl]
  by_cases h : ndig W ≤ n
  · rw [if_pos h, if_pos h]
    have hW : W < 10 ^ n := Nat.lt_of_lt_of_le (ndig_lt W) (Nat.pow_le_pow_right (by decide) h)
    have e : List.replicate (n + 1 - ndig W) 48 ++ text 10 false W = digL (1 + n) W := by
      rw [text_digL]
      have := digL_pad (n + 1 - ndig W) (ndig W) W (ndig_lt W)
      rw [show n + 1 - ndig W + ndig W = 1 + n by omega] at this
      exact this.symm
    rw [e, show n + 1 - n = 1 by omega, digL_take, digL_drop, Nat.div_eq_of_lt hW]
    exact ⟨rfl, rfl⟩
  · rw [if_neg h, if_neg h]
    have hq : W / 10 ^ n ≠ 0 := fun e => h (ndig_div.1 e)
    have hnd : ndig (W / 10 ^ n) = ndig W - n := by
      have h0 : W ≠ 0 := fun e => hq (by rw [e, Nat.zero_div])
      obtain ⟨g1, g2⟩ := ndig_ge h0
      have g3 := ndig_lt W
      have := ndig_of (v := W / 10 ^ n) (k := ndig W - n - 1) (by
        rw [Nat.le_div_iff_mul_le hp, ← Nat.pow_add, show ndig W - n - 1 + n = ndig W - 1 by omega]; exact g2) (by
        rw [Nat.div_lt_iff_lt_mul hp, ← Nat.pow_add, show ndig W - n - 1 + 1 + n = ndig W by omega]; exact g3)
      omega
    have e : text 10 false W = digL (ndig W - n + n) W := by rw [show ndig W - n + n = ndig W by omega]; exact text_digL W
    rw [e, digL_take, digL_drop]
    refine ⟨?_, rfl⟩
    rw [written, if_neg hq, text_digL (W / 10 ^ n), hnd]

def keepD (d n : Nat) : Int := (ndig (allD d) : Int) + allX d + n
def placesW (d n : Nat) : Nat := if absD d = 0 then 0 else if keepD d n < 0 then 0 else rowW (allD d) (ndig (allD d)) (keepD d n).toNat
def placesP (d : Nat) (n : Int) : PV := if finD d then (if n < 0 ∨ 4200 < n then .tup [.str [], .str [], .int .i64 1] else .tup [.str (written 10 false (placesW d n.toNat / 10 ^ n.toNat)), .str (digL n.toNat (placesW d n.toNat)), .int .i64 0]) else .tup [.str [], .str [], .int .i64 5]
def figW (d n : Nat) : Nat := rowW (allD d) (ndig (allD d)) n
def figP (d : Nat) (n : Int) : PV := if finD d then (if n < 1 ∨ 4200 < n then .tup [.str [], .int .i64 0, .int .i64 1] else if absD d = 0 then .tup [.str (List.replicate n.toNat 48), .int .i64 0, .int .i64 0] else
  if 10 ^ n.toNat ≤ figW d n.toNat then .tup [.str (digL n.toNat (figW d n.toNat / 10)), .int .i64 (allX d + (ndig (allD d) : Int)), .int .i64 0] else .tup [.str (digL n.toNat (figW d n.toNat)), .int .i64 (allX d + (ndig (allD d) : Int) - 1), .int .i64 0]) else .tup [.str [], .int .i64 0, .int .i64 5]

theorem allD_bounds {d : Nat} (h : finD d) (h0 : absD d ≠ 0) : allD d ≠ 0 ∧ allD d % 10 ≠ 0 ∧ 0 < ndig (allD d) ∧ ndig (allD d) ≤ 3300 ∧ -1074 ≤ allX d ∧ allX d ≤ 3300 := by
  have hN := allN_ne h0
  have hD : allD d ≠ 0 := core_ne hN
  have hlt := allN_lt h
  have hnd : ndig (allN d) ≤ 3300 := ndig_two hlt
  obtain ⟨_, h2⟩ := core_text hN
  have hz := tz10_le (allN d)
  have hge := expD_ge d
  refine ⟨hD, (core_spec hN).2, (ndig_ge hD).1, ?_, ?_, ?_⟩
  · have : (ndig (core10 (allN d)) : Int) ≤ 3300 := by omega
    unfold allD; omega
  · unfold allX; omega
  · unfold allX; omega

theorem fixed_places_walk (d : Int) (ng : Bool) (s : List Int) (x : Int) (n : Nat) (hn : n ≤ 4200) (keep : Int) (hsl : s.length ≤ 4000) (hx : -5000 ≤ x ∧ x ≤ 5000) (hkeep : (s.length : Int) + x + (n : Int) = keep)
    (hall : Meets Tryd.prog 20 [.int .u64 d] (.tup [.agg [.bool ng, .str s, .int .i64 x], .int .i64 0])) (t0 : List Int) (c : Bool) (hrow : Meets Tryd.prog 51 [.str s, .int .i64 keep] (.tup [.str t0, .bool c]))
    (T : List Int) (z : Bool) (hz : decide (s = [48]) = z) (hT : T = if z then [] else t0) (hTl : T.length ≤ 20000) (wh pt : List Int) (h1 : (padZ n T).take ((padZ n T).length - n) = wh) (h2 : (padZ n T).drop ((padZ n T).length - n) = pt) :
    Meets Tryd.prog 29 [.int .u64 d, .int .i64 (n : Int)] (.tup [.str wh, .str pt, .int .i64 0]) := by
  have w1 : IntKind.wrap .i64 ((s.length : Int) + x) = (s.length : Int) + x := wrap_i64 (by omega)
  have w2 : IntKind.wrap .i64 ((s.length : Int) + x + (n : Int)) = keep := by rw [wrap_i64 (by omega)]; exact hkeep
  have w3 : IntKind.wrap .i64 ((n : Int) + 1) = (n : Int) + 1 := wrap_i64 (by omega)
  by_cases hTn : T.length ≤ n
  · have hZ : padZ n T = List.replicate (n + 1 - T.length) 48 ++ T := if_pos hTn
    have w4 : IntKind.wrap .i64 ((n : Int) + 1 - (T.length : Int)) = ((n + 1 - T.length : Nat) : Int) := by rw [wrap_i64 (by omega)]; omega
    have hrep := repeat_byte 48 (by decide) (n + 1 - T.length) (by omega)
    have ek : ((n + 1 - T.length : Nat) : Int) = (n : Int) + 1 - (T.length : Int) := by omega
    rw [hZ] at h1 h2
    generalize n + 1 - T.length = k at *
    have hkl : (List.replicate k (48 : Int)).length = k := List.length_replicate
    clear hZ
    generalize List.replicate k (48 : Int) = R at *
    have hlen : (R ++ T).length = R.length + T.length := List.length_append
    have e : (((R.length + T.length : Nat) : Int) - (n : Int)).toNat = (R ++ T).length - n := by rw [hlen]; omega
    rw [← h1, ← h2]
    cases z
    · simp only [Bool.false_eq_true, if_false] at hT
      subst hT
      rw [← e]
      refine meets_by ttOk Tryd.func29 Tryd.ntmps29 Tryd.results29 (by kernel_rfl) (c := _) rfl rfl rfl fun E => ?_
      simp only [argsFrame]
      repeat' first
        | (simp only [w1, w2, w3, w4, hz])
        | (with_reducible first | refine PW.seq ?_ | refine PW.block ?_ | refine PW.fork ?_ | refine PW.skip ?_ | refine PW.exit ?_ | refine PW.ret ?_)
        | (with_reducible refine PW.region ttOk ?_ ?_
           · rfl)
        | (with_reducible refine PW.regionD ttOk mixed ?_ ?_ ?_
           · rfl
           · rfl)
        | (with_reducible refine ifW_dec (fun g => ?_) (fun g => ?_) <;> first | (exfalso; omega) | (simp -dsimp only [g, wkI]))
        | (with_reducible refine condE_dec (fun g => ?_) (fun g => ?_) <;> try (exfalso; omega))
        | (with_reducible refine condE_not (fun g => ?_) (fun g => ?_) <;> try (exfalso; omega))
        | (simp -dsimp only [↓wkA, ↓wkE, wkB, ↓tt, Nat.reduceBEq, Nat.reduceEqDiff, ↓reduceIte, Nat.reduceLT, Array.toList, Nat.reduceAdd, Nat.reduceMul, Int.reduceToNat, Int.reducePow, UInt8.reduceToNat])
        | (refine call_by (hall) (views_data rfl) ⟨trivial, trivial⟩ rfl ?_)
        | (refine call_by (hrow) (views_data rfl) ⟨trivial, trivial, trivial⟩ rfl ?_)
        | (refine call_by (hrep) (views_data rfl) ⟨trivial, trivial, trivial⟩ rfl ?_)
        | (simp -dsimp (disch := first | assumption | omega) only [dec_t, dec_f])
        | (refine And.intro ?_ ?_
           · first | omega | decide | (simp (disch := omega) only [wkW, Int.reduceToNat, Int.reducePow] <;> omega) | (simp <;> omega))
        | (simp (disch := omega) only [wkW, Int.reduceToNat, Int.reducePow])
        | fail
    · simp only [if_true] at hT
      subst hT
      have ek1 : (k : Int) = (n : Int) + 1 := by simp at ek; exact ek
      rw [ek1] at hrep
      rw [List.append_nil] at e ⊢
      rw [← e]
      clear w4 ek e h1 h2 hlen
      refine meets_by ttOk Tryd.func29 Tryd.ntmps29 Tryd.results29 (by kernel_rfl) (c := _) rfl rfl rfl fun E => ?_
      simp only [argsFrame]
      repeat' first
        | (simp only [w1, w2, w3, hz])
        | (with_reducible first | refine PW.seq ?_ | refine PW.block ?_ | refine PW.fork ?_ | refine PW.skip ?_ | refine PW.exit ?_ | refine PW.ret ?_)
        | (with_reducible refine PW.region ttOk ?_ ?_
           · rfl)
        | (with_reducible refine PW.regionD ttOk mixed ?_ ?_ ?_
           · rfl
           · rfl)
        | (with_reducible refine ifW_dec (fun g => ?_) (fun g => ?_) <;> first | (exfalso; omega) | (simp -dsimp only [g, wkI]))
        | (with_reducible refine condE_dec (fun g => ?_) (fun g => ?_) <;> try (exfalso; omega))
        | (with_reducible refine condE_not (fun g => ?_) (fun g => ?_) <;> try (exfalso; omega))
        | (simp -dsimp only [↓wkA, ↓wkE, wkB, ↓tt, Nat.reduceBEq, Nat.reduceEqDiff, ↓reduceIte, Nat.reduceLT, Array.toList, Nat.reduceAdd, Nat.reduceMul, Int.reduceToNat, Int.reducePow, UInt8.reduceToNat])
        | (refine call_by (hall) (views_data rfl) ⟨trivial, trivial⟩ rfl ?_)
        | (refine call_by (hrow) (views_data rfl) ⟨trivial, trivial, trivial⟩ rfl ?_)
        | (refine call_by (hrep) (views_data rfl) ⟨trivial, trivial, trivial⟩ rfl ?_)
        | (simp -dsimp (disch := first | assumption | omega) only [dec_t, dec_f])
        | (refine And.intro ?_ ?_
           · first | omega | decide | (simp (disch := omega) only [wkW, Int.reduceToNat, Int.reducePow] <;> omega) | (simp <;> omega))
        | (simp (disch := omega) only [wkW, Int.reduceToNat, Int.reducePow])
        | fail
      all_goals simp
  · have hZ : padZ n T = T := if_neg hTn
    rw [hZ] at h1 h2
    have e : ((T.length : Int) - (n : Int)).toNat = T.length - n := by omega
    rw [← h1, ← h2]
    cases z
    · simp only [Bool.false_eq_true, if_false] at hT
      subst hT
      rw [← e]
      refine meets_by ttOk Tryd.func29 Tryd.ntmps29 Tryd.results29 (by kernel_rfl) (c := _) rfl rfl rfl fun E => ?_
      simp only [argsFrame]
      repeat' first
        | (simp only [w1, w2, hz])
        | (with_reducible first | refine PW.seq ?_ | refine PW.block ?_ | refine PW.fork ?_ | refine PW.skip ?_ | refine PW.exit ?_ | refine PW.ret ?_)
        | (with_reducible refine PW.region ttOk ?_ ?_
           · rfl)
        | (with_reducible refine PW.regionD ttOk mixed ?_ ?_ ?_
           · rfl
           · rfl)
        | (with_reducible refine ifW_dec (fun g => ?_) (fun g => ?_) <;> first | (exfalso; omega) | (simp -dsimp only [g, wkI]))
        | (with_reducible refine condE_dec (fun g => ?_) (fun g => ?_) <;> try (exfalso; omega))
        | (with_reducible refine condE_not (fun g => ?_) (fun g => ?_) <;> try (exfalso; omega))
        | (simp -dsimp only [↓wkA, ↓wkE, wkB, ↓tt, Nat.reduceBEq, Nat.reduceEqDiff, ↓reduceIte, Nat.reduceLT, Array.toList, Nat.reduceAdd, Nat.reduceMul, Int.reduceToNat, Int.reducePow, UInt8.reduceToNat])
        | (refine call_by (hall) (views_data rfl) ⟨trivial, trivial⟩ rfl ?_)
        | (refine call_by (hrow) (views_data rfl) ⟨trivial, trivial, trivial⟩ rfl ?_)
        | (simp -dsimp (disch := first | assumption | omega) only [dec_t, dec_f])
        | (refine And.intro ?_ ?_
           · first | omega | decide | (simp (disch := omega) only [wkW, Int.reduceToNat, Int.reducePow] <;> omega) | (simp <;> omega))
        | (simp (disch := omega) only [wkW, Int.reduceToNat, Int.reducePow])
        | fail
    · simp only [if_true] at hT
      subst hT
      exact absurd (Nat.zero_le n) hTn

theorem fixed_places_err (d : Int) (ng : Bool) (s : List Int) (x e : Int) (he : e ≠ 0) (n : Int) (hall : Meets Tryd.prog 20 [.int .u64 d] (.tup [.agg [.bool ng, .str s, .int .i64 x], .int .i64 e])) : Meets Tryd.prog 29 [.int .u64 d, .int .i64 n] (.tup [.str [], .str [], .int .i64 e]) := by
  have hd : decide (e = 0) = false := decide_eq_false he
  refine meets_by ttOk Tryd.func29 Tryd.ntmps29 Tryd.results29 (by kernel_rfl) (c := _) rfl rfl rfl fun E => ?_
  simp only [argsFrame]
  repeat' first
    | (simp only [hd])
    | (with_reducible first | refine PW.seq ?_ | refine PW.block ?_ | refine PW.fork ?_ | refine PW.skip ?_ | refine PW.exit ?_ | refine PW.ret ?_)
    | (with_reducible refine PW.region ttOk ?_ ?_
       · rfl)
    | (with_reducible refine PW.regionD ttOk mixed ?_ ?_ ?_
       · rfl
       · rfl)
    | (with_reducible refine ifW_dec (fun g => ?_) (fun g => ?_) <;> first | (exfalso; omega) | (simp -dsimp only [g, wkI]))
    | (with_reducible refine condE_dec (fun g => ?_) (fun g => ?_) <;> try (exfalso; omega))
    | (with_reducible refine condE_not (fun g => ?_) (fun g => ?_) <;> try (exfalso; omega))
    | (simp -dsimp only [↓wkA, ↓wkE, wkB, ↓tt, Nat.reduceBEq, Nat.reduceEqDiff, ↓reduceIte, Nat.reduceLT, Array.toList, Nat.reduceAdd, Nat.reduceMul, Int.reduceToNat, Int.reducePow, UInt8.reduceToNat])
    | (refine call_by (hall) (views_data rfl) ⟨trivial, trivial⟩ rfl ?_)
    | (simp -dsimp (disch := first | assumption | omega) only [dec_t, dec_f])
    | (refine And.intro ?_ ?_
       · first | omega | decide | (simp (disch := omega) only [wkW, Int.reduceToNat, Int.reducePow] <;> omega) | (simp <;> omega))
    | (simp (disch := omega) only [wkW, Int.reduceToNat, Int.reducePow])
    | fail
theorem fixed_places_arg (d : Int) (ng : Bool) (s : List Int) (x : Int) (n : Int) (hn : n < 0 ∨ 4200 < n) (hall : Meets Tryd.prog 20 [.int .u64 d] (.tup [.agg [.bool ng, .str s, .int .i64 x], .int .i64 0])) : Meets Tryd.prog 29 [.int .u64 d, .int .i64 n] (.tup [.str [], .str [], .int .i64 1]) := by
  rcases hn with hn | hn
  all_goals (refine meets_by ttOk Tryd.func29 Tryd.ntmps29 Tryd.results29 (by kernel_rfl) (c := _) rfl rfl rfl fun E => ?_; simp only [argsFrame])
  all_goals
    repeat' first
      | (with_reducible first | refine PW.seq ?_ | refine PW.block ?_ | refine PW.fork ?_ | refine PW.skip ?_ | refine PW.exit ?_ | refine PW.ret ?_)
      | (with_reducible refine PW.region ttOk ?_ ?_
         · rfl)
      | (with_reducible refine PW.regionD ttOk mixed ?_ ?_ ?_
         · rfl
         · rfl)
      | (with_reducible refine ifW_dec (fun g => ?_) (fun g => ?_) <;> first | (exfalso; omega) | (simp -dsimp only [g, wkI]))
      | (with_reducible refine condE_dec (fun g => ?_) (fun g => ?_) <;> try (exfalso; omega))
      | (with_reducible refine condE_not (fun g => ?_) (fun g => ?_) <;> try (exfalso; omega))
      | (simp -dsimp only [↓wkA, ↓wkE, wkB, ↓tt, Nat.reduceBEq, Nat.reduceEqDiff, ↓reduceIte, Nat.reduceLT, Array.toList, Nat.reduceAdd, Nat.reduceMul, Int.reduceToNat, Int.reducePow, UInt8.reduceToNat])
      | (refine call_by (hall) (views_data rfl) ⟨trivial, trivial⟩ rfl ?_)
      | (simp -dsimp (disch := first | assumption | omega) only [dec_t, dec_f])
      | (refine And.intro ?_ ?_
         · first | omega | decide | (simp (disch := omega) only [wkW, Int.reduceToNat, Int.reducePow] <;> omega) | (simp <;> omega))
      | (simp (disch := omega) only [wkW, Int.reduceToNat, Int.reducePow])
      | fail

theorem zero_text {D : Nat} (h : D ≠ 0) : text 10 false D ≠ [48] := fun e => by
  have h1 := num_text (b := 10) (by decide) false D
  rw [e] at h1
  exact h (h1.symm.trans rfl)

theorem fixed_places (d : Nat) (hd : d < 18446744073709551616) (n : Int) : Meets Tryd.prog 29 [.int .u64 (d : Int), .int .i64 n] (placesP d n) := by
  have hall := fixed_all d hd
  unfold allP decP at hall
  unfold placesP
  by_cases hf : finD d
  case neg =>
    rw [if_neg hf] at hall ⊢
    exact fixed_places_err _ _ _ _ _ (by decide) _ hall
  rw [if_pos hf] at hall ⊢
  by_cases hn : n < 0 ∨ 4200 < n
  · rw [if_pos hn]
    by_cases h0 : absD d = 0
    · rw [if_pos h0] at hall
      exact fixed_places_arg _ _ _ _ _ hn hall
    · rw [if_neg h0] at hall
      exact fixed_places_arg _ _ _ _ _ hn hall
  rw [if_neg hn]
  obtain ⟨n, rfl⟩ := Int.eq_ofNat_of_zero_le (show 0 ≤ n by omega)
  rw [Int.toNat_natCast]
  by_cases h0 : absD d = 0
  · rw [if_pos h0] at hall
    have hr := round_keep [48] (fun x hx => by simp at hx; subst hx; decide) (by decide) (by decide) (n + 1) (by simp) (by omega) 0
    have hrow := fixed_row_walk [48] [48] (n + 1) (by omega) false hr (by simp) _ rfl (fun h => by cases h)
    have hW : placesW d n = 0 := if_pos h0
    rw [hW]
    obtain ⟨p1, p2⟩ := padZ_text n 0
    rw [text_nil] at p1 p2
    exact fixed_places_walk (d : Int) (negD d) [48] 0 n (by omega) ((n + 1 : Nat) : Int) (by decide) (by decide) (by simp; omega) hall _ _ hrow [] true rfl rfl (by simp) _ _ p1 p2
  · rw [if_neg h0] at hall
    obtain ⟨b1, b2, b3, b4, b5, b6⟩ := allD_bounds hf h0
    have hl : (text 10 false (allD d)).length = ndig (allD d) := rfl
    have hz : decide (text 10 false (allD d) = [48]) = false := decide_eq_false (zero_text b1)
    obtain ⟨p1, p2⟩ := padZ_text n (placesW d n)
    have hkd : keepD d n = (ndig (allD d) : Int) + allX d + n := rfl
    by_cases hk : keepD d n < 0
    · have hrow := fixed_row_neg (text 10 false (allD d)) (keepD d n) hk
      have hW : placesW d n = 0 := by unfold placesW; rw [if_neg h0, if_pos hk]
      rw [hW] at p1 p2 ⊢
      rw [text_nil] at p1 p2
      exact fixed_places_walk (d : Int) (negD d) _ (allX d) n (by omega) (keepD d n) (by omega) (by omega) (by omega) hall _ _ hrow [] false hz rfl (by simp) _ _ p1 p2
    · have hrow := fixed_row rfl b1 (by omega) (keepD d n).toNat (by omega)
      have hW : placesW d n = rowW (allD d) (ndig (allD d)) (keepD d n).toNat := by unfold placesW; rw [if_neg h0, if_neg hk]
      rw [show (((keepD d n).toNat : Nat) : Int) = keepD d n by omega, ← hW] at hrow
      have hle := (rowW_bounds rfl b1 (keepD d n).toNat).1
      rw [← hW] at hle
      have hndW : ndig (placesW d n) ≤ (keepD d n).toNat + 1 := ndig_le (Nat.lt_of_le_of_lt hle (Nat.pow_lt_pow_right (by decide) (Nat.lt_succ_self _)))
      have hlW : (text 10 false (placesW d n)).length = ndig (placesW d n) := rfl
      exact fixed_places_walk (d : Int) (negD d) _ (allX d) n (by omega) (keepD d n) (by omega) (by omega) (by omega) hall _ _ hrow (text 10 false (placesW d n)) false hz rfl (by omega) _ _ p1 p2
end Go.Proofs.YtjhkpjddcaglnaaDoor
set_option maxHeartbeats 4000000
set_option maxRecDepth 4000
set_option linter.unusedVariables false
set_option linter.unusedSimpArgs false
namespace Go.Proofs.YtjhkpjddcaglnaaDoor
open Go Go.PV

theorem ref11_more (s : List Int) (hs : Digs s) (hsl : s.length ≤ 100000) (u : List Int × Bool) (hu : upD s s.length = u) : Meets Tryd.prog 92 [.str s] (.str (if u.2 then 49 :: u.1 else u.1)) := by
  have hul : u.1.length = s.length := by rw [← hu]; exact (upD_val s.length s (Nat.le_refl _) hs).1
  have w1 : IntKind.wrap .i64 ((s.length : Int) - 1) = (s.length : Int) - 1 := wrap_i64 (by omega)
  have hby : s.map PV.byteOf = s := byteOf_list (digs_bytes hs)
  refine meets_by ttOk Tryd.func92 Tryd.ntmps92 Tryd.results92 (by kernel_rfl) (c := _) rfl rfl rfl fun E => ?_
  simp only [argsFrame]
  repeat' first
    | (simp only [w1, hby])
    | (with_reducible first | refine PW.seq ?_ | refine PW.block ?_ | refine PW.fork ?_ | refine PW.skip ?_ | refine PW.exit ?_ | refine PW.ret ?_)
    | (with_reducible refine PW.region ttOk ?_ ?_
       · rfl)
    | (with_reducible refine PW.regionD ttOk mixed ?_ ?_ ?_
       · rfl
       · rfl)
    | (with_reducible refine ifW_dec (fun g => ?_) (fun g => ?_) <;> first | (exfalso; omega) | (simp -dsimp only [g, wkI]))
    | (with_reducible refine condE_dec (fun g => ?_) (fun g => ?_) <;> try (exfalso; omega))
    | (with_reducible refine condE_not (fun g => ?_) (fun g => ?_) <;> try (exfalso; omega))
    | (simp -dsimp only [↓wkA, ↓wkE, wkB, ↓tt, Nat.reduceBEq, Nat.reduceEqDiff, ↓reduceIte, Nat.reduceLT, Array.toList, Nat.reduceAdd, Nat.reduceMul, Int.reduceToNat, Int.reducePow, UInt8.reduceToNat])
    | (simp -dsimp (disch := first | assumption | omega) only [dec_t, dec_f])
    | (refine And.intro ?_ ?_
       · first | omega | decide | (simp (disch := omega) only [wkW, Int.reduceToNat, Int.reducePow] <;> omega) | (simp <;> omega))
    | (simp (disch := omega) only [wkW, Int.reduceToNat, Int.reducePow])
    | fail
  refine PW.meetB (fun F H => ∃ m row, row.length = s.length ∧ m ≤ s.length ∧ Digs row ∧ upD row m = u ∧ (m = 0 ∨ row.getD (m - 1) 0 ≠ 57) ∧ F = [(4, .int .i64 ((m : Int) - 1)), (3, .sl 0 0 s.length true)] ∧ H = ⟨1, [(0, .ints .u8 row)], [], []⟩) ?_ ?_
  · refine PW.loopA (fun m F H => ∃ row : List Int, row.length = s.length ∧ m ≤ s.length ∧ Digs row ∧ upD row m = u ∧ F = [(4, .int .i64 ((m : Int) - 1)), (3, .sl 0 0 s.length true)] ∧ H = ⟨1, [(0, .ints .u8 row)], [], []⟩) s.length [(4, .int .i64 ((s.length : Int) - 1)), (3, .sl 0 0 s.length true)] ⟨1, [(0, .ints .u8 s)], [], []⟩ (Sub.norm ⟨rfl, rfl, trivial⟩ ⟨rfl, trivial⟩ (Nat.le_refl _) rfl rfl rfl rfl) ⟨s, rfl, Nat.le_refl _, hs, hu, rfl, rfl⟩ ?_
    rintro m F H ⟨row, hrl, hm, hd, hup, rfl, rfl⟩
    cases m with
    | zero =>
      have e0 : ((0 : Nat) : Int) - 1 = -1 := rfl
      rw [e0]
      repeat' first
        | (with_reducible first | refine PW.seq ?_ | refine PW.block ?_ | refine PW.fork ?_ | refine PW.skip ?_ | refine PW.exit ?_ | refine PW.ret ?_)
        | (with_reducible refine PW.region ttOk ?_ ?_
           · rfl)
        | (with_reducible refine PW.regionD ttOk mixed ?_ ?_ ?_
           · rfl
           · rfl)
        | (with_reducible refine ifW_dec (fun g => ?_) (fun g => ?_) <;> first | (exfalso; omega) | (simp -dsimp only [g, wkI]))
        | (with_reducible refine condE_dec (fun g => ?_) (fun g => ?_) <;> try (exfalso; omega))
        | (with_reducible refine condE_not (fun g => ?_) (fun g => ?_) <;> try (exfalso; omega))
        | (simp -dsimp only [↓wkA, ↓wkE, wkB, ↓tt, Nat.reduceBEq, Nat.reduceEqDiff, ↓reduceIte, Nat.reduceLT, Array.toList, Nat.reduceAdd, Nat.reduceMul, Int.reduceToNat, Int.reducePow, UInt8.reduceToNat])
        | (simp -dsimp (disch := first | assumption | omega) only [dec_t, dec_f])
        | (refine And.intro ?_ ?_
           · first | omega | decide | (simp (disch := omega) only [wkW, Int.reduceToNat, Int.reducePow] <;> omega) | (simp <;> omega))
        | (simp (disch := omega) only [wkW, Int.reduceToNat, Int.reducePow])
        | fail
      exact Meet.mk [(4, .int .i64 (((0 : Nat) : Int) - 1)), (3, .sl 0 0 s.length true)] ⟨1, [(0, .ints .u8 row)], [], []⟩ (Sub.norm ⟨rfl, rfl, trivial⟩ ⟨rfl, trivial⟩ (Nat.le_refl _) rfl rfl rfl rfl) ⟨0, row, hrl, by omega, hd, hup, .inl rfl, rfl, rfl⟩
    | succ m =>
      have e1 : ((m + 1 : Nat) : Int) - 1 = (m : Int) := by omega
      have w2 : IntKind.wrap .i64 ((m : Int) - 1) = (m : Int) - 1 := wrap_i64 (by omega)
      simp only [e1]
      by_cases h57 : row.getD m 0 = 57
      · have hup2 : upD (row.set m 48) m = u := by rw [upD, if_pos h57] at hup; exact hup
        have hd57 : decide (row.getD m 0 = 57) = true := decide_eq_true h57
        repeat' first
          | (simp only [w2, h57, Int.toNat_natCast])
          | (with_reducible first | refine PW.seq ?_ | refine PW.block ?_ | refine PW.fork ?_ | refine PW.skip ?_ | refine PW.exit ?_ | refine PW.ret ?_)
          | (with_reducible refine PW.region ttOk ?_ ?_
             · rfl)
          | (with_reducible refine PW.regionD ttOk mixed ?_ ?_ ?_
             · rfl
             · rfl)
          | (with_reducible refine ifW_dec (fun g => ?_) (fun g => ?_) <;> first | (exfalso; omega) | (simp -dsimp only [g, wkI]))
          | (with_reducible refine condE_dec (fun g => ?_) (fun g => ?_) <;> try (exfalso; omega))
          | (with_reducible refine condE_not (fun g => ?_) (fun g => ?_) <;> try (exfalso; omega))
          | (simp -dsimp only [↓wkA, ↓wkE, wkB, ↓tt, Nat.reduceBEq, Nat.reduceEqDiff, ↓reduceIte, Nat.reduceLT, Array.toList, Nat.reduceAdd, Nat.reduceMul, Int.reduceToNat, Int.reducePow, UInt8.reduceToNat])
          | (simp -dsimp (disch := first | assumption | omega) only [dec_t, dec_f])
          | (refine And.intro ?_ ?_
             · first | omega | decide | (simp (disch := omega) only [wkW, Int.reduceToNat, Int.reducePow] <;> omega) | (simp <;> omega))
          | (simp (disch := omega) only [wkW, Int.reduceToNat, Int.reducePow])
          | fail
        exact Again.mk m [(4, .int .i64 ((m : Int) - 1)), (3, .sl 0 0 s.length true)] ⟨1, [(0, .ints .u8 (row.set m 48))], [], []⟩ (by omega) (Sub.norm ⟨rfl, rfl, trivial⟩ ⟨rfl, trivial⟩ (by simp) rfl rfl rfl rfl) ⟨_, by simp [hrl], by omega, digs_set hd m (by decide), hup2, rfl, rfl⟩
      · skip
        repeat' first
          | (simp only [w2, Int.toNat_natCast])
          | (with_reducible first | refine PW.seq ?_ | refine PW.block ?_ | refine PW.fork ?_ | refine PW.skip ?_ | refine PW.exit ?_ | refine PW.ret ?_)
          | (with_reducible refine PW.region ttOk ?_ ?_
             · rfl)
          | (with_reducible refine PW.regionD ttOk mixed ?_ ?_ ?_
             · rfl
             · rfl)
          | (with_reducible refine ifW_dec (fun g => ?_) (fun g => ?_) <;> first | (exfalso; omega) | (simp -dsimp only [g, wkI]))
          | (with_reducible refine condE_dec (fun g => ?_) (fun g => ?_) <;> try (exfalso; omega))
          | (with_reducible refine condE_not (fun g => ?_) (fun g => ?_) <;> try (exfalso; omega))
          | (simp -dsimp only [↓wkA, ↓wkE, wkB, ↓tt, Nat.reduceBEq, Nat.reduceEqDiff, ↓reduceIte, Nat.reduceLT, Array.toList, Nat.reduceAdd, Nat.reduceMul, Int.reduceToNat, Int.reducePow, UInt8.reduceToNat])
          | (simp -dsimp (disch := first | assumption | omega) only [dec_t, dec_f])
          | (refine And.intro ?_ ?_
             · first | omega | decide | (simp (disch := omega) only [wkW, Int.reduceToNat, Int.reducePow] <;> omega) | (simp <;> omega))
          | (simp (disch := omega) only [wkW, Int.reduceToNat, Int.reducePow])
          | fail
        exact Meet.mk [(4, .int .i64 (((m + 1 : Nat) : Int) - 1)), (3, .sl 0 0 s.length true)] ⟨1, [(0, .ints .u8 row)], [], []⟩ (Sub.norm ⟨congrArg (PV.int .i64) e1.symm, rfl, trivial⟩ ⟨rfl, trivial⟩ (Nat.le_refl _) rfl rfl rfl rfl) ⟨m + 1, row, hrl, by omega, hd, hup, .inr (by rw [Nat.add_sub_cancel]; exact h57), rfl, rfl⟩
  · rintro F H ⟨m, row, hrl, hm, hd, hup, hlast, rfl, rfl⟩
    cases m with
    | zero =>
      rw [upD] at hup
      subst hup
      have e0 : ((0 : Nat) : Int) - 1 = -1 := rfl
      have hby2 : row.map PV.byteOf = row := byteOf_list (digs_bytes hd)
      have htk : row.take s.length = row := List.take_of_length_le (by omega)
      rw [e0]
      repeat' first
        | (simp only [hby2, htk])
        | (with_reducible first | refine PW.seq ?_ | refine PW.block ?_ | refine PW.fork ?_ | refine PW.skip ?_ | refine PW.exit ?_ | refine PW.ret ?_)
        | (with_reducible refine PW.region ttOk ?_ ?_
           · rfl)
        | (with_reducible refine PW.regionD ttOk mixed ?_ ?_ ?_
           · rfl
           · rfl)
        | (with_reducible refine ifW_dec (fun g => ?_) (fun g => ?_) <;> first | (exfalso; omega) | (simp -dsimp only [g, wkI]))
        | (with_reducible refine condE_dec (fun g => ?_) (fun g => ?_) <;> try (exfalso; omega))
        | (with_reducible refine condE_not (fun g => ?_) (fun g => ?_) <;> try (exfalso; omega))
        | (simp -dsimp only [↓wkA, ↓wkE, wkB, ↓tt, Nat.reduceBEq, Nat.reduceEqDiff, ↓reduceIte, Nat.reduceLT, Array.toList, Nat.reduceAdd, Nat.reduceMul, Int.reduceToNat, Int.reducePow, UInt8.reduceToNat])
        | (simp -dsimp (disch := first | assumption | omega) only [dec_t, dec_f])
        | (refine And.intro ?_ ?_
           · first | omega | decide | (simp (disch := omega) only [wkW, Int.reduceToNat, Int.reducePow] <;> omega) | (simp <;> omega))
        | (simp (disch := omega) only [wkW, Int.reduceToNat, Int.reducePow])
        | fail
      all_goals simp
    | succ m =>
      have h57 : row.getD m 0 ≠ 57 := by
        rcases hlast with h | h
        · omega
        · rwa [Nat.add_sub_cancel] at h
      rw [upD, if_neg h57] at hup
      subst hup
      have hx := digs_get hd (show m < row.length by omega)
      have e1 : ((m + 1 : Nat) : Int) - 1 = (m : Int) := by omega
      have w3 : IntKind.wrap .u8 (row.getD m 0 + 1) = row.getD m 0 + 1 := wrap_u8 (by omega)
      have hby2 : (row.set m (row.getD m 0 + 1)).map PV.byteOf = row.set m (row.getD m 0 + 1) := byteOf_list (digs_bytes (digs_set hd m (by omega)))
      have htk : (row.set m (row.getD m 0 + 1)).take s.length = row.set m (row.getD m 0 + 1) := List.take_of_length_le (by simp; omega)
      simp only [e1]
      repeat' first
        | (simp only [w3, hby2, htk, Int.toNat_natCast])
        | (with_reducible first | refine PW.seq ?_ | refine PW.block ?_ | refine PW.fork ?_ | refine PW.skip ?_ | refine PW.exit ?_ | refine PW.ret ?_)
        | (with_reducible refine PW.region ttOk ?_ ?_
           · rfl)
        | (with_reducible refine PW.regionD ttOk mixed ?_ ?_ ?_
           · rfl
           · rfl)
        | (with_reducible refine ifW_dec (fun g => ?_) (fun g => ?_) <;> first | (exfalso; omega) | (simp -dsimp only [g, wkI]))
        | (with_reducible refine condE_dec (fun g => ?_) (fun g => ?_) <;> try (exfalso; omega))
        | (with_reducible refine condE_not (fun g => ?_) (fun g => ?_) <;> try (exfalso; omega))
        | (simp -dsimp only [↓wkA, ↓wkE, wkB, ↓tt, Nat.reduceBEq, Nat.reduceEqDiff, ↓reduceIte, Nat.reduceLT, Array.toList, Nat.reduceAdd, Nat.reduceMul, Int.reduceToNat, Int.reducePow, UInt8.reduceToNat])
        | (simp -dsimp (disch := first | assumption | omega) only [dec_t, dec_f])
        | (refine And.intro ?_ ?_
           · first | omega | decide | (simp (disch := omega) only [wkW, Int.reduceToNat, Int.reducePow] <;> omega) | (simp <;> omega))
        | (simp (disch := omega) only [wkW, Int.reduceToNat, Int.reducePow])
        | fail
      all_goals simp

theorem ref11_cut {D L : Nat} (hL : ndig D = L) (h0 : D ≠ 0) (h10 : D % 10 ≠ 0) (hL2 : L ≤ 50000) (k : Nat) (hk : k < L) : Meets Tryd.prog 73 [.str (text 10 false D), .int .i64 (k : Int)] (.str (text 10 false (rowW D L k))) := by
  have hd : Digs (text 10 false D) := text_digs
  have hl : (text 10 false D).length = L := hL
  -- nothing but zeros behind the next digit: only where there is nothing
  have hlast : (text 10 false D).getD (L - 1) 0 ≠ 48 := fun h => by
    have h1 := text_digL D
    rw [hL, show L = (L - 1) + 1 by omega, digL] at h1
    rw [h1, List.getD_eq_getElem?_getD, List.getElem?_append_right (by rw [digL_len]; exact Nat.le_refl _), digL_len, Nat.sub_self] at h
    simp at h
    omega
  obtain ⟨z, hz⟩ : ∃ z : Nat, z = 1 ↔ AllZ ((text 10 false D).drop (k + 1)) := by
    by_cases h : AllZ ((text 10 false D).drop (k + 1))
    · exact ⟨1, fun _ => h, fun _ => rfl⟩
    · exact ⟨0, fun h2 => by omega, fun h2 => absurd h2 h⟩
  have hzL : z = 1 ↔ L = k + 1 := by
    rw [hz]
    constructor
    · intro h
      refine Nat.le_antisymm (Nat.le_of_not_lt fun hlt => hlast ?_) hk
      have := h (L - 1 - (k + 1)) (by rw [List.length_drop, hl]; omega)
      rwa [getD_drop', show k + 1 + (L - 1 - (k + 1)) = L - 1 by omega] at this
    · intro h j hj
      rw [List.length_drop, hl] at hj; omega
  obtain ⟨r1, r2, r3⟩ := row_text hL h0 hk hz
  rw [← r2]
  clear r2 r3 hz hlast h10
  have htl : ((text 10 false D).take k).length = k := by rw [List.length_take, hl]; omega
  have hmore := ref11_more ((text 10 false D).take k) (digs_take hd k) (by omega) (upD ((text 10 false D).take k) k) (by rw [htl])
  have hdl : ((text 10 false D).drop k).length = L - k := by rw [List.length_drop, hl]
  have hg0 : ((text 10 false D).drop k).getD 0 0 = (text 10 false D).getD k 0 := by rw [getD_drop', Nat.add_zero]
  have hx := digs_get hd (show k < (text 10 false D).length by omega)
  have hy : 0 < k → ((text 10 false D).take k).getD (k - 1) 0 = (text 10 false D).getD (k - 1) 0 ∧ 48 ≤ (text 10 false D).getD (k - 1) 0 ∧ (text 10 false D).getD (k - 1) 0 ≤ 57 := fun h => ⟨getD_take' (by omega), digs_get hd (by omega)⟩
  have hne : decide ((text 10 false D).drop k = []) = false := decide_eq_false fun h => by rw [h] at hdl; simp at hdl; omega
  have htk : List.take (L - k) ((text 10 false D).drop k) = (text 10 false D).drop k := List.take_of_length_le (by omega)
  have hidx : 0 < k → IntKind.wrap .i64 ((k : Int) - 1) = ((k - 1 : Nat) : Int) := fun h => by rw [wrap_i64 (by omega)]; omega
  unfold roundR at r1 ⊢
  generalize text 10 false D = s at *
  generalize hs1 : s.take k = t1 at *
  generalize hs2 : s.drop k = t2 at *
  generalize upD t1 k = u at *
  have hres : (if s.getD k 0 < 53 ∨ (s.getD k 0 = 53 ∧ (0 : Nat) ≠ 1 ∧ z = 1 ∧ ¬ (0 < k ∧ (s.getD (k - 1) 0 - 48) % 2 = 1)) then (t1, false) else u) = (if s.getD k 0 < 53 ∨ (s.getD k 0 = 53 ∧ L = k + 1 ∧ ¬ (0 < k ∧ (s.getD (k - 1) 0 - 48) % 2 = 1)) then (t1, false) else u) := by
    by_cases hc : s.getD k 0 < 53 ∨ (s.getD k 0 = 53 ∧ L = k + 1 ∧ ¬ (0 < k ∧ (s.getD (k - 1) 0 - 48) % 2 = 1))
    · rw [if_pos hc, if_pos (hc.imp id fun ⟨a, b, c⟩ => ⟨a, by decide, hzL.2 b, c⟩)]
    · rw [if_neg hc, if_neg (fun h => hc (h.imp id fun ⟨a, _, b, c⟩ => ⟨a, hzL.1 b, c⟩))]
  rw [hres]
  clear hres r1 hzL hd
  have hu2 : (if u.2 = true then [49] else []) ++ u.1 = if u.2 = true then 49 :: u.1 else u.1 := by split <;> rfl
  have hcut1 : ∀ B : Prop, [Decidable B] → (if (if B then (t1, false) else u).2 = true then [49] else []) ++ (if B then (t1, false) else u).1 = if B then t1 else (if u.2 = true then 49 :: u.1 else u.1) := fun B _ => by
    by_cases hB : B
    · rw [if_pos hB, if_pos hB]; rfl
    · rw [if_neg hB, if_neg hB]; exact hu2
  rw [hcut1]
  generalize (if u.2 = true then 49 :: u.1 else u.1) = U at *
  generalize hx0 : s.getD k 0 = x at *
  have hz0 : decide (t2 = []) = false := hne
  by_cases hk0 : 0 < k
  · obtain ⟨hy1, hy2, hy3⟩ := hy hk0
    have w1 := hidx hk0
    have w2 : IntKind.wrap .u8 (s.getD (k - 1) 0 - 48) = s.getD (k - 1) 0 - 48 := wrap_u8 (by omega)
    have w3 : IntKind.wrap .u8 ((s.getD (k - 1) 0 - 48) % 2) = (s.getD (k - 1) 0 - 48) % 2 := wrap_u8 (by omega)
    have w4 : (s.getD (k - 1) 0 - 48).tmod 2 = (s.getD (k - 1) 0 - 48) % 2 := Int.tmod_eq_emod_of_nonneg (by omega)
    generalize s.getD (k - 1) 0 = y at *
    clear hy hidx
    refine meets_by ttOk Tryd.func73 Tryd.ntmps73 Tryd.results73 (by kernel_rfl) (c := _) rfl rfl rfl fun E => ?_
    simp only [argsFrame]
    repeat' first
      | (simp only [hs1, hs2, hl, hdl, hg0, hy1, w1, w2, w3, w4, htk, hz0, Int.toNat_natCast])
      | (with_reducible first | refine PW.seq ?_ | refine PW.block ?_ | refine PW.fork ?_ | refine PW.skip ?_ | refine PW.exit ?_ | refine PW.ret ?_)
      | (with_reducible refine PW.region ttOk ?_ ?_
         · rfl)
      | (with_reducible refine PW.regionD ttOk mixed ?_ ?_ ?_
         · rfl
         · rfl)
      | (with_reducible refine ifW_dec (fun g => ?_) (fun g => ?_) <;> first | (exfalso; omega) | (simp -dsimp only [g, wkI]))
      | (with_reducible refine condE_dec (fun g => ?_) (fun g => ?_) <;> try (exfalso; omega))
      | (with_reducible refine condE_not (fun g => ?_) (fun g => ?_) <;> try (exfalso; omega))
      | (simp -dsimp only [↓wkA, ↓wkE, wkB, ↓tt, Nat.reduceBEq, Nat.reduceEqDiff, ↓reduceIte, Nat.reduceLT, Array.toList, Nat.reduceAdd, Nat.reduceMul, Int.reduceToNat, Int.reducePow, UInt8.reduceToNat])
      | (refine call_by (hmore) (views_data rfl) ⟨trivial, trivial⟩ rfl ?_)
      | (simp -dsimp (disch := first | assumption | omega) only [dec_t, dec_f])
      | (refine And.intro ?_ ?_
         · first | omega | decide | (simp (disch := omega) only [wkW, Int.reduceToNat, Int.reducePow] <;> omega) | (simp <;> omega))
      | (simp (disch := omega) only [wkW, Int.reduceToNat, Int.reducePow])
      | fail
    all_goals (refine congrArg PV.str ?_; split <;> first | rfl | (exfalso; omega))
  · obtain rfl : k = 0 := by omega
    rw [List.drop_zero] at hs2
    rw [List.take_zero] at hs1
    subst hs1 hs2
    rw [Nat.sub_zero] at hdl htk
    refine meets_by ttOk Tryd.func73 Tryd.ntmps73 Tryd.results73 (by kernel_rfl) (c := _) rfl rfl rfl fun E => ?_
    simp only [argsFrame]
    repeat' first
      | (simp only [hl, hg0, htk, hz0, Int.toNat_natCast])
      | (with_reducible first | refine PW.seq ?_ | refine PW.block ?_ | refine PW.fork ?_ | refine PW.skip ?_ | refine PW.exit ?_ | refine PW.ret ?_)
      | (with_reducible refine PW.region ttOk ?_ ?_
         · rfl)
      | (with_reducible refine PW.regionD ttOk mixed ?_ ?_ ?_
         · rfl
         · rfl)
      | (with_reducible refine ifW_dec (fun g => ?_) (fun g => ?_) <;> first | (exfalso; omega) | (simp -dsimp only [g, wkI]))
      | (with_reducible refine condE_dec (fun g => ?_) (fun g => ?_) <;> try (exfalso; omega))
      | (with_reducible refine condE_not (fun g => ?_) (fun g => ?_) <;> try (exfalso; omega))
      | (simp -dsimp only [↓wkA, ↓wkE, wkB, ↓tt, Nat.reduceBEq, Nat.reduceEqDiff, ↓reduceIte, Nat.reduceLT, Array.toList, Nat.reduceAdd, Nat.reduceMul, Int.reduceToNat, Int.reducePow, UInt8.reduceToNat])
      | (refine call_by (hmore) (views_data rfl) ⟨trivial, trivial⟩ rfl ?_)
      | (simp -dsimp (disch := first | assumption | omega) only [dec_t, dec_f])
      | (refine And.intro ?_ ?_
         · first | omega | decide | (simp (disch := omega) only [wkW, Int.reduceToNat, Int.reducePow] <;> omega) | (simp <;> omega))
      | (simp (disch := omega) only [wkW, Int.reduceToNat, Int.reducePow])
      | fail
    all_goals (refine congrArg PV.str ?_; split <;> first | rfl | (exfalso; omega) | (exfalso; rename_i h; simp only [false_and, not_false_eq_true, and_true] at h; omega))
end Go.Proofs.YtjhkpjddcaglnaaDoor
set_option maxHeartbeats 4000000
set_option maxRecDepth 4000
set_option linter.unusedVariables false
set_option linter.unusedSimpArgs false
namespace Go.Proofs.YtjhkpjddcaglnaaDoor
open Go Go.PV

/-! fixed.Figures -/
theorem fixed_figures_err (d : Int) (ng : Bool) (s : List Int) (x e : Int) (he : e ≠ 0) (n : Int) (hall : Meets Tryd.prog 20 [.int .u64 d] (.tup [.agg [.bool ng, .str s, .int .i64 x], .int .i64 e])) : Meets Tryd.prog 26 [.int .u64 d, .int .i64 n] (.tup [.str [], .int .i64 0, .int .i64 e]) := by
  have hd : decide (e = 0) = false := decide_eq_false he
  refine meets_by ttOk Tryd.func26 Tryd.ntmps26 Tryd.results26 (by kernel_rfl) (c := _) rfl rfl rfl fun E => ?_
  simp only [argsFrame]
  repeat' first
    | (simp only [hd])
    | (with_reducible first | refine PW.seq ?_ | refine PW.block ?_ | refine PW.fork ?_ | refine PW.skip ?_ | refine PW.exit ?_ | refine PW.ret ?_)
    | (with_reducible refine PW.region ttOk ?_ ?_
       · rfl)
    | (with_reducible refine PW.regionD ttOk mixed ?_ ?_ ?_
       · rfl
       · rfl)
    | (with_reducible refine ifW_dec (fun g => ?_) (fun g => ?_) <;> first | (exfalso; omega) | (simp -dsimp only [g, wkI]))
    | (with_reducible refine condE_dec (fun g => ?_) (fun g => ?_) <;> try (exfalso; omega))
    | (with_reducible refine condE_not (fun g => ?_) (fun g => ?_) <;> try (exfalso; omega))
    | (simp -dsimp only [↓wkA, ↓wkE, wkB, ↓tt, Nat.reduceBEq, Nat.reduceEqDiff, ↓reduceIte, Nat.reduceLT, Array.toList, Nat.reduceAdd, Nat.reduceMul, Int.reduceToNat, Int.reducePow, UInt8.reduceToNat])
    | (refine call_by (hall) (views_data rfl) ⟨trivial, trivial⟩ rfl ?_)
    | (simp -dsimp (disch := first | assumption | omega) only [dec_t, dec_f])
    | (refine And.intro ?_ ?_
       · first | omega | decide | (simp (disch := omega) only [wkW, Int.reduceToNat, Int.reducePow] <;> omega) | (simp <;> omega))
    | (simp (disch := omega) only [wkW, Int.reduceToNat, Int.reducePow])
    | fail
theorem fixed_figures_arg (d : Int) (ng : Bool) (s : List Int) (x : Int) (n : Int) (hn : n < 1 ∨ 4200 < n) (hall : Meets Tryd.prog 20 [.int .u64 d] (.tup [.agg [.bool ng, .str s, .int .i64 x], .int .i64 0])) : Meets Tryd.prog 26 [.int .u64 d, .int .i64 n] (.tup [.str [], .int .i64 0, .int .i64 1]) := by
  rcases hn with hn | hn
  all_goals (refine meets_by ttOk Tryd.func26 Tryd.ntmps26 Tryd.results26 (by kernel_rfl) (c := _) rfl rfl rfl fun E => ?_; simp only [argsFrame])
  all_goals
    repeat' first
      | (with_reducible first | refine PW.seq ?_ | refine PW.block ?_ | refine PW.fork ?_ | refine PW.skip ?_ | refine PW.exit ?_ | refine PW.ret ?_)
      | (with_reducible refine PW.region ttOk ?_ ?_
         · rfl)
      | (with_reducible refine PW.regionD ttOk mixed ?_ ?_ ?_
         · rfl
         · rfl)
      | (with_reducible refine ifW_dec (fun g => ?_) (fun g => ?_) <;> first | (exfalso; omega) | (simp -dsimp only [g, wkI]))
      | (with_reducible refine condE_dec (fun g => ?_) (fun g => ?_) <;> try (exfalso; omega))
      | (with_reducible refine condE_not (fun g => ?_) (fun g => ?_) <;> try (exfalso; omega))
      | (simp -dsimp only [↓wkA, ↓wkE, wkB, ↓tt, Nat.reduceBEq, Nat.reduceEqDiff, ↓reduceIte, Nat.reduceLT, Array.toList, Nat.reduceAdd, Nat.reduceMul, Int.reduceToNat, Int.reducePow, UInt8.reduceToNat])
      | (refine call_by (hall) (views_data rfl) ⟨trivial, trivial⟩ rfl ?_)
      | (simp -dsimp (disch := first | assumption | omega) only [dec_t, dec_f])
      | (refine And.intro ?_ ?_
         · first | omega | decide | (simp (disch := omega) only [wkW, Int.reduceToNat, Int.reducePow] <;> omega) | (simp <;> omega))
      | (simp (disch := omega) only [wkW, Int.reduceToNat, Int.reducePow])
      | fail
theorem fixed_figures_zero (d : Int) (ng : Bool) (x : Int) (n : Nat) (hn : 1 ≤ n ∧ n ≤ 4200) (hall : Meets Tryd.prog 20 [.int .u64 d] (.tup [.agg [.bool ng, .str [48], .int .i64 x], .int .i64 0])) : Meets Tryd.prog 26 [.int .u64 d, .int .i64 (n : Int)] (.tup [.str (List.replicate n 48), .int .i64 0, .int .i64 0]) := by
  have hrep := repeat_byte 48 (by decide) n (by omega)
  generalize List.replicate n (48 : Int) = R at *
  refine meets_by ttOk Tryd.func26 Tryd.ntmps26 Tryd.results26 (by kernel_rfl) (c := _) rfl rfl rfl fun E => ?_
  simp only [argsFrame]
  repeat' first
    | (simp only [eq_self, decide_true])
    | (with_reducible first | refine PW.seq ?_ | refine PW.block ?_ | refine PW.fork ?_ | refine PW.skip ?_ | refine PW.exit ?_ | refine PW.ret ?_)
    | (with_reducible refine PW.region ttOk ?_ ?_
       · rfl)
    | (with_reducible refine PW.regionD ttOk mixed ?_ ?_ ?_
       · rfl
       · rfl)
    | (with_reducible refine ifW_dec (fun g => ?_) (fun g => ?_) <;> first | (exfalso; omega) | (simp -dsimp only [g, wkI]))
    | (with_reducible refine condE_dec (fun g => ?_) (fun g => ?_) <;> try (exfalso; omega))
    | (with_reducible refine condE_not (fun g => ?_) (fun g => ?_) <;> try (exfalso; omega))
    | (simp -dsimp only [↓wkA, ↓wkE, wkB, ↓tt, Nat.reduceBEq, Nat.reduceEqDiff, ↓reduceIte, Nat.reduceLT, Array.toList, Nat.reduceAdd, Nat.reduceMul, Int.reduceToNat, Int.reducePow, UInt8.reduceToNat])
    | (refine call_by (hall) (views_data rfl) ⟨trivial, trivial⟩ rfl ?_)
    | (refine call_by (hrep) (views_data rfl) ⟨trivial, trivial, trivial⟩ rfl ?_)
    | (simp -dsimp (disch := first | assumption | omega) only [dec_t, dec_f])
    | (refine And.intro ?_ ?_
       · first | omega | decide | (simp (disch := omega) only [wkW, Int.reduceToNat, Int.reducePow] <;> omega) | (simp <;> omega))
    | (simp (disch := omega) only [wkW, Int.reduceToNat, Int.reducePow])
    | fail
theorem fixed_figures_walk (d : Int) (ng : Bool) (s : List Int) (hs : decide (s = [48]) = false) (x : Int) (hx : -5000 ≤ x ∧ x ≤ 5000) (hsl : s.length ≤ 5000) (n : Nat) (hn : 1 ≤ n ∧ n ≤ 4200) (hall : Meets Tryd.prog 20 [.int .u64 d] (.tup [.agg [.bool ng, .str s, .int .i64 x], .int .i64 0]))
    (t : List Int) (c : Bool) (hrow : Meets Tryd.prog 51 [.str s, .int .i64 (n : Int)] (.tup [.str t, .bool c])) (htl : n ≤ t.length) : Meets Tryd.prog 26 [.int .u64 d, .int .i64 (n : Int)] (.tup [.str (if c then t.take n else t), .int .i64 (if c then x + (s.length : Int) else x + (s.length : Int) - 1), .int .i64 0]) := by
  have w1 : IntKind.wrap .i64 (x + (s.length : Int)) = x + (s.length : Int) := wrap_i64 (by omega)
  have w2 : IntKind.wrap .i64 (x + (s.length : Int) - 1) = x + (s.length : Int) - 1 := wrap_i64 (by omega)
  have w3 : IntKind.wrap .i64 (x + (s.length : Int) - 1 + 1) = x + (s.length : Int) := by rw [wrap_i64 (by omega)]; omega
  cases c
  · rw [if_neg (by decide), if_neg (by decide)]
    refine meets_by ttOk Tryd.func26 Tryd.ntmps26 Tryd.results26 (by kernel_rfl) (c := _) rfl rfl rfl fun E => ?_
    simp only [argsFrame]
    repeat' first
      | (simp only [hs, w1, w2])
      | (with_reducible first | refine PW.seq ?_ | refine PW.block ?_ | refine PW.fork ?_ | refine PW.skip ?_ | refine PW.exit ?_ | refine PW.ret ?_)
      | (with_reducible refine PW.region ttOk ?_ ?_
         · rfl)
      | (with_reducible refine PW.regionD ttOk mixed ?_ ?_ ?_
         · rfl
         · rfl)
      | (with_reducible refine ifW_dec (fun g => ?_) (fun g => ?_) <;> first | (exfalso; omega) | (simp -dsimp only [g, wkI]))
      | (with_reducible refine condE_dec (fun g => ?_) (fun g => ?_) <;> try (exfalso; omega))
      | (with_reducible refine condE_not (fun g => ?_) (fun g => ?_) <;> try (exfalso; omega))
      | (simp -dsimp only [↓wkA, ↓wkE, wkB, ↓tt, Nat.reduceBEq, Nat.reduceEqDiff, ↓reduceIte, Nat.reduceLT, Array.toList, Nat.reduceAdd, Nat.reduceMul, Int.reduceToNat, Int.reducePow, UInt8.reduceToNat])
      | (refine call_by (hall) (views_data rfl) ⟨trivial, trivial⟩ rfl ?_)
      | (refine call_by (hrow) (views_data rfl) ⟨trivial, trivial, trivial⟩ rfl ?_)
      | (simp -dsimp (disch := first | assumption | omega) only [dec_t, dec_f])
      | (refine And.intro ?_ ?_
         · first | omega | decide | (simp (disch := omega) only [wkW, Int.reduceToNat, Int.reducePow] <;> omega) | (simp <;> omega))
      | (simp (disch := omega) only [wkW, Int.reduceToNat, Int.reducePow])
      | fail
  · rw [if_pos rfl, if_pos rfl]
    refine meets_by ttOk Tryd.func26 Tryd.ntmps26 Tryd.results26 (by kernel_rfl) (c := _) rfl rfl rfl fun E => ?_
    simp only [argsFrame]
    repeat' first
      | (simp only [hs, w1, w2, w3, Int.toNat_natCast])
      | (with_reducible first | refine PW.seq ?_ | refine PW.block ?_ | refine PW.fork ?_ | refine PW.skip ?_ | refine PW.exit ?_ | refine PW.ret ?_)
      | (with_reducible refine PW.region ttOk ?_ ?_
         · rfl)
      | (with_reducible refine PW.regionD ttOk mixed ?_ ?_ ?_
         · rfl
         · rfl)
      | (with_reducible refine ifW_dec (fun g => ?_) (fun g => ?_) <;> first | (exfalso; omega) | (simp -dsimp only [g, wkI]))
      | (with_reducible refine condE_dec (fun g => ?_) (fun g => ?_) <;> try (exfalso; omega))
      | (with_reducible refine condE_not (fun g => ?_) (fun g => ?_) <;> try (exfalso; omega))
      | (simp -dsimp only [↓wkA, ↓wkE, wkB, ↓tt, Nat.reduceBEq, Nat.reduceEqDiff, ↓reduceIte, Nat.reduceLT, Array.toList, Nat.reduceAdd, Nat.reduceMul, Int.reduceToNat, Int.reducePow, UInt8.reduceToNat])
      | (refine call_by (hall) (views_data rfl) ⟨trivial, trivial⟩ rfl ?_)
      | (refine call_by (hrow) (views_data rfl) ⟨trivial, trivial, trivial⟩ rfl ?_)
      | (simp -dsimp (disch := first | assumption | omega) only [dec_t, dec_f])
      | (refine And.intro ?_ ?_
         · first | omega | decide | (simp (disch := omega) only [wkW, Int.reduceToNat, Int.reducePow] <;> omega) | (simp <;> omega))
      | (simp (disch := omega) only [wkW, Int.reduceToNat, Int.reducePow])
      | fail

theorem figs_text {D L n : Nat} (hL : ndig D = L) (h0 : D ≠ 0) (hn : 1 ≤ n) : (if decide (10 ^ n ≤ rowW D L n) = true then (text 10 false (rowW D L n)).take n else text 10 false (rowW D L n)) = digL n (if 10 ^ n ≤ rowW D L n then rowW D L n / 10 else rowW D L n) ∧ n ≤ (text 10 false (rowW D L n)).length := by
  obtain ⟨b1, b2, b3⟩ := rowW_bounds hL h0 n
  by_cases h : 10 ^ n ≤ rowW D L n
  · rw [decide_eq_true h, if_pos rfl, if_pos h]
    have e : rowW D L n = 10 ^ n := Nat.le_antisymm b1 h
    have hnd : ndig (10 ^ n) = n + 1 := ndig_of (Nat.le_refl _) (Nat.pow_lt_pow_right (by decide) (Nat.lt_succ_self n))
    rw [e, text_digL, hnd, digL_take, Nat.pow_one, digL_len]
    exact ⟨rfl, by omega⟩
  · rw [decide_eq_false h, if_neg (by decide), if_neg h, text_k (by omega) b2, digL_len]
    exact ⟨rfl, Nat.le_refl _⟩

theorem fixed_figures (d : Nat) (hd : d < 18446744073709551616) (n : Int) : Meets Tryd.prog 26 [.int .u64 (d : Int), .int .i64 n] (figP d n) := by
  have hall := fixed_all d hd
  unfold allP decP at hall
  unfold figP
  by_cases hf : finD d
  case neg =>
    rw [if_neg hf] at hall ⊢
    exact fixed_figures_err _ _ _ _ _ (by decide) _ hall
  rw [if_pos hf] at hall ⊢
  by_cases hn : n < 1 ∨ 4200 < n
  · rw [if_pos hn]
    by_cases h0 : absD d = 0
    · rw [if_pos h0] at hall
      exact fixed_figures_arg _ _ _ _ _ hn hall
    · rw [if_neg h0] at hall
      exact fixed_figures_arg _ _ _ _ _ hn hall
  rw [if_neg hn]
  obtain ⟨n, rfl⟩ := Int.eq_ofNat_of_zero_le (show 0 ≤ n by omega)
  rw [Int.toNat_natCast]
  by_cases h0 : absD d = 0
  · rw [if_pos h0] at hall ⊢
    exact fixed_figures_zero _ _ _ n (by omega) hall
  · rw [if_neg h0] at hall ⊢
    obtain ⟨b1, b2, b3, b4, b5, b6⟩ := allD_bounds hf h0
    have hl : (text 10 false (allD d)).length = ndig (allD d) := rfl
    have hz : decide (text 10 false (allD d) = [48]) = false := decide_eq_false (zero_text b1)
    have hrow := fixed_row rfl b1 (by omega) n (by omega)
    obtain ⟨f1, f2⟩ := figs_text (D := allD d) (n := n) rfl b1 (by omega)
    have h := fixed_figures_walk (d : Int) (negD d) _ hz (allX d) (by omega) (by omega) n (by omega) hall _ _ hrow f2
    rw [f1, hl] at h
    unfold figW
    by_cases hc : 10 ^ n ≤ rowW (allD d) (ndig (allD d)) n
    · rw [if_pos hc]
      rw [decide_eq_true hc, if_pos rfl, if_pos hc] at h
      exact h
    · rw [if_neg hc]
      rw [decide_eq_false hc, if_neg hc] at h
      simp only [Bool.false_eq_true, if_false] at h
      exact h

/-! the reference's -/
theorem ref11_places_err (d : Int) (ng : Bool) (s : List Int) (x e : Int) (he : e ≠ 0) (n : Int) (hall : Meets Tryd.prog 40 [.int .u64 d] (.tup [.agg [.bool ng, .str s, .int .i64 x], .int .i64 e])) : Meets Tryd.prog 48 [.int .u64 d, .int .i64 n] (.tup [.str [], .str [], .int .i64 e]) := by
  have hd : decide (e = 0) = false := decide_eq_false he
  refine meets_by ttOk Tryd.func48 Tryd.ntmps48 Tryd.results48 (by kernel_rfl) (c := _) rfl rfl rfl fun E => ?_
  simp only [argsFrame]
  repeat' first
    | (simp only [hd])
    | (with_reducible first | refine PW.seq ?_ | refine PW.block ?_ | refine PW.fork ?_ | refine PW.skip ?_ | refine PW.exit ?_ | refine PW.ret ?_)
    | (with_reducible refine PW.region ttOk ?_ ?_
       · rfl)
    | (with_reducible refine PW.regionD ttOk mixed ?_ ?_ ?_
       · rfl
       · rfl)
    | (with_reducible refine ifW_dec (fun g => ?_) (fun g => ?_) <;> first | (exfalso; omega) | (simp -dsimp only [g, wkI]))
    | (with_reducible refine condE_dec (fun g => ?_) (fun g => ?_) <;> try (exfalso; omega))
    | (with_reducible refine condE_not (fun g => ?_) (fun g => ?_) <;> try (exfalso; omega))
    | (simp -dsimp only [↓wkA, ↓wkE, wkB, ↓tt, Nat.reduceBEq, Nat.reduceEqDiff, ↓reduceIte, Nat.reduceLT, Array.toList, Nat.reduceAdd, Nat.reduceMul, Int.reduceToNat, Int.reducePow, UInt8.reduceToNat])
    | (refine call_by (hall) (views_data rfl) ⟨trivial, trivial⟩ rfl ?_)
    | (simp -dsimp (disch := first | assumption | omega) only [dec_t, dec_f])
    | (refine And.intro ?_ ?_
       · first | omega | decide | (simp (disch := omega) only [wkW, Int.reduceToNat, Int.reducePow] <;> omega) | (simp <;> omega))
    | (simp (disch := omega) only [wkW, Int.reduceToNat, Int.reducePow])
    | fail
theorem ref11_places_arg (d : Int) (ng : Bool) (s : List Int) (x : Int) (n : Int) (hn : n < 0 ∨ 4200 < n) (hall : Meets Tryd.prog 40 [.int .u64 d] (.tup [.agg [.bool ng, .str s, .int .i64 x], .int .i64 0])) : Meets Tryd.prog 48 [.int .u64 d, .int .i64 n] (.tup [.str [], .str [], .int .i64 1]) := by
  rcases hn with hn | hn
  all_goals (refine meets_by ttOk Tryd.func48 Tryd.ntmps48 Tryd.results48 (by kernel_rfl) (c := _) rfl rfl rfl fun E => ?_; simp only [argsFrame])
  all_goals
    repeat' first
      | (with_reducible first | refine PW.seq ?_ | refine PW.block ?_ | refine PW.fork ?_ | refine PW.skip ?_ | refine PW.exit ?_ | refine PW.ret ?_)
      | (with_reducible refine PW.region ttOk ?_ ?_
         · rfl)
      | (with_reducible refine PW.regionD ttOk mixed ?_ ?_ ?_
         · rfl
         · rfl)
      | (with_reducible refine ifW_dec (fun g => ?_) (fun g => ?_) <;> first | (exfalso; omega) | (simp -dsimp only [g, wkI]))
      | (with_reducible refine condE_dec (fun g => ?_) (fun g => ?_) <;> try (exfalso; omega))
      | (with_reducible refine condE_not (fun g => ?_) (fun g => ?_) <;> try (exfalso; omega))
      | (simp -dsimp only [↓wkA, ↓wkE, wkB, ↓tt, Nat.reduceBEq, Nat.reduceEqDiff, ↓reduceIte, Nat.reduceLT, Array.toList, Nat.reduceAdd, Nat.reduceMul, Int.reduceToNat, Int.reducePow, UInt8.reduceToNat])
      | (refine call_by (hall) (views_data rfl) ⟨trivial, trivial⟩ rfl ?_)
      | (simp -dsimp (disch := first | assumption | omega) only [dec_t, dec_f])
      | (refine And.intro ?_ ?_
         · first | omega | decide | (simp (disch := omega) only [wkW, Int.reduceToNat, Int.reducePow] <;> omega) | (simp <;> omega))
      | (simp (disch := omega) only [wkW, Int.reduceToNat, Int.reducePow])
      | fail

/-- The digits that the reference keeps ahead of the padding. -/
theorem ref11_places_walk (d : Int) (ng : Bool) (s : List Int) (x : Int) (n : Nat) (hn : n ≤ 4200) (hsl : s.length ≤ 4000) (hx : -5000 ≤ x ∧ x ≤ 5000)
    (hall : Meets Tryd.prog 40 [.int .u64 d] (.tup [.agg [.bool ng, .str s, .int .i64 x], .int .i64 0])) (T : List Int) (hTl : T.length ≤ 20000)
    (hT : (s = [48] ∧ T = []) ∨ (s ≠ [48] ∧ ((∃ m : Nat, x + (n : Int) = m ∧ T = s ++ List.replicate m 48) ∨ (x + (n : Int) < 0 ∧ (s.length : Int) < -(x + (n : Int)) ∧ T = []) ∨ (∃ k : Nat, x + (n : Int) < 0 ∧ (s.length : Int) + (x + (n : Int)) = k ∧ Meets Tryd.prog 73 [.str s, .int .i64 (k : Int)] (.str T)))))
    (wh pt : List Int) (h1 : (padZ n T).take ((padZ n T).length - n) = wh) (h2 : (padZ n T).drop ((padZ n T).length - n) = pt) :
    Meets Tryd.prog 48 [.int .u64 d, .int .i64 (n : Int)] (.tup [.str wh, .str pt, .int .i64 0]) := by
  have w1 : IntKind.wrap .i64 (x + (n : Int)) = x + (n : Int) := wrap_i64 (by omega)
  have w2 : IntKind.wrap .i64 (-(x + (n : Int))) = -(x + (n : Int)) := wrap_i64 (by omega)
  have w3 : IntKind.wrap .i64 ((n : Int) + 1) = (n : Int) + 1 := wrap_i64 (by omega)
  have w6 : IntKind.wrap .i64 ((s.length : Int) + (x + (n : Int))) = (s.length : Int) + (x + (n : Int)) := wrap_i64 (by omega)
  -- what the tail does, once the digits stand
  by_cases hTn : T.length ≤ n
  · have hZ : padZ n T = List.replicate (n + 1 - T.length) 48 ++ T := if_pos hTn
    have w4 : IntKind.wrap .i64 ((n : Int) + 1 - (T.length : Int)) = ((n + 1 - T.length : Nat) : Int) := by rw [wrap_i64 (by omega)]; omega
    have hrep := ref11_zeros (n + 1 - T.length) (by omega)
    have ek : ((n + 1 - T.length : Nat) : Int) = (n : Int) + 1 - (T.length : Int) := by omega
    rw [hZ] at h1 h2
    generalize n + 1 - T.length = k at *
    have hkl : (List.replicate k (48 : Int)).length = k := List.length_replicate
    clear hZ
    generalize List.replicate k (48 : Int) = R at *
    have hlen : (R ++ T).length = R.length + T.length := List.length_append
    have e : (((R.length + T.length : Nat) : Int) - (n : Int)).toNat = (R ++ T).length - n := by rw [hlen]; omega
    rw [← h1, ← h2]
    clear h1 h2
    rcases hT with ⟨hs, hT⟩ | ⟨hs, ⟨m, hm, hT⟩ | ⟨hm, hm2, hT⟩ | ⟨c, hm, hm2, hcut⟩⟩
    · have hz : decide (s = [48]) = true := decide_eq_true hs
      subst hT
      have ek1 : (k : Int) = (n : Int) + 1 := by simp at ek; exact ek
      rw [ek1] at hrep
      rw [List.append_nil] at e ⊢
      rw [← e]
      clear w4 ek e hlen
      refine meets_by ttOk Tryd.func48 Tryd.ntmps48 Tryd.results48 (by kernel_rfl) (c := _) rfl rfl rfl fun E => ?_
      simp only [argsFrame]
      repeat' first
        | (simp only [w1, w2, w3, hz])
        | (with_reducible first | refine PW.seq ?_ | refine PW.block ?_ | refine PW.fork ?_ | refine PW.skip ?_ | refine PW.exit ?_ | refine PW.ret ?_)
        | (with_reducible refine PW.region ttOk ?_ ?_
           · rfl)
        | (with_reducible refine PW.regionD ttOk mixed ?_ ?_ ?_
           · rfl
           · rfl)
        | (with_reducible refine ifW_dec (fun g => ?_) (fun g => ?_) <;> first | (exfalso; omega) | (simp -dsimp only [g, wkI]))
        | (with_reducible refine condE_dec (fun g => ?_) (fun g => ?_) <;> try (exfalso; omega))
        | (with_reducible refine condE_not (fun g => ?_) (fun g => ?_) <;> try (exfalso; omega))
        | (simp -dsimp only [↓wkA, ↓wkE, wkB, ↓tt, Nat.reduceBEq, Nat.reduceEqDiff, ↓reduceIte, Nat.reduceLT, Array.toList, Nat.reduceAdd, Nat.reduceMul, Int.reduceToNat, Int.reducePow, UInt8.reduceToNat])
        | (refine call_by (hall) (views_data rfl) ⟨trivial, trivial⟩ rfl ?_)
        | (refine call_by (hrep) (views_data rfl) ⟨trivial, trivial⟩ rfl ?_)
        | (simp -dsimp (disch := first | assumption | omega) only [dec_t, dec_f])
        | (refine And.intro ?_ ?_
           · first | omega | decide | (simp (disch := omega) only [wkW, Int.reduceToNat, Int.reducePow] <;> omega) | (simp <;> omega))
        | (simp (disch := omega) only [wkW, Int.reduceToNat, Int.reducePow])
        | fail
      all_goals simp
    · have hz : decide (s = [48]) = false := decide_eq_false hs
      have hrm := ref11_zeros m (by omega)
      rw [← hm] at hrm
      have hsm : T.length = s.length + (List.replicate m (48 : Int)).length := by rw [hT]; simp
      generalize List.replicate m (48 : Int) = M at *
      have hT2 : s ++ M = T := hT.symm
      clear hT
      rw [← e]
      refine meets_by ttOk Tryd.func48 Tryd.ntmps48 Tryd.results48 (by kernel_rfl) (c := _) rfl rfl rfl fun E => ?_
      simp only [argsFrame]
      repeat' first
        | (simp only [w1, w2, w3, w4, hz, hT2])
        | (with_reducible first | refine PW.seq ?_ | refine PW.block ?_ | refine PW.fork ?_ | refine PW.skip ?_ | refine PW.exit ?_ | refine PW.ret ?_)
        | (with_reducible refine PW.region ttOk ?_ ?_
           · rfl)
        | (with_reducible refine PW.regionD ttOk mixed ?_ ?_ ?_
           · rfl
           · rfl)
        | (with_reducible refine ifW_dec (fun g => ?_) (fun g => ?_) <;> first | (exfalso; omega) | (simp -dsimp only [g, wkI]))
        | (with_reducible refine condE_dec (fun g => ?_) (fun g => ?_) <;> try (exfalso; omega))
        | (with_reducible refine condE_not (fun g => ?_) (fun g => ?_) <;> try (exfalso; omega))
        | (simp -dsimp only [↓wkA, ↓wkE, wkB, ↓tt, Nat.reduceBEq, Nat.reduceEqDiff, ↓reduceIte, Nat.reduceLT, Array.toList, Nat.reduceAdd, Nat.reduceMul, Int.reduceToNat, Int.reducePow, UInt8.reduceToNat])
        | (refine call_by (hall) (views_data rfl) ⟨trivial, trivial⟩ rfl ?_)
        | (refine call_by (hrm) (views_data rfl) ⟨trivial, trivial⟩ rfl ?_)
        | (refine call_by (hrep) (views_data rfl) ⟨trivial, trivial⟩ rfl ?_)
        | (simp -dsimp (disch := first | assumption | omega) only [dec_t, dec_f])
        | (refine And.intro ?_ ?_
           · first | omega | decide | (simp (disch := omega) only [wkW, Int.reduceToNat, Int.reducePow] <;> omega) | (simp <;> omega))
        | (simp (disch := omega) only [wkW, Int.reduceToNat, Int.reducePow])
        | fail
    · have hz : decide (s = [48]) = false := decide_eq_false hs
      subst hT
      have ek1 : (k : Int) = (n : Int) + 1 := by simp at ek; exact ek
      rw [ek1] at hrep
      rw [List.append_nil] at e ⊢
      rw [← e]
      clear w4 ek e hlen
      refine meets_by ttOk Tryd.func48 Tryd.ntmps48 Tryd.results48 (by kernel_rfl) (c := _) rfl rfl rfl fun E => ?_
      simp only [argsFrame]
      repeat' first
        | (simp only [w1, Int.zero_sub, w2, w3, hz])
        | (with_reducible first | refine PW.seq ?_ | refine PW.block ?_ | refine PW.fork ?_ | refine PW.skip ?_ | refine PW.exit ?_ | refine PW.ret ?_)
        | (with_reducible refine PW.region ttOk ?_ ?_
           · rfl)
        | (with_reducible refine PW.regionD ttOk mixed ?_ ?_ ?_
           · rfl
           · rfl)
        | (with_reducible refine ifW_dec (fun g => ?_) (fun g => ?_) <;> first | (exfalso; omega) | (simp -dsimp only [g, wkI]))
        | (with_reducible refine condE_dec (fun g => ?_) (fun g => ?_) <;> try (exfalso; omega))
        | (with_reducible refine condE_not (fun g => ?_) (fun g => ?_) <;> try (exfalso; omega))
        | (simp -dsimp only [↓wkA, ↓wkE, wkB, ↓tt, Nat.reduceBEq, Nat.reduceEqDiff, ↓reduceIte, Nat.reduceLT, Array.toList, Nat.reduceAdd, Nat.reduceMul, Int.reduceToNat, Int.reducePow, UInt8.reduceToNat])
        | (refine call_by (hall) (views_data rfl) ⟨trivial, trivial⟩ rfl ?_)
        | (refine call_by (hrep) (views_data rfl) ⟨trivial, trivial⟩ rfl ?_)
        | (simp -dsimp (disch := first | assumption | omega) only [dec_t, dec_f])
        | (refine And.intro ?_ ?_
           · first | omega | decide | (simp (disch := omega) only [wkW, Int.reduceToNat, Int.reducePow] <;> omega) | (simp <;> omega))
        | (simp (disch := omega) only [wkW, Int.reduceToNat, Int.reducePow])
        | fail
      all_goals simp
    · have hz : decide (s = [48]) = false := decide_eq_false hs
      rw [← hm2] at hcut
      rw [← e]
      refine meets_by ttOk Tryd.func48 Tryd.ntmps48 Tryd.results48 (by kernel_rfl) (c := _) rfl rfl rfl fun E => ?_
      simp only [argsFrame]
      repeat' first
        | (simp only [w1, Int.zero_sub, w2, w3, w6, w4, hz])
        | (with_reducible first | refine PW.seq ?_ | refine PW.block ?_ | refine PW.fork ?_ | refine PW.skip ?_ | refine PW.exit ?_ | refine PW.ret ?_)
        | (with_reducible refine PW.region ttOk ?_ ?_
           · rfl)
        | (with_reducible refine PW.regionD ttOk mixed ?_ ?_ ?_
           · rfl
           · rfl)
        | (with_reducible refine ifW_dec (fun g => ?_) (fun g => ?_) <;> first | (exfalso; omega) | (simp -dsimp only [g, wkI]))
        | (with_reducible refine condE_dec (fun g => ?_) (fun g => ?_) <;> try (exfalso; omega))
        | (with_reducible refine condE_not (fun g => ?_) (fun g => ?_) <;> try (exfalso; omega))
        | (simp -dsimp only [↓wkA, ↓wkE, wkB, ↓tt, Nat.reduceBEq, Nat.reduceEqDiff, ↓reduceIte, Nat.reduceLT, Array.toList, Nat.reduceAdd, Nat.reduceMul, Int.reduceToNat, Int.reducePow, UInt8.reduceToNat])
        | (refine call_by (hall) (views_data rfl) ⟨trivial, trivial⟩ rfl ?_)
        | (refine call_by (hcut) (views_data rfl) ⟨trivial, trivial, trivial⟩ rfl ?_)
        | (refine call_by (hrep) (views_data rfl) ⟨trivial, trivial⟩ rfl ?_)
        | (simp -dsimp (disch := first | assumption | omega) only [dec_t, dec_f])
        | (refine And.intro ?_ ?_
           · first | omega | decide | (simp (disch := omega) only [wkW, Int.reduceToNat, Int.reducePow] <;> omega) | (simp <;> omega))
        | (simp (disch := omega) only [wkW, Int.reduceToNat, Int.reducePow])
        | fail
  · have hZ : padZ n T = T := if_neg hTn
    rw [hZ] at h1 h2
    have e : ((T.length : Int) - (n : Int)).toNat = T.length - n := by omega
    rw [← h1, ← h2]
    clear h1 h2 hZ
    rcases hT with ⟨hs, hT⟩ | ⟨hs, ⟨m, hm, hT⟩ | ⟨hm, hm2, hT⟩ | ⟨c, hm, hm2, hcut⟩⟩
    · have hz : decide (s = [48]) = true := decide_eq_true hs
      subst hT
      exact absurd (Nat.zero_le n) hTn
    · have hz : decide (s = [48]) = false := decide_eq_false hs
      have hrm := ref11_zeros m (by omega)
      rw [← hm] at hrm
      have hsm : T.length = s.length + (List.replicate m (48 : Int)).length := by rw [hT]; simp
      generalize List.replicate m (48 : Int) = M at *
      have hT2 : s ++ M = T := hT.symm
      clear hT
      rw [← e]
      refine meets_by ttOk Tryd.func48 Tryd.ntmps48 Tryd.results48 (by kernel_rfl) (c := _) rfl rfl rfl fun E => ?_
      simp only [argsFrame]
      repeat' first
        | (simp only [w1, w2, w3, hz, hT2])
        | (with_reducible first | refine PW.seq ?_ | refine PW.block ?_ | refine PW.fork ?_ | refine PW.skip ?_ | refine PW.exit ?_ | refine PW.ret ?_)
        | (with_reducible refine PW.region ttOk ?_ ?_
           · rfl)
        | (with_reducible refine PW.regionD ttOk mixed ?_ ?_ ?_
           · rfl
           · rfl)
        | (with_reducible refine ifW_dec (fun g => ?_) (fun g => ?_) <;> first | (exfalso; omega) | (simp -dsimp only [g, wkI]))
        | (with_reducible refine condE_dec (fun g => ?_) (fun g => ?_) <;> try (exfalso; omega))
        | (with_reducible refine condE_not (fun g => ?_) (fun g => ?_) <;> try (exfalso; omega))
        | (simp -dsimp only [↓wkA, ↓wkE, wkB, ↓tt, Nat.reduceBEq, Nat.reduceEqDiff, ↓reduceIte, Nat.reduceLT, Array.toList, Nat.reduceAdd, Nat.reduceMul, Int.reduceToNat, Int.reducePow, UInt8.reduceToNat])
        | (refine call_by (hall) (views_data rfl) ⟨trivial, trivial⟩ rfl ?_)
        | (refine call_by (hrm) (views_data rfl) ⟨trivial, trivial⟩ rfl ?_)
        | (simp -dsimp (disch := first | assumption | omega) only [dec_t, dec_f])
        | (refine And.intro ?_ ?_
           · first | omega | decide | (simp (disch := omega) only [wkW, Int.reduceToNat, Int.reducePow] <;> omega) | (simp <;> omega))
        | (simp (disch := omega) only [wkW, Int.reduceToNat, Int.reducePow])
        | fail
    · have hz : decide (s = [48]) = false := decide_eq_false hs
      subst hT
      exact absurd (Nat.zero_le n) hTn
    · have hz : decide (s = [48]) = false := decide_eq_false hs
      rw [← hm2] at hcut
      rw [← e]
      refine meets_by ttOk Tryd.func48 Tryd.ntmps48 Tryd.results48 (by kernel_rfl) (c := _) rfl rfl rfl fun E => ?_
      simp only [argsFrame]
      repeat' first
        | (simp only [w1, Int.zero_sub, w2, w3, w6, hz])
        | (with_reducible first | refine PW.seq ?_ | refine PW.block ?_ | refine PW.fork ?_ | refine PW.skip ?_ | refine PW.exit ?_ | refine PW.ret ?_)
        | (with_reducible refine PW.region ttOk ?_ ?_
           · rfl)
        | (with_reducible refine PW.regionD ttOk mixed ?_ ?_ ?_
           · rfl
           · rfl)
        | (with_reducible refine ifW_dec (fun g => ?_) (fun g => ?_) <;> first | (exfalso; omega) | (simp -dsimp only [g, wkI]))
        | (with_reducible refine condE_dec (fun g => ?_) (fun g => ?_) <;> try (exfalso; omega))
        | (with_reducible refine condE_not (fun g => ?_) (fun g => ?_) <;> try (exfalso; omega))
        | (simp -dsimp only [↓wkA, ↓wkE, wkB, ↓tt, Nat.reduceBEq, Nat.reduceEqDiff, ↓reduceIte, Nat.reduceLT, Array.toList, Nat.reduceAdd, Nat.reduceMul, Int.reduceToNat, Int.reducePow, UInt8.reduceToNat])
        | (refine call_by (hall) (views_data rfl) ⟨trivial, trivial⟩ rfl ?_)
        | (refine call_by (hcut) (views_data rfl) ⟨trivial, trivial, trivial⟩ rfl ?_)
        | (simp -dsimp (disch := first | assumption | omega) only [dec_t, dec_f])
        | (refine And.intro ?_ ?_
           · first | omega | decide | (simp (disch := omega) only [wkW, Int.reduceToNat, Int.reducePow] <;> omega) | (simp <;> omega))
        | (simp (disch := omega) only [wkW, Int.reduceToNat, Int.reducePow])
        | fail

theorem ref11_places (d : Nat) (hd : d < 18446744073709551616) (n : Int) : Meets Tryd.prog 48 [.int .u64 (d : Int), .int .i64 n] (placesP d n) := by
  have hall := ref11_all d hd
  unfold allP decP at hall
  unfold placesP
  by_cases hf : finD d
  case neg =>
    rw [if_neg hf] at hall ⊢
    exact ref11_places_err _ _ _ _ _ (by decide) _ hall
  rw [if_pos hf] at hall ⊢
  by_cases hn : n < 0 ∨ 4200 < n
  · rw [if_pos hn]
    by_cases h0 : absD d = 0
    · rw [if_pos h0] at hall
      exact ref11_places_arg _ _ _ _ _ hn hall
    · rw [if_neg h0] at hall
      exact ref11_places_arg _ _ _ _ _ hn hall
  rw [if_neg hn]
  obtain ⟨n, rfl⟩ := Int.eq_ofNat_of_zero_le (show 0 ≤ n by omega)
  rw [Int.toNat_natCast]
  by_cases h0 : absD d = 0
  · rw [if_pos h0] at hall
    have hW : placesW d n = 0 := if_pos h0
    rw [hW]
    obtain ⟨p1, p2⟩ := padZ_text n 0
    rw [text_nil] at p1 p2
    exact ref11_places_walk (d : Int) (negD d) [48] 0 n (by omega) (by decide) (by decide) hall [] (by simp) (.inl ⟨rfl, rfl⟩) _ _ p1 p2
  · rw [if_neg h0] at hall
    obtain ⟨b1, b2, b3, b4, b5, b6⟩ := allD_bounds hf h0
    have hl : (text 10 false (allD d)).length = ndig (allD d) := rfl
    have hz := zero_text b1
    obtain ⟨p1, p2⟩ := padZ_text n (placesW d n)
    have hkd : keepD d n = (ndig (allD d) : Int) + allX d + n := rfl
    have hW : placesW d n = if keepD d n < 0 then 0 else rowW (allD d) (ndig (allD d)) (keepD d n).toNat := by unfold placesW; rw [if_neg h0]
    have hndW : (text 10 false (placesW d n)).length ≤ 20000 := by
      show ndig (placesW d n) ≤ 20000
      rw [hW]
      split
      · rw [ndig_zero]; omega
      · have hle := (rowW_bounds rfl b1 (keepD d n).toNat).1
        have := ndig_le (Nat.lt_of_le_of_lt hle (Nat.pow_lt_pow_right (by decide) (Nat.lt_succ_self _)))
        omega
    refine ref11_places_walk (d : Int) (negD d) _ (allX d) n (by omega) (by omega) (by omega) hall (text 10 false (placesW d n)) hndW (.inr ⟨hz, ?_⟩) _ _ p1 p2
    rw [hW]
    by_cases h1 : 0 ≤ allX d + n
    · refine .inl ⟨(allX d + n).toNat, by omega, ?_⟩
      rw [if_neg (by omega), text_k ((rowW_bounds rfl b1 _).2.2 (by omega)) (rowW_bounds rfl b1 _).2.1, rowW, if_pos (by omega), text_digL (allD d), ← digL_mul]
      rw [show (keepD d n).toNat - ndig (allD d) = (allX d + n).toNat by omega, show (keepD d n).toNat = ndig (allD d) + (allX d + n).toNat by omega]
    · refine .inr ?_
      by_cases h2 : keepD d n < 0
      · refine .inl ⟨by omega, by omega, ?_⟩
        rw [if_pos h2, text_nil]
      · refine .inr ⟨(keepD d n).toNat, by omega, by omega, ?_⟩
        rw [if_neg h2]
        exact ref11_cut rfl b1 b2 (by omega) _ (by omega)
end Go.Proofs.YtjhkpjddcaglnaaDoor
set_option maxHeartbeats 4000000
set_option maxRecDepth 4000
set_option linter.unusedVariables false
set_option linter.unusedSimpArgs false
namespace Go.Proofs.YtjhkpjddcaglnaaDoor
open Go Go.PV

theorem ref11_figures_err (d : Int) (ng : Bool) (s : List Int) (x e : Int) (he : e ≠ 0) (n : Int) (hall : Meets Tryd.prog 40 [.int .u64 d] (.tup [.agg [.bool ng, .str s, .int .i64 x], .int .i64 e])) : Meets Tryd.prog 49 [.int .u64 d, .int .i64 n] (.tup [.str [], .int .i64 0, .int .i64 e]) := by
  have hd : decide (e = 0) = false := decide_eq_false he
  refine meets_by ttOk Tryd.func49 Tryd.ntmps49 Tryd.results49 (by kernel_rfl) (c := _) rfl rfl rfl fun E => ?_
  simp only [argsFrame]
  repeat' first
    | (simp only [hd])
    | (with_reducible first | refine PW.seq ?_ | refine PW.block ?_ | refine PW.fork ?_ | refine PW.skip ?_ | refine PW.exit ?_ | refine PW.ret ?_)
    | (with_reducible refine PW.region ttOk ?_ ?_
       · rfl)
    | (with_reducible refine PW.regionD ttOk mixed ?_ ?_ ?_
       · rfl
       · rfl)
    | (with_reducible refine ifW_dec (fun g => ?_) (fun g => ?_) <;> first | (exfalso; omega) | (simp -dsimp only [g, wkI]))
    | (with_reducible refine condE_dec (fun g => ?_) (fun g => ?_) <;> try (exfalso; omega))
    | (with_reducible refine condE_not (fun g => ?_) (fun g => ?_) <;> try (exfalso; omega))
    | (simp -dsimp only [↓wkA, ↓wkE, wkB, ↓tt, Nat.reduceBEq, Nat.reduceEqDiff, ↓reduceIte, Nat.reduceLT, Array.toList, Nat.reduceAdd, Nat.reduceMul, Int.reduceToNat, Int.reducePow, UInt8.reduceToNat])
    | (refine call_by (hall) (views_data rfl) ⟨trivial, trivial⟩ rfl ?_)
    | (simp -dsimp (disch := first | assumption | omega) only [dec_t, dec_f])
    | (refine And.intro ?_ ?_
       · first | omega | decide | (simp (disch := omega) only [wkW, Int.reduceToNat, Int.reducePow] <;> omega) | (simp <;> omega))
    | (simp (disch := omega) only [wkW, Int.reduceToNat, Int.reducePow])
    | fail
theorem ref11_figures_arg (d : Int) (ng : Bool) (s : List Int) (x : Int) (n : Int) (hn : n < 1 ∨ 4200 < n) (hall : Meets Tryd.prog 40 [.int .u64 d] (.tup [.agg [.bool ng, .str s, .int .i64 x], .int .i64 0])) : Meets Tryd.prog 49 [.int .u64 d, .int .i64 n] (.tup [.str [], .int .i64 0, .int .i64 1]) := by
  rcases hn with hn | hn
  all_goals (refine meets_by ttOk Tryd.func49 Tryd.ntmps49 Tryd.results49 (by kernel_rfl) (c := _) rfl rfl rfl fun E => ?_; simp only [argsFrame])
  all_goals
    repeat' first
      | (with_reducible first | refine PW.seq ?_ | refine PW.block ?_ | refine PW.fork ?_ | refine PW.skip ?_ | refine PW.exit ?_ | refine PW.ret ?_)
      | (with_reducible refine PW.region ttOk ?_ ?_
         · rfl)
      | (with_reducible refine PW.regionD ttOk mixed ?_ ?_ ?_
         · rfl
         · rfl)
      | (with_reducible refine ifW_dec (fun g => ?_) (fun g => ?_) <;> first | (exfalso; omega) | (simp -dsimp only [g, wkI]))
      | (with_reducible refine condE_dec (fun g => ?_) (fun g => ?_) <;> try (exfalso; omega))
      | (with_reducible refine condE_not (fun g => ?_) (fun g => ?_) <;> try (exfalso; omega))
      | (simp -dsimp only [↓wkA, ↓wkE, wkB, ↓tt, Nat.reduceBEq, Nat.reduceEqDiff, ↓reduceIte, Nat.reduceLT, Array.toList, Nat.reduceAdd, Nat.reduceMul, Int.reduceToNat, Int.reducePow, UInt8.reduceToNat])
      | (refine call_by (hall) (views_data rfl) ⟨trivial, trivial⟩ rfl ?_)
      | (simp -dsimp (disch := first | assumption | omega) only [dec_t, dec_f])
      | (refine And.intro ?_ ?_
         · first | omega | decide | (simp (disch := omega) only [wkW, Int.reduceToNat, Int.reducePow] <;> omega) | (simp <;> omega))
      | (simp (disch := omega) only [wkW, Int.reduceToNat, Int.reducePow])
      | fail
theorem ref11_figures_zero (d : Int) (ng : Bool) (x : Int) (n : Nat) (hn : 1 ≤ n ∧ n ≤ 4200) (hall : Meets Tryd.prog 40 [.int .u64 d] (.tup [.agg [.bool ng, .str [48], .int .i64 x], .int .i64 0])) : Meets Tryd.prog 49 [.int .u64 d, .int .i64 (n : Int)] (.tup [.str (List.replicate n 48), .int .i64 0, .int .i64 0]) := by
  have hrep := ref11_zeros n (by omega)
  generalize List.replicate n (48 : Int) = R at *
  refine meets_by ttOk Tryd.func49 Tryd.ntmps49 Tryd.results49 (by kernel_rfl) (c := _) rfl rfl rfl fun E => ?_
  simp only [argsFrame]
  repeat' first
    | (simp only [eq_self, decide_true])
    | (with_reducible first | refine PW.seq ?_ | refine PW.block ?_ | refine PW.fork ?_ | refine PW.skip ?_ | refine PW.exit ?_ | refine PW.ret ?_)
    | (with_reducible refine PW.region ttOk ?_ ?_
       · rfl)
    | (with_reducible refine PW.regionD ttOk mixed ?_ ?_ ?_
       · rfl
       · rfl)
    | (with_reducible refine ifW_dec (fun g => ?_) (fun g => ?_) <;> first | (exfalso; omega) | (simp -dsimp only [g, wkI]))
    | (with_reducible refine condE_dec (fun g => ?_) (fun g => ?_) <;> try (exfalso; omega))
    | (with_reducible refine condE_not (fun g => ?_) (fun g => ?_) <;> try (exfalso; omega))
    | (simp -dsimp only [↓wkA, ↓wkE, wkB, ↓tt, Nat.reduceBEq, Nat.reduceEqDiff, ↓reduceIte, Nat.reduceLT, Array.toList, Nat.reduceAdd, Nat.reduceMul, Int.reduceToNat, Int.reducePow, UInt8.reduceToNat])
    | (refine call_by (hall) (views_data rfl) ⟨trivial, trivial⟩ rfl ?_)
    | (refine call_by (hrep) (views_data rfl) ⟨trivial, trivial⟩ rfl ?_)
    | (simp -dsimp (disch := first | assumption | omega) only [dec_t, dec_f])
    | (refine And.intro ?_ ?_
       · first | omega | decide | (simp (disch := omega) only [wkW, Int.reduceToNat, Int.reducePow] <;> omega) | (simp <;> omega))
    | (simp (disch := omega) only [wkW, Int.reduceToNat, Int.reducePow])
    | fail
theorem ref11_figures_short (d : Int) (ng : Bool) (s : List Int) (hs : decide (s = [48]) = false) (x : Int) (hx : -5000 ≤ x ∧ x ≤ 5000) (n : Nat) (hn : 1 ≤ n ∧ n ≤ 4200) (hsl : s.length ≤ n) (hall : Meets Tryd.prog 40 [.int .u64 d] (.tup [.agg [.bool ng, .str s, .int .i64 x], .int .i64 0])) :
    Meets Tryd.prog 49 [.int .u64 d, .int .i64 (n : Int)] (.tup [.str (s ++ List.replicate (n - s.length) 48), .int .i64 (x + (s.length : Int) - 1), .int .i64 0]) := by
  have w1 : IntKind.wrap .i64 (x + (s.length : Int)) = x + (s.length : Int) := wrap_i64 (by omega)
  have w2 : IntKind.wrap .i64 (x + (s.length : Int) - 1) = x + (s.length : Int) - 1 := wrap_i64 (by omega)
  have w3 : IntKind.wrap .i64 ((n : Int) - (s.length : Int)) = ((n - s.length : Nat) : Int) := by rw [wrap_i64 (by omega)]; omega
  have hrep := ref11_zeros (n - s.length) (by omega)
  have hsm : (List.replicate (n - s.length) (48 : Int)).length = n - s.length := List.length_replicate
  have hk : n - s.length ≤ 4200 := by omega
  generalize n - s.length = k at *
  generalize List.replicate k (48 : Int) = R at *
  refine meets_by ttOk Tryd.func49 Tryd.ntmps49 Tryd.results49 (by kernel_rfl) (c := _) rfl rfl rfl fun E => ?_
  simp only [argsFrame]
  repeat' first
    | (simp only [hs, w1, w2, w3])
    | (with_reducible first | refine PW.seq ?_ | refine PW.block ?_ | refine PW.fork ?_ | refine PW.skip ?_ | refine PW.exit ?_ | refine PW.ret ?_)
    | (with_reducible refine PW.region ttOk ?_ ?_
       · rfl)
    | (with_reducible refine PW.regionD ttOk mixed ?_ ?_ ?_
       · rfl
       · rfl)
    | (with_reducible refine ifW_dec (fun g => ?_) (fun g => ?_) <;> first | (exfalso; omega) | (simp -dsimp only [g, wkI]))
    | (with_reducible refine condE_dec (fun g => ?_) (fun g => ?_) <;> try (exfalso; omega))
    | (with_reducible refine condE_not (fun g => ?_) (fun g => ?_) <;> try (exfalso; omega))
    | (simp -dsimp only [↓wkA, ↓wkE, wkB, ↓tt, Nat.reduceBEq, Nat.reduceEqDiff, ↓reduceIte, Nat.reduceLT, Array.toList, Nat.reduceAdd, Nat.reduceMul, Int.reduceToNat, Int.reducePow, UInt8.reduceToNat])
    | (refine call_by (hall) (views_data rfl) ⟨trivial, trivial⟩ rfl ?_)
    | (refine call_by (hrep) (views_data rfl) ⟨trivial, trivial⟩ rfl ?_)
    | (simp -dsimp (disch := first | assumption | omega) only [dec_t, dec_f])
    | (refine And.intro ?_ ?_
       · first | omega | decide | (simp (disch := omega) only [wkW, Int.reduceToNat, Int.reducePow] <;> omega) | (simp <;> omega))
    | (simp (disch := omega) only [wkW, Int.reduceToNat, Int.reducePow])
    | fail
theorem ref11_figures_long (d : Int) (ng : Bool) (s : List Int) (hs : decide (s = [48]) = false) (x : Int) (hx : -5000 ≤ x ∧ x ≤ 5000) (n : Nat) (hn : 1 ≤ n ∧ n ≤ 4200) (hsl : n < s.length) (hsl2 : s.length ≤ 5000) (hall : Meets Tryd.prog 40 [.int .u64 d] (.tup [.agg [.bool ng, .str s, .int .i64 x], .int .i64 0]))
    (t : List Int) (hcut : Meets Tryd.prog 73 [.str s, .int .i64 (n : Int)] (.str t)) :
    Meets Tryd.prog 49 [.int .u64 d, .int .i64 (n : Int)] (.tup [.str (if n < t.length then t.take n else t), .int .i64 (if n < t.length then x + (s.length : Int) else x + (s.length : Int) - 1), .int .i64 0]) := by
  have w1 : IntKind.wrap .i64 (x + (s.length : Int)) = x + (s.length : Int) := wrap_i64 (by omega)
  have w2 : IntKind.wrap .i64 (x + (s.length : Int) - 1) = x + (s.length : Int) - 1 := wrap_i64 (by omega)
  have w3 : IntKind.wrap .i64 (x + (s.length : Int) - 1 + 1) = x + (s.length : Int) := by rw [wrap_i64 (by omega)]; omega
  by_cases h : n < t.length
  · rw [if_pos h, if_pos h]
    refine meets_by ttOk Tryd.func49 Tryd.ntmps49 Tryd.results49 (by kernel_rfl) (c := _) rfl rfl rfl fun E => ?_
    simp only [argsFrame]
    repeat' first
      | (simp only [hs, w1, w2, w3, Int.toNat_natCast])
      | (with_reducible first | refine PW.seq ?_ | refine PW.block ?_ | refine PW.fork ?_ | refine PW.skip ?_ | refine PW.exit ?_ | refine PW.ret ?_)
      | (with_reducible refine PW.region ttOk ?_ ?_
         · rfl)
      | (with_reducible refine PW.regionD ttOk mixed ?_ ?_ ?_
         · rfl
         · rfl)
      | (with_reducible refine ifW_dec (fun g => ?_) (fun g => ?_) <;> first | (exfalso; omega) | (simp -dsimp only [g, wkI]))
      | (with_reducible refine condE_dec (fun g => ?_) (fun g => ?_) <;> try (exfalso; omega))
      | (with_reducible refine condE_not (fun g => ?_) (fun g => ?_) <;> try (exfalso; omega))
      | (simp -dsimp only [↓wkA, ↓wkE, wkB, ↓tt, Nat.reduceBEq, Nat.reduceEqDiff, ↓reduceIte, Nat.reduceLT, Array.toList, Nat.reduceAdd, Nat.reduceMul, Int.reduceToNat, Int.reducePow, UInt8.reduceToNat])
      | (refine call_by (hall) (views_data rfl) ⟨trivial, trivial⟩ rfl ?_)
      | (refine call_by (hcut) (views_data rfl) ⟨trivial, trivial, trivial⟩ rfl ?_)
      | (simp -dsimp (disch := first | assumption | omega) only [dec_t, dec_f])
      | (refine And.intro ?_ ?_
         · first | omega | decide | (simp (disch := omega) only [wkW, Int.reduceToNat, Int.reducePow] <;> omega) | (simp <;> omega))
      | (simp (disch := omega) only [wkW, Int.reduceToNat, Int.reducePow])
      | fail
  · rw [if_neg h, if_neg h]
    refine meets_by ttOk Tryd.func49 Tryd.ntmps49 Tryd.results49 (by kernel_rfl) (c := _) rfl rfl rfl fun E => ?_
    simp only [argsFrame]
    repeat' first
      | (simp only [hs, w1, w2])
      | (with_reducible first | refine PW.seq ?_ | refine PW.block ?_ | refine PW.fork ?_ | refine PW.skip ?_ | refine PW.exit ?_ | refine PW.ret ?_)
      | (with_reducible refine PW.region ttOk ?_ ?_
         · rfl)
      | (with_reducible refine PW.regionD ttOk mixed ?_ ?_ ?_
         · rfl
         · rfl)
      | (with_reducible refine ifW_dec (fun g => ?_) (fun g => ?_) <;> first | (exfalso; omega) | (simp -dsimp only [g, wkI]))
      | (with_reducible refine condE_dec (fun g => ?_) (fun g => ?_) <;> try (exfalso; omega))
      | (with_reducible refine condE_not (fun g => ?_) (fun g => ?_) <;> try (exfalso; omega))
      | (simp -dsimp only [↓wkA, ↓wkE, wkB, ↓tt, Nat.reduceBEq, Nat.reduceEqDiff, ↓reduceIte, Nat.reduceLT, Array.toList, Nat.reduceAdd, Nat.reduceMul, Int.reduceToNat, Int.reducePow, UInt8.reduceToNat])
      | (refine call_by (hall) (views_data rfl) ⟨trivial, trivial⟩ rfl ?_)
      | (refine call_by (hcut) (views_data rfl) ⟨trivial, trivial, trivial⟩ rfl ?_)
      | (simp -dsimp (disch := first | assumption | omega) only [dec_t, dec_f])
      | (refine And.intro ?_ ?_
         · first | omega | decide | (simp (disch := omega) only [wkW, Int.reduceToNat, Int.reducePow] <;> omega) | (simp <;> omega))
      | (simp (disch := omega) only [wkW, Int.reduceToNat, Int.reducePow])
      | fail

theorem ref11_figures (d : Nat) (hd : d < 18446744073709551616) (n : Int) : Meets Tryd.prog 49 [.int .u64 (d : Int), .int .i64 n] (figP d n) := by
  have hall := ref11_all d hd
  unfold allP decP at hall
  unfold figP
  by_cases hf : finD d
  case neg =>
    rw [if_neg hf] at hall ⊢
    exact ref11_figures_err _ _ _ _ _ (by decide) _ hall
  rw [if_pos hf] at hall ⊢
  by_cases hn : n < 1 ∨ 4200 < n
  · rw [if_pos hn]
    by_cases h0 : absD d = 0
    · rw [if_pos h0] at hall
      exact ref11_figures_arg _ _ _ _ _ hn hall
    · rw [if_neg h0] at hall
      exact ref11_figures_arg _ _ _ _ _ hn hall
  rw [if_neg hn]
  obtain ⟨n, rfl⟩ := Int.eq_ofNat_of_zero_le (show 0 ≤ n by omega)
  rw [Int.toNat_natCast]
  by_cases h0 : absD d = 0
  · rw [if_pos h0] at hall ⊢
    exact ref11_figures_zero _ _ _ n (by omega) hall
  · rw [if_neg h0] at hall ⊢
    obtain ⟨b1, b2, b3, b4, b5, b6⟩ := allD_bounds hf h0
    have hl : (text 10 false (allD d)).length = ndig (allD d) := rfl
    have hz : decide (text 10 false (allD d) = [48]) = false := decide_eq_false (zero_text b1)
    obtain ⟨c1, c2, c3⟩ := rowW_bounds rfl b1 n
    by_cases hs : ndig (allD d) ≤ n
    · have hlt := c3 hs
      have h := ref11_figures_short (d : Int) (negD d) _ hz (allX d) (by omega) n (by omega) (by omega) hall
      have e : text 10 false (allD d) ++ List.replicate (n - ndig (allD d)) 48 = digL n (figW d n) := by
        rw [text_digL (allD d), ← digL_mul, figW, rowW, if_pos hs, show ndig (allD d) + (n - ndig (allD d)) = n by omega]
      rw [hl, e] at h
      rw [if_neg (by unfold figW; omega)]
      exact h
    · have hcut := ref11_cut rfl b1 b2 (by omega) n (show n < ndig (allD d) by omega)
      have h := ref11_figures_long (d : Int) (negD d) _ hz (allX d) (by omega) n (by omega) (by omega) (by omega) hall _ hcut
      obtain ⟨f1, f2⟩ := figs_text (D := allD d) (n := n) rfl b1 (by omega)
      have hlen : (text 10 false (rowW (allD d) (ndig (allD d)) n)).length = ndig (rowW (allD d) (ndig (allD d)) n) := rfl
      have hiff : n < (text 10 false (rowW (allD d) (ndig (allD d)) n)).length ↔ 10 ^ n ≤ rowW (allD d) (ndig (allD d)) n := by
        rw [hlen]
        constructor
        · intro h2
          exact Nat.le_of_not_lt fun h3 => by have := ndig_le h3; omega
        · intro h2
          have : rowW (allD d) (ndig (allD d)) n = 10 ^ n := Nat.le_antisymm c1 h2
          rw [this, ndig_of (Nat.le_refl _) (Nat.pow_lt_pow_right (by decide) (Nat.lt_succ_self n))]
          omega
      unfold figW
      by_cases hc : 10 ^ n ≤ rowW (allD d) (ndig (allD d)) n
      · rw [if_pos hc]
        rw [if_pos (hiff.2 hc), if_pos (hiff.2 hc), hl] at h
        rw [decide_eq_true hc, if_pos rfl, if_pos hc] at f1
        rw [f1] at h
        exact h
      · rw [if_neg hc]
        rw [if_neg (mt hiff.1 hc), if_neg (mt hiff.1 hc), hl] at h
        rw [text_k (by omega) c2] at h
        exact h

theorem law11_places (d : Nat) (hd : d < 18446744073709551616) (n : Int) : Meets Tryd.prog 24 [.int .u64 (d : Int), .int .i64 n] (.bool true) := by
  have h1 := fixed_places d hd n
  have h2 := ref11_places d hd n
  obtain ⟨a, b, e, hP⟩ : ∃ a b e, placesP d n = .tup [.str a, .str b, .int .i64 e] := by
    unfold placesP
    split
    · split <;> exact ⟨_, _, _, rfl⟩
    · exact ⟨_, _, _, rfl⟩
  rw [hP] at h1 h2
  have e1 : decide (a = a) = true := decide_eq_true rfl
  have e2 : decide (b = b) = true := decide_eq_true rfl
  refine meets_by ttOk Tryd.func24 Tryd.ntmps24 Tryd.results24 (by kernel_rfl) (c := _) rfl rfl rfl fun E => ?_
  simp only [argsFrame]
  repeat' first
    | (simp only [e1, e2, eq_self, decide_true])
    | (with_reducible first | refine PW.seq ?_ | refine PW.block ?_ | refine PW.fork ?_ | refine PW.skip ?_ | refine PW.exit ?_ | refine PW.ret ?_)
    | (with_reducible refine PW.region ttOk ?_ ?_
       · rfl)
    | (with_reducible refine PW.regionD ttOk mixed ?_ ?_ ?_
       · rfl
       · rfl)
    | (with_reducible refine ifW_dec (fun g => ?_) (fun g => ?_) <;> first | (exfalso; omega) | (simp -dsimp only [g, wkI]))
    | (with_reducible refine condE_dec (fun g => ?_) (fun g => ?_) <;> try (exfalso; omega))
    | (with_reducible refine condE_not (fun g => ?_) (fun g => ?_) <;> try (exfalso; omega))
    | (simp -dsimp only [↓wkA, ↓wkE, wkB, ↓tt, Nat.reduceBEq, Nat.reduceEqDiff, ↓reduceIte, Nat.reduceLT, Array.toList, Nat.reduceAdd, Nat.reduceMul, Int.reduceToNat, Int.reducePow, UInt8.reduceToNat])
    | (refine call_by (h1) (views_data rfl) ⟨trivial, trivial, trivial⟩ rfl ?_)
    | (refine call_by (h2) (views_data rfl) ⟨trivial, trivial, trivial⟩ rfl ?_)
    | (simp -dsimp (disch := first | assumption | omega) only [dec_t, dec_f])
    | (refine And.intro ?_ ?_
       · first | omega | decide | (simp (disch := omega) only [wkW, Int.reduceToNat, Int.reducePow] <;> omega) | (simp <;> omega))
    | (simp (disch := omega) only [wkW, Int.reduceToNat, Int.reducePow])
    | fail

theorem law11_figures (d : Nat) (hd : d < 18446744073709551616) (n : Int) : Meets Tryd.prog 25 [.int .u64 (d : Int), .int .i64 n] (.bool true) := by
  have h1 := fixed_figures d hd n
  have h2 := ref11_figures d hd n
  obtain ⟨a, b, e, hP⟩ : ∃ a b e, figP d n = .tup [.str a, .int .i64 b, .int .i64 e] := by
    unfold figP
    repeat' split
    all_goals exact ⟨_, _, _, rfl⟩
  rw [hP] at h1 h2
  have e1 : decide (a = a) = true := decide_eq_true rfl
  refine meets_by ttOk Tryd.func25 Tryd.ntmps25 Tryd.results25 (by kernel_rfl) (c := _) rfl rfl rfl fun E => ?_
  simp only [argsFrame]
  repeat' first
    | (simp only [e1, eq_self, decide_true])
    | (with_reducible first | refine PW.seq ?_ | refine PW.block ?_ | refine PW.fork ?_ | refine PW.skip ?_ | refine PW.exit ?_ | refine PW.ret ?_)
    | (with_reducible refine PW.region ttOk ?_ ?_
       · rfl)
    | (with_reducible refine PW.regionD ttOk mixed ?_ ?_ ?_
       · rfl
       · rfl)
    | (with_reducible refine ifW_dec (fun g => ?_) (fun g => ?_) <;> first | (exfalso; omega) | (simp -dsimp only [g, wkI]))
    | (with_reducible refine condE_dec (fun g => ?_) (fun g => ?_) <;> try (exfalso; omega))
    | (with_reducible refine condE_not (fun g => ?_) (fun g => ?_) <;> try (exfalso; omega))
    | (simp -dsimp only [↓wkA, ↓wkE, wkB, ↓tt, Nat.reduceBEq, Nat.reduceEqDiff, ↓reduceIte, Nat.reduceLT, Array.toList, Nat.reduceAdd, Nat.reduceMul, Int.reduceToNat, Int.reducePow, UInt8.reduceToNat])
    | (refine call_by (h1) (views_data rfl) ⟨trivial, trivial, trivial⟩ rfl ?_)
    | (refine call_by (h2) (views_data rfl) ⟨trivial, trivial, trivial⟩ rfl ?_)
    | (simp -dsimp (disch := first | assumption | omega) only [dec_t, dec_f])
    | (refine And.intro ?_ ?_
       · first | omega | decide | (simp (disch := omega) only [wkW, Int.reduceToNat, Int.reducePow] <;> omega) | (simp <;> omega))
    | (simp (disch := omega) only [wkW, Int.reduceToNat, Int.reducePow])
    | fail

theorem fixed_placeses (asks : List FAsk) (hok : ∀ a ∈ asks, a.Ok) (hn : asks.length ≤ 140737488351232) : Meets Tryd.prog 6 [.list 2 (asks.map FAsk.pv)] (.bool true) := by
  have c1 : Meets Tryd.prog 24 [.int .u64 4593671619917905920, .int .i64 2] (.bool true) := law11_places 4593671619917905920 (by decide) 2
  have c2 : Meets Tryd.prog 24 [.int .u64 4636702106982547456, .int .i64 0] (.bool true) := law11_places 4636702106982547456 (by decide) 0
  have c3 : Meets Tryd.prog 25 [.int .u64 4652002910794678272, .int .i64 3] (.bool true) := law11_figures 4652002910794678272 (by decide) 3
  have c4 : Meets Tryd.prog 25 [.int .u64 4620974692658839552, .int .i64 1] (.bool true) := law11_figures 4620974692658839552 (by decide) 1
  refine meets_by ttOk Tryd.func6 Tryd.ntmps6 Tryd.results6 (by kernel_rfl) (c := _) rfl rfl rfl fun E => ?_
  simp only [argsFrame]
  have hget : ∀ i, i < asks.length → ∃ a ∈ asks, (asks.map FAsk.pv).getD i .undef = a.pv := fun i h => fasks_get h
  have hlen : (asks.map FAsk.pv).length = asks.length := List.length_map ..
  generalize asks.map FAsk.pv = L at *
  repeat' first
    | (with_reducible first | refine PW.seq ?_ | refine PW.block ?_ | refine PW.fork ?_ | refine PW.skip ?_ | refine PW.exit ?_ | refine PW.ret ?_)
    | (with_reducible refine PW.region ttOk ?_ ?_
       · rfl)
    | (with_reducible refine PW.regionD ttOk mixed ?_ ?_ ?_
       · rfl
       · rfl)
    | (with_reducible refine ifW_dec (fun g => ?_) (fun g => ?_) <;> first | (exfalso; omega) | (simp -dsimp only [g, wkI]))
    | (with_reducible refine condE_dec (fun g => ?_) (fun g => ?_) <;> try (exfalso; omega))
    | (with_reducible refine condE_not (fun g => ?_) (fun g => ?_) <;> try (exfalso; omega))
    | (simp -dsimp only [↓wkA, ↓wkE, wkB, ↓tt, Nat.reduceBEq, Nat.reduceEqDiff, ↓reduceIte, Nat.reduceLT, Array.toList, Nat.reduceAdd, Nat.reduceMul, Int.reduceToNat, Int.reducePow, UInt8.reduceToNat])
    | (refine call_by (c1) (views_data rfl) ⟨trivial, trivial, trivial⟩ rfl ?_)
    | (refine call_by (c2) (views_data rfl) ⟨trivial, trivial, trivial⟩ rfl ?_)
    | (refine call_by (c3) (views_data rfl) ⟨trivial, trivial, trivial⟩ rfl ?_)
    | (refine call_by (c4) (views_data rfl) ⟨trivial, trivial, trivial⟩ rfl ?_)
    | (refine callD_by (c1) (views_data rfl) ⟨trivial, trivial, trivial⟩ rfl ?_)
    | (refine callD_by (c2) (views_data rfl) ⟨trivial, trivial, trivial⟩ rfl ?_)
    | (refine callD_by (c3) (views_data rfl) ⟨trivial, trivial, trivial⟩ rfl ?_)
    | (refine callD_by (c4) (views_data rfl) ⟨trivial, trivial, trivial⟩ rfl ?_)
    | (simp -dsimp (disch := first | assumption | omega) only [dec_t, dec_f])
    | (refine And.intro ?_ ?_
       · first | omega | decide | (simp (disch := omega) only [wkW, Int.reduceToNat, Int.reducePow] <;> omega) | (simp <;> omega))
    | (simp (disch := omega) only [wkW, Int.reduceToNat, Int.reducePow])
    | fail
  refine PW.loopA (fun m F H => ∃ i, i + m = L.length ∧ F = [(3, .int .i64 (i : Int)), (0, .list 2 L)] ∧ H = ⟨0, [], [], []⟩) L.length [(3, .int .i64 ((0 : Nat) : Int)), (0, .list 2 L)] ⟨0, [], [], []⟩ (Sub.norm ⟨rfl, rfl, trivial⟩ trivial (Nat.zero_le _) rfl rfl rfl rfl) ⟨0, by omega, rfl, rfl⟩ ?_
  rintro m F H ⟨i, hi, rfl, rfl⟩
  by_cases hend : i = L.length
  · subst hend
    repeat' first
      | (with_reducible first | refine PW.seq ?_ | refine PW.block ?_ | refine PW.fork ?_ | refine PW.skip ?_ | refine PW.exit ?_ | refine PW.ret ?_)
      | (with_reducible refine PW.region ttOk ?_ ?_
         · rfl)
      | (with_reducible refine PW.regionD ttOk mixed ?_ ?_ ?_
         · rfl
         · rfl)
      | (with_reducible refine ifW_dec (fun g => ?_) (fun g => ?_) <;> first | (exfalso; omega) | (simp -dsimp only [g, wkI]))
      | (with_reducible refine condE_dec (fun g => ?_) (fun g => ?_) <;> try (exfalso; omega))
      | (with_reducible refine condE_not (fun g => ?_) (fun g => ?_) <;> try (exfalso; omega))
      | (simp -dsimp only [↓wkA, ↓wkE, wkB, ↓tt, Nat.reduceBEq, Nat.reduceEqDiff, ↓reduceIte, Nat.reduceLT, Array.toList, Nat.reduceAdd, Nat.reduceMul, Int.reduceToNat, Int.reducePow, UInt8.reduceToNat])
      | (simp -dsimp (disch := first | assumption | omega) only [dec_t, dec_f])
      | (refine And.intro ?_ ?_
         · first | omega | decide | (simp (disch := omega) only [wkW, Int.reduceToNat, Int.reducePow] <;> omega) | (simp <;> omega))
      | (simp (disch := omega) only [wkW, Int.reduceToNat, Int.reducePow])
      | fail
  · obtain ⟨⟨d, n⟩, ha, hg⟩ := hget i (by omega)
    obtain ⟨hd, hnn⟩ := hok _ ha
    simp only [FAsk.pv] at *
    have d1 := law11_places d hd n
    have d2 := law11_figures d hd n
    repeat' first
      | (simp only [Int.toNat_natCast, hg])
      | (with_reducible first | refine PW.seq ?_ | refine PW.block ?_ | refine PW.fork ?_ | refine PW.skip ?_ | refine PW.exit ?_ | refine PW.ret ?_)
      | (with_reducible refine PW.region ttOk ?_ ?_
         · rfl)
      | (with_reducible refine PW.regionD ttOk mixed ?_ ?_ ?_
         · rfl
         · rfl)
      | (with_reducible refine ifW_dec (fun g => ?_) (fun g => ?_) <;> first | (exfalso; omega) | (simp -dsimp only [g, wkI]))
      | (with_reducible refine condE_dec (fun g => ?_) (fun g => ?_) <;> try (exfalso; omega))
      | (with_reducible refine condE_not (fun g => ?_) (fun g => ?_) <;> try (exfalso; omega))
      | (simp -dsimp only [↓wkA, ↓wkE, wkB, ↓tt, Nat.reduceBEq, Nat.reduceEqDiff, ↓reduceIte, Nat.reduceLT, Array.toList, Nat.reduceAdd, Nat.reduceMul, Int.reduceToNat, Int.reducePow, UInt8.reduceToNat])
      | (refine call_by (d1) (views_data rfl) ⟨trivial, trivial, trivial⟩ rfl ?_)
      | (refine call_by (d2) (views_data rfl) ⟨trivial, trivial, trivial⟩ rfl ?_)
      | (refine callD_by (d1) (views_data rfl) ⟨trivial, trivial, trivial⟩ rfl ?_)
      | (refine callD_by (d2) (views_data rfl) ⟨trivial, trivial, trivial⟩ rfl ?_)
      | (simp -dsimp (disch := first | assumption | omega) only [dec_t, dec_f])
      | (refine And.intro ?_ ?_
         · first | omega | decide | (simp (disch := omega) only [wkW, Int.reduceToNat, Int.reducePow] <;> omega) | (simp <;> omega))
      | (simp (disch := omega) only [wkW, Int.reduceToNat, Int.reducePow])
      | fail
    exact Again.mk (m - 1) [(3, .int .i64 ((i + 1 : Nat) : Int)), (0, .list 2 L)] ⟨0, [], [], []⟩ (by omega) (Sub.norm ⟨rfl, rfl, trivial⟩ trivial (Nat.zero_le _) rfl rfl rfl rfl) ⟨i + 1, by omega, rfl, rfl⟩
end Go.Proofs.YtjhkpjddcaglnaaDoor

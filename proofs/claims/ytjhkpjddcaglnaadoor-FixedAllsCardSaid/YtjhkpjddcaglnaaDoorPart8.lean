/- Contracts and laws that the row leans on, part 8: texts that were built one by one, laid together. -/
import Derived.Test.YtjhkpjddcaglnaaDoorPart7
set_option maxHeartbeats 4000000
set_option maxRecDepth 4000
set_option linter.unusedVariables false
set_option linter.unusedSimpArgs false
namespace Go.Proofs.YtjhkpjddcaglnaaDoor
open Go Go.PV

theorem ref04_decode (d : Nat) (hd : d < 18446744073709551616) : Meets Tryd.prog 65 [.int .u64 (d : Int)] (partsP d) := by
  have hb := field_lt d
  have hf := frac_lt d
  have h1 : decide ((d : Int) / 9223372036854775808 = 1) = negD d := decide_eq_decide.2 (by omega)
  have h2 : (d : Int) / 4503599627370496 % 2048 = (fieldD d : Int) := by have := shr_52 (d := d); omega
  have h3 : (d : Int) % 4503599627370496 = (fracD d : Int) := by unfold fracD; omega
  have w0 : IntKind.wrap .u64 ((d : Int) / 9223372036854775808) = (d : Int) / 9223372036854775808 := wrap_u64 (by omega)
  have w1 : IntKind.wrap .u64 ((d : Int) / 4503599627370496) = (d : Int) / 4503599627370496 := wrap_u64 (by omega)
  have w2 : IntKind.wrap .i64 (fieldD d : Int) = (fieldD d : Int) := wrap_i64 (by omega)
  have w3 : IntKind.wrap .u64 (4503599627370496 + (fracD d : Int)) = 4503599627370496 + (fracD d : Int) := wrap_u64 (by omega)
  have w4 : IntKind.wrap .i64 ((fieldD d : Int) - 1075) = (fieldD d : Int) - 1075 := wrap_i64 (by omega)
  have hC : classD d = if fieldD d = 2047 then (if fracD d = 0 then 3 else 4) else if 0 < fieldD d then 2 else if fracD d = 0 then 0 else 1 := by
    have := abs_zero (d := d)
    unfold classD
    repeat' split
    all_goals omega
  have hM : partsM d = if fieldD d = 2047 then (fracD d : Int) else if 0 < fieldD d then 4503599627370496 + (fracD d : Int) else (fracD d : Int) := by
    unfold partsM mantD
    rw [hC]
    repeat' split
    all_goals omega
  have hE : partsE d = if fieldD d = 2047 then 0 else if 0 < fieldD d then (fieldD d : Int) - 1075 else if fracD d = 0 then 0 else -1074 := by
    unfold partsE expD
    rw [hC]
    repeat' split
    all_goals omega
  have q0 : (d : Int).tdiv 9223372036854775808 = (d : Int) / 9223372036854775808 := Int.tdiv_eq_ediv_of_nonneg (by omega)
  have q1 : (d : Int).tdiv 4503599627370496 = (d : Int) / 4503599627370496 := Int.tdiv_eq_ediv_of_nonneg (by omega)
  have q2 : ((d : Int) / 4503599627370496).tmod 2048 = (fieldD d : Int) := by rw [Int.tmod_eq_emod_of_nonneg (by omega)]; exact h2
  have q3 : (d : Int).tmod 4503599627370496 = (fracD d : Int) := by rw [Int.tmod_eq_emod_of_nonneg (by omega)]; exact h3
  unfold partsP
  rw [hM, hE, hC]
  clear hM hE hC
  generalize fieldD d = fd at *
  generalize fracD d = fr at *
  generalize negD d = ng at *
  refine meets_by ttOk Tryd.func65 Tryd.ntmps65 Tryd.results65 (by kernel_rfl) (c := _) rfl rfl rfl fun E => ?_
  simp only [argsFrame]
  repeat' first
    | (simp only [q0, q1, q2, q3, w0, w1, h1, w2, w3, w4])
    | (with_reducible first | refine PW.seq ?_ | refine PW.block ?_ | refine PW.fork ?_ | refine PW.skip ?_ | refine PW.exit ?_ | refine PW.ret ?_)
    | (with_reducible refine PW.region ttOk ?_ ?_
       · rfl)
    | (with_reducible refine PW.regionD ttOk mixed ?_ ?_ ?_
       · rfl
       · rfl)
    | (with_reducible refine ifW_dec (fun g => ?_) (fun g => ?_) <;> first | (exfalso; omega) | (simp -dsimp only [g, wkI]))
    | (with_reducible refine condE_dec (fun g => ?_) (fun g => ?_) <;> try (exfalso; omega))
    | (with_reducible refine condE_not (fun g => ?_) (fun g => ?_) <;> try (exfalso; omega))
    | (simp -dsimp only [↓wkA, ↓wkE, wkB, ↓tt, Nat.reduceBEq, Nat.reduceEqDiff, ↓reduceIte, Nat.reduceLT, Array.toList, Nat.reduceAdd, Nat.reduceMul, Int.reduceToNat, Int.reducePow, UInt8.reduceToNat])
    | (simp -dsimp (disch := first | assumption | omega) only [dec_t, dec_f])
    | (refine And.intro ?_ ?_
       · first | omega | decide | (simp (disch := omega) only [wkW, Int.reduceToNat, Int.reducePow] <;> omega) | (simp <;> omega))
    | (simp (disch := omega) only [wkW, Int.reduceToNat, Int.reducePow])
    | fail
  all_goals ((repeat' split) <;> first | rfl | (exfalso; omega) | (subst_vars; rfl))

theorem ref11_all_walk (d : Int) (ng : Bool) (c e ex : Int) (m N D : Nat) (s t : List Int) (hm0 : m ≠ 0) (he : -1074 ≤ e ∧ e ≤ 971) (hex : ex = min e 0) (x : Int)
    (hfin : Meets Tryd.prog 64 [.int .u64 d] (.bool true)) (hdec : Meets Tryd.prog 65 [.int .u64 d] (.agg [.bool ng, .int .i64 c, .int .u64 (m : Int), .int .i64 e]))
    (r1 r2 : List Int) (hrow : Meets Tryd.prog 66 [.int .u64 (m : Int)] (.ints .u64 r1))
    (hra : 0 ≤ e → Meets Tryd.prog 67 [.ints .u64 r1, .int .u64 2, .int .i64 e] (.ints .u64 r2))
    (hrb : e < 0 → Meets Tryd.prog 67 [.ints .u64 r1, .int .u64 5, .int .i64 (-e)] (.ints .u64 r2))
    (hs : Meets Tryd.prog 68 [.ints .u64 r2] (.str s)) (hsl : s.length ≤ 10000) (hpos : 0 < endN s 48 s.length) (ht : s.take (endN s 48 s.length) = t) (hx : ex + (s.length : Int) - (endN s 48 s.length : Int) = x) :
    Meets Tryd.prog 40 [.int .u64 d] (.tup [.agg [.bool ng, .str t, .int .i64 x], .int .i64 0]) := by
  have hel := endN_le s 48 s.length
  have w0 : IntKind.wrap .i64 (-e) = -e := wrap_i64 (by omega)
  have hm : decide ((m : Int) = 0) = false := decide_eq_false (by omega)
  have hloop : ∀ n, n ≤ s.length → endN s 48 n = endN s 48 s.length → 0 < n ∧ (s.getD (n - 1) 0 = 48 → endN s 48 (n - 1) = endN s 48 s.length) ∧ (s.getD (n - 1) 0 ≠ 48 → n = endN s 48 s.length) := by
    intro n hn hen
    cases n with
    | zero => rw [endN] at hen; omega
    | succ n =>
      rw [Nat.add_sub_cancel]
      rw [endN] at hen
      refine ⟨by omega, fun h => by rw [if_pos h] at hen; exact hen, fun h => by rw [if_neg h] at hen; exact hen⟩
  rcases (show (0 ≤ e ∧ ex = 0 ∧ Meets Tryd.prog 67 [.ints .u64 r1, .int .u64 2, .int .i64 e] (.ints .u64 r2)) ∨ (e < 0 ∧ ex = e ∧ Meets Tryd.prog 67 [.ints .u64 r1, .int .u64 5, .int .i64 (-e)] (.ints .u64 r2)) by
    rcases (show e < 0 ∨ 0 ≤ e by omega) with h | h
    · exact .inr ⟨h, by omega, hrb h⟩
    · exact .inl ⟨h, by omega, hra h⟩) with ⟨he0, hex0, hr⟩ | ⟨he0, hex0, hr⟩
  all_goals clear hra hrb hex
  all_goals have w1 := hx
  all_goals (refine meets_by ttOk Tryd.func40 Tryd.ntmps40 Tryd.results40 (by kernel_rfl) (c := _) rfl rfl rfl fun E => ?_; simp only [argsFrame])
  all_goals
    repeat' first
      | (simp only [Int.zero_sub, w0, hm])
      | (with_reducible first | refine PW.seq ?_ | refine PW.block ?_ | refine PW.fork ?_ | refine PW.skip ?_ | refine PW.exit ?_ | refine PW.ret ?_)
      | (with_reducible refine PW.region ttOk ?_ ?_
         · rfl)
      | (with_reducible refine PW.regionD ttOk mixed ?_ ?_ ?_
         · rfl
         · rfl)
      | (with_reducible refine ifW_dec (fun g => ?_) (fun g => ?_) <;> first | (exfalso; omega) | (simp -dsimp only [g, wkI]))
      | (with_reducible refine condE_dec (fun g => ?_) (fun g => ?_) <;> try (exfalso; omega))
      | (with_reducible refine condE_not (fun g => ?_) (fun g => ?_) <;> try (exfalso; omega))
      | (simp -dsimp only [↓wkA, ↓wkE, wkB, ↓tt, Nat.reduceBEq, Nat.reduceEqDiff, ↓reduceIte, Nat.reduceLT, Array.toList, Nat.reduceAdd, Nat.reduceMul, Int.reduceToNat, Int.reducePow, UInt8.reduceToNat])
      | (refine call_by (hfin) (views_data rfl) ⟨trivial, trivial⟩ rfl ?_)
      | (refine call_by (hdec) (views_data rfl) ⟨trivial, trivial⟩ rfl ?_)
      | (refine call_by (hrow) (views_data rfl) ⟨trivial, trivial⟩ rfl ?_)
      | (refine call_by (hr) (views_data rfl) ⟨trivial, trivial, trivial, trivial⟩ rfl ?_)
      | (refine call_by (hs) (views_data rfl) ⟨trivial, trivial⟩ rfl ?_)
      | (simp -dsimp (disch := first | assumption | omega) only [dec_t, dec_f])
      | (refine And.intro ?_ ?_
         · first | omega | decide | (simp (disch := omega) only [wkW, Int.reduceToNat, Int.reducePow] <;> omega) | (simp <;> omega))
      | (simp (disch := omega) only [wkW, Int.reduceToNat, Int.reducePow])
      | fail
  all_goals
    refine PW.loopA (fun n F H => n ≤ s.length ∧ endN s 48 n = endN s 48 s.length ∧ F = [(8, .int .i64 (n : Int)), (7, .str s), (5, .int .i64 ex), (4, .ptr 1 0 0), (2, .ptr 0 0 0)] ∧ H = ⟨2, [(0, .var [.bool false, .str [], .int .i64 0]), (1, .var [.bool ng, .int .i64 c, .int .u64 (m : Int), .int .i64 e])], [], []⟩) s.length [(8, .int .i64 (s.length : Int)), (7, .str s), (5, .int .i64 ex), (4, .ptr 1 0 0), (2, .ptr 0 0 0)] ⟨2, [(0, .var [.bool false, .str [], .int .i64 0]), (1, .var [.bool ng, .int .i64 c, .int .u64 (m : Int), .int .i64 e])], [], []⟩ (Sub.norm ⟨rfl, rfl, by rw [hex0]; rfl, rfl, rfl, trivial⟩ ⟨rfl, rfl, trivial⟩ (Nat.le_refl _) rfl rfl rfl rfl) ⟨Nat.le_refl _, rfl, rfl, rfl⟩ ?_
    rintro n F H ⟨hn, hen, rfl, rfl⟩
    obtain ⟨h1, h2, h3⟩ := hloop n hn hen
    have w2 : IntKind.wrap .i64 ((n : Int) - 1) = ((n - 1 : Nat) : Int) := by rw [wrap_i64 (by omega)]; omega
    have w3 : IntKind.wrap .i64 (ex + (s.length : Int)) = ex + (s.length : Int) := wrap_i64 (by omega)
    clear hloop hdec hfin hrow hr hs
    by_cases h48 : s.getD (n - 1) 0 = 48
    · have hen2 := h2 h48
      clear h2 h3
      repeat' first
        | (simp only [w2, h48, Int.toNat_natCast])
        | (with_reducible first | refine PW.seq ?_ | refine PW.block ?_ | refine PW.fork ?_ | refine PW.skip ?_ | refine PW.exit ?_ | refine PW.ret ?_)
        | (with_reducible refine PW.region ttOk ?_ ?_
           · rfl)
        | (with_reducible refine PW.regionD ttOk mixed ?_ ?_ ?_
           · rfl
           · rfl)
        | (with_reducible refine ifW_dec (fun g => ?_) (fun g => ?_) <;> first | (exfalso; omega) | (simp -dsimp only [g, wkI]))
        | (with_reducible refine condE_dec (fun g => ?_) (fun g => ?_) <;> try (exfalso; omega))
        | (with_reducible refine condE_not (fun g => ?_) (fun g => ?_) <;> try (exfalso; omega))
        | (simp -dsimp only [↓wkA, ↓wkE, wkB, ↓tt, Nat.reduceBEq, Nat.reduceEqDiff, ↓reduceIte, Nat.reduceLT, Array.toList, Nat.reduceAdd, Nat.reduceMul, Int.reduceToNat, Int.reducePow, UInt8.reduceToNat])
        | (simp -dsimp (disch := first | assumption | omega) only [dec_t, dec_f])
        | (refine And.intro ?_ ?_
           · first | omega | decide | (simp (disch := omega) only [wkW, Int.reduceToNat, Int.reducePow] <;> omega) | (simp <;> omega))
        | (simp (disch := omega) only [wkW, Int.reduceToNat, Int.reducePow])
        | fail
      exact Again.mk (n - 1) [(8, .int .i64 ((n - 1 : Nat) : Int)), (7, .str s), (5, .int .i64 ex), (4, .ptr 1 0 0), (2, .ptr 0 0 0)] ⟨2, [(0, .var [.bool false, .str [], .int .i64 0]), (1, .var [.bool ng, .int .i64 c, .int .u64 (m : Int), .int .i64 e])], [], []⟩ (by omega) (Sub.norm ⟨rfl, rfl, rfl, rfl, rfl, trivial⟩ ⟨rfl, rfl, trivial⟩ (Nat.le_refl _) rfl rfl rfl rfl) ⟨by omega, hen2, rfl, rfl⟩
    · have hen2 := h3 h48
      clear h2 h3
      have w4 : IntKind.wrap .i64 (ex + (s.length : Int) - (n : Int)) = x := by rw [wrap_i64 (by omega)]; omega
      have ht2 : s.take n = t := by rw [hen2]; exact ht
      repeat' first
        | (simp only [w2, w3, w4, ht2, Int.toNat_natCast])
        | (with_reducible first | refine PW.seq ?_ | refine PW.block ?_ | refine PW.fork ?_ | refine PW.skip ?_ | refine PW.exit ?_ | refine PW.ret ?_)
        | (with_reducible refine PW.region ttOk ?_ ?_
           · rfl)
        | (with_reducible refine PW.regionS ttOk mixed ?_ ?_ ?_ ?_
           · rfl
           · rfl
           · rfl)
        | (with_reducible refine PW.regionD ttOk mixed ?_ ?_ ?_
           · rfl
           · rfl)
        | (with_reducible refine ifW_dec (fun g => ?_) (fun g => ?_) <;> first | (exfalso; omega) | (simp -dsimp only [g, wkI]))
        | (with_reducible refine condE_dec (fun g => ?_) (fun g => ?_) <;> try (exfalso; omega))
        | (with_reducible refine condE_not (fun g => ?_) (fun g => ?_) <;> try (exfalso; omega))
        | (simp -dsimp only [↓opsE_nil, ↓opsE_cons, ↓opsX_nil, ↓opsX_cons, same_self, and_true, true_and, ↓wkA, ↓wkE, wkB, ↓tt, Nat.reduceBEq, Nat.reduceEqDiff, ↓reduceIte, Nat.reduceLT, Array.toList, Nat.reduceAdd, Nat.reduceMul, Int.reduceToNat, Int.reducePow, UInt8.reduceToNat])
        | (simp -dsimp (disch := first | assumption | omega) only [dec_t, dec_f])
        | (refine And.intro ?_ ?_
           · first | omega | decide | (simp (disch := omega) only [wkW, Int.reduceToNat, Int.reducePow] <;> omega) | (simp <;> omega))
        | (simp (disch := omega) only [wkW, Int.reduceToNat, Int.reducePow])
        | fail
end Go.Proofs.YtjhkpjddcaglnaaDoor
set_option maxHeartbeats 4000000
set_option maxRecDepth 4000
set_option linter.unusedVariables false
set_option linter.unusedSimpArgs false
namespace Go.Proofs.YtjhkpjddcaglnaaDoor
open Go Go.PV

set_option exponentiation.threshold 300000 in
theorem ref11_all (d : Nat) (hd : d < 18446744073709551616) : Meets Tryd.prog 40 [.int .u64 (d : Int)] (allP d) := by
  have hfin := ref04_finite d hd
  have hdec := ref04_decode d hd
  unfold partsP at hdec
  unfold allP
  by_cases hf : finD d
  case neg =>
    rw [decide_eq_false hf] at hfin
    rw [if_neg hf]
    refine meets_by ttOk Tryd.func40 Tryd.ntmps40 Tryd.results40 (by kernel_rfl) (c := _) rfl rfl rfl fun E => ?_
    simp only [argsFrame]
    repeat' first
      | (with_reducible first | refine PW.seq ?_ | refine PW.block ?_ | refine PW.fork ?_ | refine PW.skip ?_ | refine PW.exit ?_ | refine PW.ret ?_)
      | (with_reducible refine PW.region ttOk ?_ ?_
         · rfl)
      | (with_reducible refine PW.regionD ttOk mixed ?_ ?_ ?_
         · rfl
         · rfl)
      | (with_reducible refine ifW_dec (fun g => ?_) (fun g => ?_) <;> first | (exfalso; omega) | (simp -dsimp only [g, wkI]))
      | (with_reducible refine condE_dec (fun g => ?_) (fun g => ?_) <;> try (exfalso; omega))
      | (with_reducible refine condE_not (fun g => ?_) (fun g => ?_) <;> try (exfalso; omega))
      | (simp -dsimp only [↓wkA, ↓wkE, wkB, ↓tt, Nat.reduceBEq, Nat.reduceEqDiff, ↓reduceIte, Nat.reduceLT, Array.toList, Nat.reduceAdd, Nat.reduceMul, Int.reduceToNat, Int.reducePow, UInt8.reduceToNat])
      | (refine call_by (hfin) (views_data rfl) ⟨trivial, trivial⟩ rfl ?_)
      | (simp -dsimp (disch := first | assumption | omega) only [dec_t, dec_f])
      | (refine And.intro ?_ ?_
         · first | omega | decide | (simp (disch := omega) only [wkW, Int.reduceToNat, Int.reducePow] <;> omega) | (simp <;> omega))
      | (simp (disch := omega) only [wkW, Int.reduceToNat, Int.reducePow])
      | fail
  rw [decide_eq_true hf] at hfin
  rw [if_pos hf]
  by_cases h0 : absD d = 0
  · rw [if_pos h0]
    have hM : partsM d = 0 := by
      have := (abs_zero.1 h0).2
      unfold partsM
      rw [if_neg (by have := class_zero.2 h0; omega)]
      omega
    rw [hM] at hdec
    refine meets_by ttOk Tryd.func40 Tryd.ntmps40 Tryd.results40 (by kernel_rfl) (c := _) rfl rfl rfl fun E => ?_
    simp only [argsFrame]
    repeat' first
      | (with_reducible first | refine PW.seq ?_ | refine PW.block ?_ | refine PW.fork ?_ | refine PW.skip ?_ | refine PW.exit ?_ | refine PW.ret ?_)
      | (with_reducible refine PW.region ttOk ?_ ?_
         · rfl)
      | (with_reducible refine PW.regionD ttOk mixed ?_ ?_ ?_
         · rfl
         · rfl)
      | (with_reducible refine ifW_dec (fun g => ?_) (fun g => ?_) <;> first | (exfalso; omega) | (simp -dsimp only [g, wkI]))
      | (with_reducible refine condE_dec (fun g => ?_) (fun g => ?_) <;> try (exfalso; omega))
      | (with_reducible refine condE_not (fun g => ?_) (fun g => ?_) <;> try (exfalso; omega))
      | (simp -dsimp only [↓wkA, ↓wkE, wkB, ↓tt, Nat.reduceBEq, Nat.reduceEqDiff, ↓reduceIte, Nat.reduceLT, Array.toList, Nat.reduceAdd, Nat.reduceMul, Int.reduceToNat, Int.reducePow, UInt8.reduceToNat])
      | (refine call_by (hfin) (views_data rfl) ⟨trivial, trivial⟩ rfl ?_)
      | (refine call_by (hdec) (views_data rfl) ⟨trivial, trivial⟩ rfl ?_)
      | (simp -dsimp (disch := first | assumption | omega) only [dec_t, dec_f])
      | (refine And.intro ?_ ?_
         · first | omega | decide | (simp (disch := omega) only [wkW, Int.reduceToNat, Int.reducePow] <;> omega) | (simp <;> omega))
      | (simp (disch := omega) only [wkW, Int.reduceToNat, Int.reducePow])
      | fail
  rw [if_neg h0]
  obtain ⟨hM, hE⟩ := parts_fin hf h0
  rw [hM, hE] at hdec
  have hm := mantD_lt d
  have hm0 : mantD d ≠ 0 := fun e => h0 (mantD_zero.1 e)
  have hge := expD_ge d
  have hle := expD_le hf
  have hrow := ref11_row (mantD d) (by omega)
  have hnm : ndig (mantD d) ≤ 53 := ndig_two (by simpa using hm)
  have hra : 0 ≤ expD d → Meets Tryd.prog 67 [.ints .u64 (decI (mantD d)), .int .u64 2, .int .i64 (expD d)] (.ints .u64 (decI (allN d))) := fun h => by
    have h1 := ref11_raised (mantD d) 2 (expD d).toNat (by decide) (by omega) (by omega)
    rw [show (((expD d).toNat : Nat) : Int) = expD d by omega] at h1
    rw [show allN d = mantD d * 2 ^ (expD d).toNat from if_pos h]
    exact h1
  have hrb : expD d < 0 → Meets Tryd.prog 67 [.ints .u64 (decI (mantD d)), .int .u64 5, .int .i64 (-expD d)] (.ints .u64 (decI (allN d))) := fun h => by
    have h1 := ref11_raised (mantD d) 5 (-expD d).toNat (by decide) (by omega) (by omega)
    rw [show (((-expD d).toNat : Nat) : Int) = -expD d by omega] at h1
    rw [show allN d = mantD d * 5 ^ (-expD d).toNat from if_neg (by omega)]
    exact h1
  have hlt := allN_lt hf
  have hnd : ndig (allN d) ≤ 3300 := ndig_two hlt
  have hN0 := allN_ne h0
  have hs := ref11_text (allN d) (by omega)
  obtain ⟨ht1, ht2⟩ := core_text hN0
  have hpos := (endN_split (s := text 10 false (allN d)) text_digs (by rw [num_text (by decide)]; exact hN0)).1
  have hel := endN_le (text 10 false (allN d)) 48 (text 10 false (allN d)).length
  have hnd2 : (text 10 false (allN d)).length = ndig (allN d) := rfl
  unfold decP
  refine ref11_all_walk (d : Int) (negD d) (classD d) (expD d) (min (expD d) 0) (mantD d) 0 0 _ _ hm0 ⟨hge, hle⟩ rfl (allX d) hfin hdec _ _ hrow hra hrb hs (by omega) hpos ht1 ?_
  unfold allX tz10
  rw [hnd2] at hel ⊢
  omega

theorem law11_alls (d : Nat) (hd : d < 18446744073709551616) : Meets Tryd.prog 19 [.int .u64 (d : Int)] (.bool true) := by
  have h1 := fixed_all d hd
  have h2 := ref11_all d hd
  obtain ⟨ng, t, x, e, hP⟩ : ∃ ng t x e, allP d = .tup [.agg [.bool ng, .str t, .int .i64 x], .int .i64 e] := by
    unfold allP decP
    split
    · split <;> exact ⟨_, _, _, _, rfl⟩
    · exact ⟨_, _, _, _, rfl⟩
  rw [hP] at h1 h2
  have e1 : decide (t = t) = true := decide_eq_true rfl
  refine meets_by ttOk Tryd.func19 Tryd.ntmps19 Tryd.results19 (by kernel_rfl) (c := _) rfl rfl rfl fun E => ?_
  simp only [argsFrame]
  repeat' first
    | (simp only [e1, eq_self, decide_true, beq_self_eq_true, Bool.and_true, Bool.true_and, Bool.and_self])
    | (with_reducible first | refine PW.seq ?_ | refine PW.block ?_ | refine PW.fork ?_ | refine PW.skip ?_ | refine PW.exit ?_ | refine PW.ret ?_)
    | (with_reducible refine PW.region ttOk ?_ ?_
       · rfl)
    | (with_reducible refine PW.regionD ttOk mixed ?_ ?_ ?_
       · rfl
       · rfl)
    | (with_reducible refine ifW_dec (fun g => ?_) (fun g => ?_) <;> first | (exfalso; omega) | (simp -dsimp only [g, wkI]))
    | (with_reducible refine condE_dec (fun g => ?_) (fun g => ?_) <;> try (exfalso; omega))
    | (with_reducible refine condE_not (fun g => ?_) (fun g => ?_) <;> try (exfalso; omega))
    | (simp -dsimp only [↓wkA, ↓wkE, wkB, ↓tt, Nat.reduceBEq, Nat.reduceEqDiff, ↓reduceIte, Nat.reduceLT, Array.toList, Nat.reduceAdd, Nat.reduceMul, Int.reduceToNat, Int.reducePow, UInt8.reduceToNat])
    | (refine call_by (h1) (views_data rfl) ⟨trivial, trivial⟩ rfl ?_)
    | (refine call_by (h2) (views_data rfl) ⟨trivial, trivial⟩ rfl ?_)
    | (simp -dsimp (disch := first | assumption | omega) only [dec_t, dec_f])
    | (refine And.intro ?_ ?_
       · first | omega | decide | (simp (disch := omega) only [wkW, Int.reduceToNat, Int.reducePow] <;> omega) | (simp <;> omega))
    | (simp (disch := omega) only [wkW, Int.reduceToNat, Int.reducePow])
    | fail

structure FAsk where
  (d : Nat) (n : Int)
def FAsk.pv (a : FAsk) : PV := .agg [.int .u64 (a.d : Int), .int .i64 a.n]
structure FAsk.Ok (a : FAsk) : Prop where
  d : a.d < 18446744073709551616
  n : -9223372036854775808 ≤ a.n ∧ a.n ≤ 9223372036854775807
theorem fasks_get {asks : List FAsk} {i : Nat} (h : i < asks.length) : ∃ a ∈ asks, (asks.map FAsk.pv).getD i .undef = a.pv := by
  refine ⟨asks[i], List.getElem_mem h, ?_⟩
  rw [List.getD_eq_getElem?_getD, List.getElem?_map, List.getElem?_eq_getElem h]
  rfl

theorem fixed_alls (asks : List FAsk) (hok : ∀ a ∈ asks, a.Ok) (hn : asks.length ≤ 140737488351232) : Meets Tryd.prog 4 [.list 2 (asks.map FAsk.pv)] (.bool true) := by
  have c1 : Meets Tryd.prog 19 [.int .u64 13876364508114452480] (.bool true) := law11_alls 13876364508114452480 (by decide)
  refine meets_by ttOk Tryd.func4 Tryd.ntmps4 Tryd.results4 (by kernel_rfl) (c := _) rfl rfl rfl fun E => ?_
  simp only [argsFrame]
  have hget : ∀ i, i < asks.length → ∃ a ∈ asks, (asks.map FAsk.pv).getD i .undef = a.pv := fun i h => fasks_get h
  have hlen : (asks.map FAsk.pv).length = asks.length := List.length_map ..
  generalize asks.map FAsk.pv = L at *
  repeat' first
    | (with_reducible first | refine PW.seq ?_ | refine PW.block ?_ | refine PW.fork ?_ | refine PW.skip ?_ | refine PW.exit ?_ | refine PW.ret ?_)
    | (with_reducible refine PW.region ttOk ?_ ?_
       · rfl)
    | (with_reducible refine PW.regionD ttOk mixed ?_ ?_ ?_
       · rfl
       · rfl)
    | (with_reducible refine ifW_dec (fun g => ?_) (fun g => ?_) <;> first | (exfalso; omega) | (simp -dsimp only [g, wkI]))
    | (with_reducible refine condE_dec (fun g => ?_) (fun g => ?_) <;> try (exfalso; omega))
    | (with_reducible refine condE_not (fun g => ?_) (fun g => ?_) <;> try (exfalso; omega))
    | (simp -dsimp only [↓wkA, ↓wkE, wkB, ↓tt, Nat.reduceBEq, Nat.reduceEqDiff, ↓reduceIte, Nat.reduceLT, Array.toList, Nat.reduceAdd, Nat.reduceMul, Int.reduceToNat, Int.reducePow, UInt8.reduceToNat])
    | (refine call_by (c1) (views_data rfl) ⟨trivial, trivial⟩ rfl ?_)
    | (simp -dsimp (disch := first | assumption | omega) only [dec_t, dec_f])
    | (refine And.intro ?_ ?_
       · first | omega | decide | (simp (disch := omega) only [wkW, Int.reduceToNat, Int.reducePow] <;> omega) | (simp <;> omega))
    | (simp (disch := omega) only [wkW, Int.reduceToNat, Int.reducePow])
    | fail
  refine PW.loopA (fun m F H => ∃ i, i + m = L.length ∧ F = [(3, .int .i64 (i : Int)), (0, .list 2 L)] ∧ H = ⟨0, [], [], []⟩) L.length [(3, .int .i64 ((0 : Nat) : Int)), (0, .list 2 L)] ⟨0, [], [], []⟩ (Sub.norm ⟨rfl, rfl, trivial⟩ trivial (Nat.zero_le _) rfl rfl rfl rfl) ⟨0, by omega, rfl, rfl⟩ ?_
  rintro m F H ⟨i, hi, rfl, rfl⟩
  by_cases hend : i = L.length
  · subst hend
    repeat' first
      | (with_reducible first | refine PW.seq ?_ | refine PW.block ?_ | refine PW.fork ?_ | refine PW.skip ?_ | refine PW.exit ?_ | refine PW.ret ?_)
      | (with_reducible refine PW.region ttOk ?_ ?_
         · rfl)
      | (with_reducible refine PW.regionD ttOk mixed ?_ ?_ ?_
         · rfl
         · rfl)
      | (with_reducible refine ifW_dec (fun g => ?_) (fun g => ?_) <;> first | (exfalso; omega) | (simp -dsimp only [g, wkI]))
      | (with_reducible refine condE_dec (fun g => ?_) (fun g => ?_) <;> try (exfalso; omega))
      | (with_reducible refine condE_not (fun g => ?_) (fun g => ?_) <;> try (exfalso; omega))
      | (simp -dsimp only [↓wkA, ↓wkE, wkB, ↓tt, Nat.reduceBEq, Nat.reduceEqDiff, ↓reduceIte, Nat.reduceLT, Array.toList, Nat.reduceAdd, Nat.reduceMul, Int.reduceToNat, Int.reducePow, UInt8.reduceToNat])
      | (simp -dsimp (disch := first | assumption | omega) only [dec_t, dec_f])
      | (refine And.intro ?_ ?_
         · first | omega | decide | (simp (disch := omega) only [wkW, Int.reduceToNat, Int.reducePow] <;> omega) | (simp <;> omega))
      | (simp (disch := omega) only [wkW, Int.reduceToNat, Int.reducePow])
      | fail
  · obtain ⟨⟨d, n⟩, ha, hg⟩ := hget i (by omega)
    obtain ⟨hd, hnn⟩ := hok _ ha
    simp only [FAsk.pv] at *
    have d1 := law11_alls d hd
    repeat' first
      | (simp only [Int.toNat_natCast, hg])
      | (with_reducible first | refine PW.seq ?_ | refine PW.block ?_ | refine PW.fork ?_ | refine PW.skip ?_ | refine PW.exit ?_ | refine PW.ret ?_)
      | (with_reducible refine PW.region ttOk ?_ ?_
         · rfl)
      | (with_reducible refine PW.regionD ttOk mixed ?_ ?_ ?_
         · rfl
         · rfl)
      | (with_reducible refine ifW_dec (fun g => ?_) (fun g => ?_) <;> first | (exfalso; omega) | (simp -dsimp only [g, wkI]))
      | (with_reducible refine condE_dec (fun g => ?_) (fun g => ?_) <;> try (exfalso; omega))
      | (with_reducible refine condE_not (fun g => ?_) (fun g => ?_) <;> try (exfalso; omega))
      | (simp -dsimp only [↓wkA, ↓wkE, wkB, ↓tt, Nat.reduceBEq, Nat.reduceEqDiff, ↓reduceIte, Nat.reduceLT, Array.toList, Nat.reduceAdd, Nat.reduceMul, Int.reduceToNat, Int.reducePow, UInt8.reduceToNat])
      | (refine call_by (d1) (views_data rfl) ⟨trivial, trivial⟩ rfl ?_)
      | (simp -dsimp (disch := first | assumption | omega) only [dec_t, dec_f])
      | (refine And.intro ?_ ?_
         · first | omega | decide | (simp (disch := omega) only [wkW, Int.reduceToNat, Int.reducePow] <;> omega) | (simp <;> omega))
      | (simp (disch := omega) only [wkW, Int.reduceToNat, Int.reducePow])
      | fail
    exact Again.mk (m - 1) [(3, .int .i64 ((i + 1 : Nat) : Int)), (0, .list 2 L)] ⟨0, [], [], []⟩ (by omega) (Sub.norm ⟨rfl, rfl, trivial⟩ trivial (Nat.zero_le _) rfl rfl rfl rfl) ⟨i + 1, by omega, rfl, rfl⟩

abbrev faskS : List Shape := [.int .u64, .int .i64]
theorem typed_fask : Typed Tryd.prog 40 faskS :=
  .struct [[.int .u64], [.int .i64]] Tryd.underlying40 rfl (by kernel_rfl)
    (fun i f h => by
      match i, h with
      | 0, h => cases h; exact .int (by kernel_rfl)
      | 1, h => cases h; exact .int (by kernel_rfl)
      | i + 2, h => simp at h)
    (fun i f h => by
      match i, h with
      | 0, h => cases h; exact ⟨rfl, by kernel_rfl⟩
      | 1, h => cases h; exact ⟨rfl, by kernel_rfl⟩
      | i + 2, h => simp at h)
theorem typed_fasks : Typed Tryd.prog 36 [.rows true 16 faskS] := .rows true Tryd.underlying36 typed_fask (by kernel_rfl) (by kernel_rfl) (by decide) (fun h => by cases h)
theorem fits_fasks {p : PV} (h : Fits (.rows true 16 faskS) p) : ∃ asks : List FAsk, p = .list 2 (asks.map FAsk.pv) ∧ (∀ a ∈ asks, a.Ok) ∧ asks.length * 16 ≤ 140737488351232 := by
  refine fits_list h FAsk.pv FAsk.Ok fun ps hl hf => ?_
  match ps, hl with
  | [p0, p1], _ =>
    have h0 : Fits (.int .u64) p0 := hf 0 (by decide)
    have h1 : Fits (.int .i64) p1 := hf 1 (by decide)
    cases h0 with | int _ u hu =>
    cases h1 with | int _ f hff =>
    have hu2 := wf_u64 hu
    refine ⟨⟨u.toNat, f⟩, ?_, ⟨by show u.toNat < _; omega, wf_i64 hff⟩⟩
    show _ = PV.agg [.int .u64 ((u.toNat : Nat) : Int), .int .i64 f]
    rw [show ((u.toNat : Nat) : Int) = u by omega]
    rfl
end Go.Proofs.YtjhkpjddcaglnaaDoor

/- Contracts and laws that the row leans on, part 12: texts that were built one by one, laid together. -/
import Derived.Test.YtmoilbeomnapfaaGreatDoorPart11
set_option maxHeartbeats 4000000
set_option maxRecDepth 4000
set_option exponentiation.threshold 300000
set_option linter.unusedVariables false
set_option linter.unusedSimpArgs false
namespace Go.Proofs.YtmoilbeomnapfaaGreatDoor
open Go Go.PV
theorem best_bounds {d : Nat} (hf : finD d) (h0 : absD d ≠ 0) {k j : Int} (hT : Ten (4 * mantD d) (spE d) k) (hj : -420 ≤ j ∧ j ≤ 420) (hjk : j ≤ k) {b : Nat} (hb : bestD d j = some b) : b ≠ 0 ∧ b < 2 ^ 2700 := by
  obtain ⟨f1, f2, _, _, _⟩ := (look_of hf h0 hT hj hjk).f0
  unfold bestD at hb
  rcases bestW_cases (lowM d * upS (spE d) j) (4 * mantD d * upS (spE d) j) ((4 * mantD d + 2) * upS (spE d) j) (beS (spE d) j) (decide (d % 2 = 0)) with h | h | h
  · rw [h] at hb; cases hb
  · rw [h] at hb
    obtain rfl := Option.some.inj hb
    exact ⟨by omega, p26 f2⟩
  · rw [h] at hb
    obtain rfl := Option.some.inj hb
    exact ⟨by omega, p261 f2⟩
theorem first_ok {d : Nat} (hf : finD d) (h0 : absD d ≠ 0) {k : Int} (hk : -400 ≤ k ∧ k < 400) (hT : Ten (4 * mantD d) (spE d) k) : ∀ m n : Nat, 1 ≤ n → n + m ≤ 18 → ∃ a s x, firstD d k m n = .agg [.bool a, .str s, .int .i64 x] ∧ s.length ≤ 900 ∧ -2000 ≤ x ∧ x ≤ 2000 ∧ (s = [] → x = 0)
  | 0, n, _, _ => ⟨_, _, _, rfl, by decide, by decide, by decide, fun _ => rfl⟩
  | m + 1, n, hn, hm => by
    rw [firstD]
    split
    · rename_i h
      cases hb : bestD d (k + 1 - n) with
      | none => rw [hb] at h; cases h
      | some b =>
        obtain ⟨b1, b2⟩ := best_bounds hf h0 hT (by omega) (by omega) hb
        have hwl := written_le b1 b2
        have hx := normX_in (s := written 10 false b) (x := k + 1 - n) hwl (by omega)
        exact ⟨_, _, _, rfl, Nat.le_trans (normS_le (written_ne (by decide) false b)) hwl, hx.1, hx.2, fun e => absurd e (normS_ne _)⟩
    · exact first_ok hf h0 hk hT m (n + 1) (by omega) (by omega)
theorem lay_len {s : List Int} {p : Int} {q : Nat} {T res : List Int} (h : Lay s p q T res) (hs : s.length ≤ 1000) (hp : -5000 ≤ p ∧ p ≤ 5000) (hT : T.length ≤ 1000) : res.length ≤ 100000 := by
  rcases h with ⟨c1, c2, c3, c4, rfl⟩ | ⟨c1, c2, c3, c4, rfl⟩ | ⟨c1, c2, c4, rfl⟩ | ⟨c1, c3, c4, rfl⟩ | ⟨c1, c3, c4, rfl⟩ | ⟨c1, c3, c4, c5, rfl⟩ | ⟨c1, c3, c4, c5, rfl⟩ | ⟨c1, c3, c4, c5, rfl⟩ | ⟨c1, c3, c4, c5, rfl⟩
  all_goals simp only [List.length_append, List.length_replicate, List.length_cons, List.length_take, List.length_drop]
  all_goals omega
theorem lay_q {s : List Int} {p : Int} {q : Nat} {T res : List Int} (h : Lay s p q T res) (hs : s.length ≤ 1000) (hp : -5000 ≤ p ∧ p ≤ 5000) : q ≤ 6000 := by
  rcases h with ⟨c1, c2, c3, c4, rfl⟩ | ⟨c1, c2, c3, c4, rfl⟩ | ⟨c1, c2, c4, rfl⟩ | ⟨c1, c3, c4, rfl⟩ | ⟨c1, c3, c4, rfl⟩ | ⟨c1, c3, c4, c5, rfl⟩ | ⟨c1, c3, c4, c5, rfl⟩ | ⟨c1, c3, c4, c5, rfl⟩ | ⟨c1, c3, c4, c5, rfl⟩
  all_goals omega
theorem texts (d : Nat) (hd : d < 18446744073709551616) : ∃ t, Meets Tryz.prog 11 [.int .u64 (d : Int)] (.str t) ∧ Meets Tryz.prog 12 [.int .u64 (d : Int)] (.str t) := by
  have h1 := ieee_class d hd
  have h2 := ref04_class d hd
  have hneg : decide (9223372036854775808 ≤ (d : Int)) = negD d := decide_eq_decide.2 (by omega)
  by_cases hf : finD d
  · by_cases h0 : absD d = 0
    · have hc : classD d = 0 := by unfold classD; rw [if_pos h0]
      rw [hc] at h1 h2
      exact ⟨_, text_odd _ _ _ _ hneg h1 (.inr (.inr ⟨rfl, rfl⟩)), ref_text_odd _ _ _ _ hneg h2 (.inr (.inr ⟨rfl, rfl⟩))⟩
    · have hm0 : mantD d ≠ 0 := fun e => h0 (mantD_zero.1 e)
      have hml := mantD_lt d
      have he1 := expD_ge d
      have he2 := expD_le hf
      have e60 : (2 : Nat) ^ 60 = 1152921504606846976 := by decide
      obtain ⟨k, k1, k2, hT⟩ := ten_of (m := 4 * mantD d) (e := spE d) (by omega) (by rw [e60]; omega) (by unfold spE; omega)
      obtain ⟨a, s, x, hR, hsl, hx1, hx2, hsx⟩ := first_ok hf h0 ⟨k1, k2⟩ hT 17 1 (by decide) (by decide)
      have g1 := short_digits d hd hf h0 k ⟨k1, k2⟩ hT
      obtain ⟨e, g2⟩ := ref12_digits d hd hf h0 k ⟨k1, k2⟩ hT
      unfold shortP at g1 g2
      rw [hR] at g1 g2
      have hc : decide (classD d = 4) = false ∧ decide (classD d = 3) = false ∧ decide (classD d = 0) = false := by
        unfold finD at hf
        refine ⟨decide_eq_false fun h => ?_, decide_eq_false fun h => ?_, decide_eq_false fun h => ?_⟩ <;> unfold classD at h <;> rw [if_neg h0] at h <;> (repeat' split at h) <;> omega
      obtain ⟨q, res, hL⟩ := lay_ex s (s.length + x) (fun e => by subst e; have := hsx rfl; simp; omega) fun q => itoaI (q : Int)
      have hq := lay_q hL (by omega) (by omega)
      have hT2 : (itoaI (q : Int)).length ≤ 1000 := by
        have hall : ((List.range 6001).all fun i => decide ((Lib.itoa ((i : Nat) : Int)).length ≤ 1000)) = true := by decide +kernel
        have := List.all_eq_true.1 hall q (List.mem_range.2 (by omega))
        have h5 : (itoaI (q : Int)).length = (Lib.itoa (q : Int)).length := by unfold itoaI bytesI; simp
        rw [h5]
        exact of_decide_eq_true this
      have hlay := layout_walk s (s.length + x) q (itoaI q) res (by omega) (by omega) hL (ref_zeros q (by omega)) (itoa_meets q (by omega)) hT2
      exact ⟨_, text_walk _ _ _ _ _ _ _ _ _ _ _ hneg hc (wrap_i64 (by omega)) (by omega) (by omega) hL hT2 h1 g1 (repeat_byte 48 (by decide) q (by omega)) (itoa_meets q (by omega)), ref_text_walk _ _ _ _ _ _ _ _ _ hneg hc (by rw [wrap_i64 (by omega), Int.add_comm]) h2 g2 hlay (lay_len hL (by omega) (by omega) hT2)⟩
  · have hb := field_lt d
    have hnz : absD d ≠ 0 := fun e => hf (by unfold finD fieldD; rw [e]; decide)
    have hc : classD d = 3 ∨ classD d = 4 := by
      unfold finD at hf
      unfold classD
      rw [if_neg hnz]
      repeat' split
      all_goals omega
    rcases hc with hc | hc
    · rw [hc] at h1 h2
      exact ⟨_, text_odd _ _ _ _ hneg h1 (.inr (.inl ⟨rfl, rfl⟩)), ref_text_odd _ _ _ _ hneg h2 (.inr (.inl ⟨rfl, rfl⟩))⟩
    · rw [hc] at h1 h2
      exact ⟨_, text_odd _ _ _ _ hneg h1 (.inl ⟨rfl, rfl⟩), ref_text_odd _ _ _ _ hneg h2 (.inl ⟨rfl, rfl⟩)⟩
theorem number_walk (d : Int) (big : Bool) (t u : List Int) (hb : decide (9218868437227405312 ≤ d) = big) (h : Meets Tryz.prog 11 [.int .u64 d] (.str t)) (hu : (big = true ∧ u = []) ∨ (big = false ∧ u = t)) : Meets Tryz.prog 6 [.int .u64 d] (.tup [.str u, .bool (!big)]) := by
  rcases hu with ⟨rfl, rfl⟩ | ⟨rfl, rfl⟩
  all_goals (refine meets_by ttOk Tryz.func6 Tryz.ntmps6 Tryz.results6 (by kernel_rfl) (c := _) rfl rfl rfl fun E => ?_; simp only [argsFrame])
  all_goals
    repeat' first
      | (with_reducible first | refine PW.seq ?_ | refine PW.block ?_ | refine PW.fork ?_ | refine PW.skip ?_ | refine PW.exit ?_ | refine PW.ret ?_) | (simp only [hb]) | ((with_reducible refine PW.region ttOk ?_ ?_); rfl) | ((with_reducible refine PW.regionD ttOk mixed ?_ ?_ ?_); rfl; rfl) | (with_reducible refine ifW_dec (fun g => ?_) (fun g => ?_) <;> first | (exfalso; omega) | (simp -dsimp only [g, wkI])) | ((with_reducible first | refine condE_dec (fun g => ?_) (fun g => ?_) | refine condE_not (fun g => ?_) (fun g => ?_)) <;> try (exfalso; omega)) | (simp -dsimp only [↓wkA, ↓wkE, ↓wkJ, wkB, ↓tt, Nat.reduceBEq, Nat.reduceEqDiff, ↓reduceIte, Nat.reduceLT, Array.toList, Nat.reduceAdd, Nat.reduceMul, Int.reduceToNat, Int.reducePow, UInt8.reduceToNat]) | (refine call_by (h) (views_data rfl) ⟨trivial, trivial⟩ rfl ?_) | (simp -dsimp (disch := first | assumption | omega) only [dec_t, dec_f])
      | (refine And.intro ?_ ?_
         · first | omega | decide | (simp (disch := omega) only [wkW, Int.reduceToNat, Int.reducePow] <;> omega) | (simp <;> omega)) | (simp (disch := omega) only [wkW, Int.reduceToNat, Int.reducePow])
  all_goals rfl
theorem ref_number_walk (d : Int) (big : Bool) (t u : List Int) (hb : decide (9218868437227405312 ≤ d) = big) (h : Meets Tryz.prog 12 [.int .u64 d] (.str t)) (hu : (big = true ∧ u = []) ∨ (big = false ∧ u = t)) : Meets Tryz.prog 7 [.int .u64 d] (.tup [.str u, .bool (!big)]) := by
  rcases hu with ⟨rfl, rfl⟩ | ⟨rfl, rfl⟩
  all_goals (refine meets_by ttOk Tryz.func7 Tryz.ntmps7 Tryz.results7 (by kernel_rfl) (c := _) rfl rfl rfl fun E => ?_; simp only [argsFrame])
  all_goals
    repeat' first
      | (with_reducible first | refine PW.seq ?_ | refine PW.block ?_ | refine PW.fork ?_ | refine PW.skip ?_ | refine PW.exit ?_ | refine PW.ret ?_) | (simp only [hb]) | ((with_reducible refine PW.region ttOk ?_ ?_); rfl) | ((with_reducible refine PW.regionD ttOk mixed ?_ ?_ ?_); rfl; rfl) | (with_reducible refine ifW_dec (fun g => ?_) (fun g => ?_) <;> first | (exfalso; omega) | (simp -dsimp only [g, wkI])) | ((with_reducible first | refine condE_dec (fun g => ?_) (fun g => ?_) | refine condE_not (fun g => ?_) (fun g => ?_)) <;> try (exfalso; omega)) | (simp -dsimp only [↓wkA, ↓wkE, ↓wkJ, wkB, ↓tt, Nat.reduceBEq, Nat.reduceEqDiff, ↓reduceIte, Nat.reduceLT, Array.toList, Nat.reduceAdd, Nat.reduceMul, Int.reduceToNat, Int.reducePow, UInt8.reduceToNat]) | (refine call_by (h) (views_data rfl) ⟨trivial, trivial⟩ rfl ?_) | (simp -dsimp (disch := first | assumption | omega) only [dec_t, dec_f])
      | (refine And.intro ?_ ?_
         · first | omega | decide | (simp (disch := omega) only [wkW, Int.reduceToNat, Int.reducePow] <;> omega) | (simp <;> omega)) | (simp (disch := omega) only [wkW, Int.reduceToNat, Int.reducePow])
  all_goals rfl
theorem numbers (d : Nat) (hd : d < 18446744073709551616) : ∃ t b, Meets Tryz.prog 6 [.int .u64 (d : Int)] (.tup [.str t, .bool b]) ∧ Meets Tryz.prog 7 [.int .u64 (d : Int)] (.tup [.str t, .bool b]) := by
  obtain ⟨t, h1, h2⟩ := texts d hd
  by_cases h : 9218868437227405312 ≤ (d : Int)
  · exact ⟨[], _, number_walk _ true t [] (decide_eq_true h) h1 (.inl ⟨rfl, rfl⟩), ref_number_walk _ true t [] (decide_eq_true h) h2 (.inl ⟨rfl, rfl⟩)⟩
  · exact ⟨t, _, number_walk _ false t t (decide_eq_false h) h1 (.inr ⟨rfl, rfl⟩), ref_number_walk _ false t t (decide_eq_false h) h2 (.inr ⟨rfl, rfl⟩)⟩
theorem text_one : Meets Tryz.prog 11 [.int .u64 4607182418800017408] (.str [49]) := by
  have hd : 4607182418800017408 < 18446744073709551616 := by decide
  have hf : finD 4607182418800017408 := by decide
  have h0 : absD 4607182418800017408 ≠ 0 := by decide
  have hT : Ten (4 * mantD 4607182418800017408) (spE 4607182418800017408) 0 := ⟨by decide +kernel, by decide +kernel⟩
  have g1 := short_digits 4607182418800017408 hd hf h0 0 (by decide) hT
  have h1 := ieee_class 4607182418800017408 hd
  have hb : bestD 4607182418800017408 0 = some 1 := by decide +kernel
  have hw : written 10 false 1 = [49] := by
    rw [written, if_neg (by decide)]
    simp [text, digs, lettersOf, smalls]
  have hs : shortP 4607182418800017408 0 = .agg [.bool false, .str [49], .int .i64 0] := by
    show (if (bestD 4607182418800017408 0).isSome then decR (negD 4607182418800017408) 0 (bestD 4607182418800017408 0) else firstD 4607182418800017408 0 16 2) = _
    rw [hb]
    show PV.agg [.bool false, .str (normS (written 10 false 1)), .int .i64 (normX (written 10 false 1) 0)] = _
    rw [hw]
    rfl
  rw [hs] at g1
  have hq : (itoaI 0).length ≤ 1000 := by
    have h5 : (itoaI 0).length = (Lib.itoa 0).length := by unfold itoaI bytesI; simp
    rw [h5]
    decide +kernel
  exact text_walk 4607182418800017408 2 0 false false [49] [49] (itoaI 0) 0 1 0 (by decide) (by decide) (by decide) (by decide) (by decide) (.inl ⟨by decide, by decide, by decide, by decide, rfl⟩) hq h1 g1 (repeat_byte 48 (by decide) 0 (by decide)) (itoa_meets 0 (by decide))
theorem number_one : Meets Tryz.prog 6 [.int .u64 4607182418800017408] (.tup [.str [49], .bool true]) := number_walk _ false [49] [49] (by decide) text_one (.inr ⟨rfl, rfl⟩)
theorem law_numbers_walk (d : Int) (t : List Int) (b : Bool) (h0 : Meets Tryz.prog 6 [.int .u64 4607182418800017408] (.tup [.str [49], .bool true])) (h1 : Meets Tryz.prog 6 [.int .u64 d] (.tup [.str t, .bool b])) (h2 : Meets Tryz.prog 7 [.int .u64 d] (.tup [.str t, .bool b])) : Meets Tryz.prog 4 [.int .u64 d] (.bool true) := by
  cases b
  all_goals (refine meets_by ttOk Tryz.func4 Tryz.ntmps4 Tryz.results4 (by kernel_rfl) (c := _) rfl rfl rfl fun E => ?_; simp only [argsFrame])
  all_goals
    repeat' first
      | (with_reducible first | refine PW.seq ?_ | refine PW.block ?_ | refine PW.fork ?_ | refine PW.skip ?_ | refine PW.exit ?_ | refine PW.ret ?_) | ((with_reducible refine PW.region ttOk ?_ ?_); rfl) | ((with_reducible refine PW.regionD ttOk mixed ?_ ?_ ?_); rfl; rfl) | (with_reducible refine ifW_dec (fun g => ?_) (fun g => ?_) <;> first | (exfalso; omega) | (simp -dsimp only [g, wkI])) | ((with_reducible first | refine condE_dec (fun g => ?_) (fun g => ?_) | refine condE_not (fun g => ?_) (fun g => ?_)) <;> try (exfalso; omega)) | (simp -dsimp only [↓wkA, ↓wkE, ↓wkJ, wkB, ↓tt, Nat.reduceBEq, Nat.reduceEqDiff, ↓reduceIte, Nat.reduceLT, Array.toList, Nat.reduceAdd, Nat.reduceMul, Int.reduceToNat, Int.reducePow, UInt8.reduceToNat]) | (refine call_by (h0) (views_data rfl) ⟨trivial, trivial⟩ rfl ?_) | (refine call_by (h1) (views_data rfl) ⟨trivial, trivial⟩ rfl ?_) | (refine call_by (h2) (views_data rfl) ⟨trivial, trivial⟩ rfl ?_) | (simp -dsimp (disch := first | assumption | omega) only [dec_t, dec_f])
      | (refine And.intro ?_ ?_
         · first | omega | decide | (simp (disch := omega) only [wkW, Int.reduceToNat, Int.reducePow] <;> omega) | (simp <;> omega)) | (simp (disch := omega) only [wkW, Int.reduceToNat, Int.reducePow])
  all_goals rfl
theorem law_numbers (d : Nat) (hd : d < 18446744073709551616) : Meets Tryz.prog 4 [.int .u64 (d : Int)] (.bool true) := by
  obtain ⟨t, b, h1, h2⟩ := numbers d hd
  exact law_numbers_walk _ t b number_one h1 h2
end Go.Proofs.YtmoilbeomnapfaaGreatDoor

import Derived.Test.YtjfakpogfakicaaDoorR6
set_option linter.unusedVariables false
set_option linter.unusedSimpArgs false
namespace Go.Proofs.YtjfakpogfakicaaDoor
open Go Go.PV

theorem near_skip (s : List Int) (keep : Int) (mo : Nat) (r : Bool) (hrow : Meets Tryd.prog 5 [.str s] (.bool r)) (hsl : s.length ≤ 140737488351232) (h : r = false ∨ keep < 0 ∨ 4000 < s.length) :
    Meets Tryd.prog 3 [.str s, .int .i64 keep, .bool (decide (mo = 1))] (.bool true) := by
  refine meets_by ttOk Tryd.func3 Tryd.ntmps3 Tryd.results3 (by kernel_rfl) (c := _) rfl rfl rfl fun E => ?_
  simp only [argsFrame]
  cases r
  all_goals simp only [reduceCtorEq, false_or, true_or] at h
  all_goals
    repeat' first
      | (simp only [eq_self, decide_true, Bool.not_true])
      | (with_reducible first | refine PW.seq ?_ | refine PW.block ?_ | refine PW.fork ?_ | refine PW.skip ?_ | refine PW.exit ?_ | refine PW.ret ?_)
      | (with_reducible refine PW.region ttOk ?_ ?_
         · rfl)
      | (with_reducible refine PW.regionD ttOk mixed ?_ ?_ ?_
         · rfl
         · rfl)
      | (with_reducible refine ifW_dec (fun g => ?_) (fun g => ?_) <;> first | (exfalso; omega) | (simp -dsimp only [g, wkI]))
      | (with_reducible refine condE_dec (fun g => ?_) (fun g => ?_) <;> try (exfalso; omega))
      | (with_reducible refine condE_not (fun g => ?_) (fun g => ?_) <;> try (exfalso; omega))
      | (simp -dsimp only [↓wkA, wkB, ↓tt, Nat.reduceBEq, Nat.reduceEqDiff, ↓reduceIte, Nat.reduceLT, Array.toList, Nat.reduceAdd, Nat.reduceMul, Int.reduceToNat, Int.reducePow, UInt8.reduceToNat])
      | (refine call_by round_first (views_data rfl) ⟨trivial, trivial, trivial, trivial⟩ rfl ?_)
      | (refine call_by hrow (views_data rfl) ⟨trivial, trivial⟩ rfl ?_)
      | (simp -dsimp (disch := first | assumption | omega) only [dec_t, dec_f])
      | (refine And.intro ?_ ?_
         · first | omega | decide | (simp (disch := omega) only [wkW, Int.reduceToNat, Int.reducePow] <;> omega) | (simp <;> omega))
      | (simp (disch := omega) only [wkW, Int.reduceToNat, Int.reducePow])
      | fail

theorem near_keep (s : List Int) (hs : Digs s) (h0 : 0 < s.length) (hsl : s.length ≤ 4000) (k mo : Nat) (hk : s.length ≤ k) (hk2 : k ≤ 9223372036854775807) :
    Meets Tryd.prog 3 [.str s, .int .i64 (k : Int), .bool (decide (mo = 1))] (.bool true) := by
  have hrow := rowed_ok s hs (by omega) h0
  have hround := round_keep s hs (by omega) h0 k hk hk2 mo
  refine meets_by ttOk Tryd.func3 Tryd.ntmps3 Tryd.results3 (by kernel_rfl) (c := _) rfl rfl rfl fun E => ?_
  simp only [argsFrame]
  repeat' first
    | (simp only [eq_self, decide_true, Bool.not_true])
    | (with_reducible first | refine PW.seq ?_ | refine PW.block ?_ | refine PW.fork ?_ | refine PW.skip ?_ | refine PW.exit ?_ | refine PW.ret ?_)
    | (with_reducible refine PW.region ttOk ?_ ?_
       · rfl)
    | (with_reducible refine PW.regionD ttOk mixed ?_ ?_ ?_
       · rfl
       · rfl)
    | (with_reducible refine ifW_dec (fun g => ?_) (fun g => ?_) <;> first | (exfalso; omega) | (simp -dsimp only [g, wkI]))
    | (with_reducible refine condE_dec (fun g => ?_) (fun g => ?_) <;> try (exfalso; omega))
    | (with_reducible refine condE_not (fun g => ?_) (fun g => ?_) <;> try (exfalso; omega))
    | (simp -dsimp only [↓wkA, wkB, ↓tt, Nat.reduceBEq, Nat.reduceEqDiff, ↓reduceIte, Nat.reduceLT, Array.toList, Nat.reduceAdd, Nat.reduceMul, Int.reduceToNat, Int.reducePow, UInt8.reduceToNat])
    | (refine call_by round_first (views_data rfl) ⟨trivial, trivial, trivial, trivial⟩ rfl ?_)
    | (refine call_by hrow (views_data rfl) ⟨trivial, trivial⟩ rfl ?_)
    | (refine call_by hround (views_data rfl) ⟨trivial, trivial, trivial, trivial⟩ rfl ?_)
    | (simp -dsimp (disch := first | assumption | omega) only [dec_t, dec_f])
    | (refine And.intro ?_ ?_
       · first | omega | decide | (simp (disch := omega) only [wkW, Int.reduceToNat, Int.reducePow] <;> omega) | (simp <;> omega))
    | (simp (disch := omega) only [wkW, Int.reduceToNat, Int.reducePow])
    | fail

theorem near_cut (s : List Int) (hs : Digs s) (hsl : s.length ≤ 4000) (k mo : Nat) (hk : k < s.length) :
    Meets Tryd.prog 3 [.str s, .int .i64 (k : Int), .bool (decide (mo = 1))] (.bool true) := by
  obtain ⟨z, hz⟩ : ∃ z : Nat, z = 1 ↔ AllZ (s.drop (k + 1)) := by
    by_cases h : AllZ (s.drop (k + 1))
    · exact ⟨1, fun _ => h, fun _ => rfl⟩
    · exact ⟨0, fun h2 => by omega, fun h2 => absurd h2 h⟩
  have hround := num_round s hs (by omega) k hk mo z hz
  obtain ⟨r1, r2, r3, r4, r5⟩ := roundR_val hs hk mo z hz rfl rfl rfl
  obtain ⟨c, hc⟩ : ∃ c, (roundR s k mo z).2 = c := ⟨_, rfl⟩
  rw [hc] at hround r5
  generalize (roundR s k mo z).1 = t at *
  have hrow := rowed_ok s hs (by omega) (by omega)
  have ht48 : ∀ h : Int, 48 ≤ h → h ≤ 57 → Digs (h :: t) := fun h h1 h2 x hx => by
    rcases List.mem_cons.1 hx with rfl | hx
    · exact ⟨h1, h2⟩
    · exact r2 x hx
  have hrow2 := rowed_ok (48 :: t) (ht48 48 (by decide) (by decide)) (by simp; omega) (by simp)
  have hread := read_nat hs (by intro h; rw [h] at hk; simp at hk) (by omega)
  -- what is kept, with the digit that is carried out
  have hread2 : Meets Tryd.prog 7 [.str ((if c then 49 else 48) :: t)] (.tup [.ints .u64 (natL (num 10 t + if c then 10 ^ k else 0)), .int .i64 0, .int .i64 0]) := by
    have h := read_nat (s := (if c then 49 else 48) :: t) (ht48 _ (by split <;> decide) (by split <;> decide)) (by simp) (by simp; omega)
    rw [num_cons (by split <;> decide), r1] at h
    have e : ((if c then 49 else 48 : Int) - 48).toNat * 10 ^ k + num 10 t = num 10 t + if c then 10 ^ k else 0 := by
      cases c <;> simp [Nat.add_comm]
    rwa [e] at h
  have hU : 10 ^ (s.length - k) < NMax := ten_small (by omega)
  have hU0 : 0 < 10 ^ (s.length - k) := Nat.pow_pos (by omega)
  have hpow := pow10_ok (s.length - k) (by omega) hU
  rw [show ((s.length - k : Nat) : Int) = (s.length : Int) - (k : Int) by omega] at hpow
  have hbig : 2 * 10 ^ s.length < NMax := by
    have h1 := ten_small (n := s.length + 1) (by omega)
    rw [Nat.pow_succ] at h1
    omega
  have hAlt : num 10 (s.take k) < 10 ^ k := by
    have := num_digs_lt (digs_take hs k)
    rwa [List.length_take, Nat.min_eq_left (by omega)] at this
  have hpk : 10 ^ k * 10 ^ (s.length - k) = 10 ^ s.length := by rw [← Nat.pow_add, show k + (s.length - k) = s.length by omega]
  generalize 10 ^ (s.length - k) = U at *
  generalize num 10 (s.drop k) = D at *
  have hmono : ∀ x, x ≤ 10 ^ k → x * U ≤ 10 ^ s.length := fun x hx => by rw [← hpk]; exact Nat.mul_le_mul_right U hx
  have hpke : 10 ^ k ≤ 10 ^ s.length := Nat.pow_le_pow_right (by omega) (by omega)
  have he := num_digs_lt hs
  generalize num 10 (s.take k) = A at *
  generalize num 10 s = e at *
  generalize 10 ^ s.length = M at *
  generalize num 10 t = N at *
  generalize 10 ^ k = L at *
  have hK : (N + if c then L else 0) ≤ L := by
    rcases r5 with ⟨h1, h2, _⟩ | ⟨h2, _⟩
    · cases c
      · simp only [Bool.false_eq_true, if_false]; omega
      · exact absurd rfl h1
    · omega
  have hTM := hmono _ hK
  have hmu := hmono A (by omega)
  have hm1 := Nat.add_mul A 1 U
  generalize hKK : (N + if c then L else 0) = K at *
  have hmul := mul_nat0 (u := K) (v := U) (by omega) hU (by omega)
  have hb := bit_nat K 0 (by omega) (by omega)
  rw [Nat.pow_zero, Nat.div_one] at hb
  rw [Nat.one_mul] at hm1
  rcases r5 with ⟨h1, h2, h3⟩ | ⟨h2, h3⟩
  · -- rounded down
    obtain rfl : K = A := by
      rw [← hKK]
      cases c
      · simp only [Bool.false_eq_true, if_false]; omega
      · exact absurd rfl h1
    have hcmp := cmp_nat (u := K * U) (v := e) (by omega) (by omega)
    have hsub := sub_nat (u := e) (v := K * U) (by omega) (by omega) (by omega)
    have hd : e - K * U = D := by omega
    rw [hd] at hsub
    have hshl := shl_nat (u := D) (n := 1) (by omega) (by omega) (by omega)
    have hcmp2 := cmp_nat (u := D * 2 ^ 1) (v := U) (by omega) hU
    refine near_walk s t _ _ _ _ _ _ _ 0 _ _ _ k mo c _ rfl hsl hk r1 hrow hrow2 hround hpow hread hread2 hmul hcmp hsub (.inl ⟨by split <;> (try split) <;> omega, rfl⟩) hshl hcmp2 hb ?_
    rw [Nat.pow_one]
    constructor
    · intro h
      rw [if_pos (by omega)]; decide
    · intro h
      rcases h3 with h3 | ⟨h3, h4, h5⟩
      · rw [if_pos (by omega)]; exact .inl (by decide)
      · rw [if_neg (by omega), if_neg (by omega)]
        exact .inr ⟨rfl, .inr (by omega)⟩
  · -- rounded up
    obtain rfl : K = A + 1 := by omega
    have hcmp := cmp_nat (u := (A + 1) * U) (v := e) (by omega) (by omega)
    have hsub := sub_below (u := e) (v := (A + 1) * U) (by omega) (by omega) (by omega)
    have hsub2 := sub_nat (u := (A + 1) * U) (v := e) (by omega) (by omega) (by omega)
    have hd : (A + 1) * U - e = U - D := by omega
    rw [hd] at hsub2
    have hshl := shl_nat (u := U - D) (n := 1) (by omega) (by omega) (by omega)
    have hcmp2 := cmp_nat (u := (U - D) * 2 ^ 1) (v := U) (by omega) hU
    have hs0 : (0 : Int) < (if (A + 1) * U < e then -1 else if e < (A + 1) * U then 1 else 0) := by rw [if_neg (by omega), if_pos (by omega)]; decide
    refine near_walk s t _ _ _ _ _ _ _ 10 _ _ _ k mo c _ rfl hsl hk r1 hrow hrow2 hround hpow hread hread2 hmul hcmp hsub (.inr ⟨hs0, hsub2⟩) hshl hcmp2 hb ?_
    rw [Nat.pow_one]
    constructor
    · intro h
      exact absurd h.2 (by omega)
    · intro h
      rcases h3 with h3 | ⟨h3, h4⟩
      · rw [if_pos (by omega)]; exact .inl (by decide)
      · rw [if_neg (by omega), if_neg (by omega)]
        exact .inr ⟨rfl, by omega⟩

theorem numeral_near (s : List Int) (hs : Bytes' s) (hsl : s.length ≤ 140737488351232) (keep : Int) (hkp : -9223372036854775808 ≤ keep ∧ keep ≤ 9223372036854775807) (more : Bool) :
    Meets Tryd.prog 3 [.str s, .int .i64 keep, .bool more] (.bool true) := by
  obtain ⟨mo, rfl⟩ : ∃ mo : Nat, more = decide (mo = 1) := by cases more; exact ⟨0, rfl⟩; exact ⟨1, rfl⟩
  by_cases hd : ∀ j, j < s.length → 48 ≤ s.getD j 0 ∧ s.getD j 0 ≤ 57
  · have hD : Digs s := fun x hx => by
      obtain ⟨j, hj, rfl⟩ := List.getElem_of_mem hx
      have := hd j hj
      rwa [List.getD_eq_getElem?_getD, List.getElem?_eq_getElem hj] at this
    by_cases h0 : s.length = 0
    · exact near_skip s keep mo false (rowed_bad s hsl s.length (Nat.le_refl _) (fun j hj => hd j hj) (fun h => absurd h (by omega)) fun _ => h0) hsl (.inl rfl)
    by_cases h1 : keep < 0 ∨ 4000 < s.length
    · exact near_skip s keep mo true (rowed_ok s hD hsl (by omega)) hsl (.inr h1)
    obtain ⟨k, rfl⟩ := Int.eq_ofNat_of_zero_le (show 0 ≤ keep by omega)
    by_cases hk : k < s.length
    · exact near_cut s hD (by omega) k mo hk
    · exact near_keep s hD (by omega) (by omega) k mo (by omega) (by omega)
  · obtain ⟨j, hj⟩ := Classical.not_forall.1 hd
    obtain ⟨hj1, hj2⟩ := Classical.not_imp.1 hj
    obtain ⟨i0, hi0, hmin⟩ := least_of (fun i => ¬ (48 ≤ s.getD i 0 ∧ s.getD i 0 ≤ 57)) j hj2
    have hij : i0 < s.length := by
      rcases Nat.lt_or_ge i0 s.length with h | h
      · exact h
      · exact absurd hj2 (hmin j (by omega))
    exact near_skip s keep mo false (rowed_bad s hsl i0 (by omega) (fun j h => Classical.not_not.1 (hmin j h)) (fun _ => hi0) fun h => by omega) hsl (.inl rfl)
end Go.Proofs.YtjfakpogfakicaaDoor


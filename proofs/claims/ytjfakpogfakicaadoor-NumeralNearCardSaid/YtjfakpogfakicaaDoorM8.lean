import Derived.Test.YtjfakpogfakicaaDoorM7
set_option linter.unusedVariables false
set_option linter.unusedSimpArgs false
namespace Go.Proofs.YtjfakpogfakicaaDoor
open Go Go.PV

set_option maxHeartbeats 4000000 in
theorem num_round (s : List Int) (hs : Digs s) (hsl : s.length ≤ 140737488351232) (k : Nat) (hk : k < s.length) (mo z : Nat) (hz : z = 1 ↔ AllZ (s.drop (k + 1))) :
    Meets Tryd.prog 4 [.str s, .int .i64 (k : Int), .bool (decide (mo = 1))] (.tup [.str (roundR s k mo z).1, .bool (roundR s k mo z).2, .int .i64 0]) := by
  have hdl : (s.drop (k + 1)).length = s.length - (k + 1) := List.length_drop
  have ht := trim_byte (s.drop (k + 1)) (by omega)
  have htz := trim_nil (s := s.drop (k + 1))
  generalize headL 48 ((s.drop (k + 1)).take (endN (s.drop (k + 1)) 48 (s.drop (k + 1)).length)) = T at *
  have hTz : decide (T = []) = decide (z = 1) := by
    rw [Bool.eq_iff_iff, decide_eq_true_eq, decide_eq_true_eq, htz, hz]
  have hdt : List.take (s.length - (k + 1)) (s.drop (k + 1)) = s.drop (k + 1) := List.take_of_length_le (by omega)
  have e1 : ((s.length : Int) - ((k : Int) + 1)).toNat = s.length - (k + 1) := by omega
  have e3 : ((k : Int) + 1).toNat = k + 1 := by omega
  have w3 : IntKind.wrap .i64 ((k : Int) + 1) = (k : Int) + 1 := wrap_i64 (by omega)
  have hkd := digs_get hs hk
  have htl : (s.take k).length = k := by simp; omega
  have hkd2 : 0 < k → 48 ≤ s.getD (k - 1) 0 ∧ s.getD (k - 1) 0 ≤ 57 := fun h => digs_get hs (by omega)
  have hrd : Digs (s.take k) := digs_take hs k
  have hpr : 0 < k → IntKind.wrap .i64 ((k : Int) - 1) = (k : Int) - 1 ∧ ((k : Int) - 1).toNat = k - 1 ∧ IntKind.wrap .u8 (s.getD (k - 1) 0 - 48) = s.getD (k - 1) 0 - 48 ∧ (s.getD (k - 1) 0 - 48).tmod 2 = (s.getD (k - 1) 0 - 48) % 2 := fun h => by
    have := hkd2 h
    exact ⟨wrap_i64 (by omega), by omega, wrap_u8 (by omega), Int.tmod_eq_emod_of_nonneg (by omega)⟩
  have hne : decide (s = []) = false := decide_eq_false (fun h => by rw [h] at hk; simp at hk)
  refine meets_by ttOk Tryd.func4 Tryd.ntmps4 Tryd.results4 (by kernel_rfl) (c := _) rfl rfl rfl fun E => ?_
  simp only [argsFrame]
  repeat' first
    | (simp only [hne])
    | (with_reducible first | refine PW.seq ?_ | refine PW.block ?_ | refine PW.fork ?_ | refine PW.skip ?_ | refine PW.exit ?_ | refine PW.ret ?_)
    | (with_reducible refine PW.region ttOk ?_ ?_
       · rfl)
    | (with_reducible refine PW.regionD ttOk mixed ?_ ?_ ?_
       · rfl
       · rfl)
    | (with_reducible refine ifW_dec (fun g => ?_) (fun g => ?_) <;> first | (exfalso; omega) | (simp -dsimp only [g, wkI]))
    | (with_reducible refine condE_dec (fun g => ?_) (fun g => ?_) <;> try (exfalso; omega))
    | (with_reducible refine condE_not (fun g => ?_) (fun g => ?_) <;> try (exfalso; omega))
    | (simp -dsimp only [↓wkA, wkB, ↓tt, Nat.reduceBEq, Nat.reduceEqDiff, ↓reduceIte, Nat.reduceLT, Array.toList, Nat.reduceAdd, Nat.reduceMul, Int.reduceToNat, Int.reducePow, UInt8.reduceToNat])
    | (simp -dsimp (disch := first | assumption | omega) only [dec_t, dec_f])
    | (refine And.intro ?_ ?_
       · first | omega | decide | (simp (disch := omega) only [wkW, Int.reduceToNat, Int.reducePow] <;> omega) | (simp <;> omega))
    | (simp (disch := omega) only [wkW, Int.reduceToNat, Int.reducePow])
    | fail
  refine PW.meetB (fun F H => F = [(0, .str s), (1, .int .i64 (k : Int)), (2, .bool (decide (mo = 1)))] ∧ H = ⟨0, [], [], []⟩) ?_ ?_
  · refine PW.loopA (fun m F H => ∃ i, i + m = s.length ∧ F = [(9, .int .i64 (i : Int)), (0, .str s), (1, .int .i64 (k : Int)), (2, .bool (decide (mo = 1)))] ∧ H = ⟨0, [], [], []⟩) s.length [(9, .int .i64 ((0 : Nat) : Int)), (0, .str s), (1, .int .i64 (k : Int)), (2, .bool (decide (mo = 1)))] ⟨0, [], [], []⟩ (Sub.norm ⟨rfl, rfl, rfl, rfl, trivial⟩ trivial (Nat.le_refl _) rfl rfl rfl rfl) ⟨0, by omega, rfl, rfl⟩ ?_
    rintro m F H ⟨i, hi, rfl, rfl⟩
    cases m with
    | zero =>
      obtain rfl : i = s.length := by omega
      repeat' first
        | (with_reducible first | refine PW.seq ?_ | refine PW.block ?_ | refine PW.fork ?_ | refine PW.skip ?_ | refine PW.exit ?_ | refine PW.ret ?_)
        | (with_reducible refine PW.region ttOk ?_ ?_
           · rfl)
        | (with_reducible refine PW.regionD ttOk mixed ?_ ?_ ?_
           · rfl
           · rfl)
        | (with_reducible refine ifW_dec (fun g => ?_) (fun g => ?_) <;> first | (exfalso; omega) | (simp -dsimp only [g, wkI]))
        | (with_reducible refine condE_dec (fun g => ?_) (fun g => ?_) <;> try (exfalso; omega))
        | (with_reducible refine condE_not (fun g => ?_) (fun g => ?_) <;> try (exfalso; omega))
        | (simp -dsimp only [↓wkA, wkB, ↓tt, Nat.reduceBEq, Nat.reduceEqDiff, ↓reduceIte, Nat.reduceLT, Array.toList, Nat.reduceAdd, Nat.reduceMul, Int.reduceToNat, Int.reducePow, UInt8.reduceToNat])
        | (simp -dsimp (disch := first | assumption | omega) only [dec_t, dec_f])
        | (refine And.intro ?_ ?_
           · first | omega | decide | (simp (disch := omega) only [wkW, Int.reduceToNat, Int.reducePow] <;> omega) | (simp <;> omega))
        | (simp (disch := omega) only [wkW, Int.reduceToNat, Int.reducePow])
        | fail
      exact Meet.mk [(0, .str s), (1, .int .i64 (k : Int)), (2, .bool (decide (mo = 1)))] ⟨0, [], [], []⟩ (Sub.norm ⟨rfl, rfl, rfl, trivial⟩ trivial (Nat.le_refl _) rfl rfl rfl rfl) ⟨rfl, rfl⟩
    | succ m =>
      have hx := digs_get hs (show i < s.length by omega)
      repeat' first
        | (simp only [Int.toNat_natCast])
        | (with_reducible first | refine PW.seq ?_ | refine PW.block ?_ | refine PW.fork ?_ | refine PW.skip ?_ | refine PW.exit ?_ | refine PW.ret ?_)
        | (with_reducible refine PW.region ttOk ?_ ?_
           · rfl)
        | (with_reducible refine PW.regionD ttOk mixed ?_ ?_ ?_
           · rfl
           · rfl)
        | (with_reducible refine ifW_dec (fun g => ?_) (fun g => ?_) <;> first | (exfalso; omega) | (simp -dsimp only [g, wkI]))
        | (with_reducible refine condE_dec (fun g => ?_) (fun g => ?_) <;> try (exfalso; omega))
        | (with_reducible refine condE_not (fun g => ?_) (fun g => ?_) <;> try (exfalso; omega))
        | (simp -dsimp only [↓wkA, wkB, ↓tt, Nat.reduceBEq, Nat.reduceEqDiff, ↓reduceIte, Nat.reduceLT, Array.toList, Nat.reduceAdd, Nat.reduceMul, Int.reduceToNat, Int.reducePow, UInt8.reduceToNat])
        | (simp -dsimp (disch := first | assumption | omega) only [dec_t, dec_f])
        | (refine And.intro ?_ ?_
           · first | omega | decide | (simp (disch := omega) only [wkW, Int.reduceToNat, Int.reducePow] <;> omega) | (simp <;> omega))
        | (simp (disch := omega) only [wkW, Int.reduceToNat, Int.reducePow])
        | fail
      exact Again.mk m [(9, .int .i64 ((i + 1 : Nat) : Int)), (0, .str s), (1, .int .i64 (k : Int)), (2, .bool (decide (mo = 1)))] ⟨0, [], [], []⟩ (by omega) (Sub.norm ⟨rfl, rfl, rfl, rfl, trivial⟩ trivial (Nat.le_refl _) rfl rfl rfl rfl) ⟨i + 1, by omega, rfl, rfl⟩
  rintro F H ⟨rfl, rfl⟩
  unfold roundR
  by_cases hdn : s.getD k 0 < 53 ∨ (s.getD k 0 = 53 ∧ mo ≠ 1 ∧ z = 1 ∧ ¬ (0 < k ∧ (s.getD (k - 1) 0 - 48) % 2 = 1))
  · rw [if_pos hdn]
    by_cases hk0 : 0 < k
    · obtain ⟨p1, p2, p3, p4⟩ := hpr hk0
      have hkd2 := hkd2 hk0
      clear hpr
      repeat' first
        | (simp only [Int.toNat_natCast, e1, e3, w3, p1, p2, p3, p4, hdt, hTz, Bool.not_not, Int.sub_zero])
        | (with_reducible first | refine PW.seq ?_ | refine PW.block ?_ | refine PW.fork ?_ | refine PW.skip ?_ | refine PW.exit ?_ | refine PW.ret ?_)
        | (with_reducible refine PW.region ttOk ?_ ?_
           · rfl)
        | (with_reducible refine PW.regionD ttOk mixed ?_ ?_ ?_
           · rfl
           · rfl)
        | (with_reducible refine ifW_dec (fun g => ?_) (fun g => ?_) <;> first | (exfalso; omega) | (simp -dsimp only [g, wkI]))
        | (with_reducible refine condE_dec (fun g => ?_) (fun g => ?_) <;> try (exfalso; omega))
        | (with_reducible refine condE_not (fun g => ?_) (fun g => ?_) <;> try (exfalso; omega))
        | (simp -dsimp only [↓wkA, wkB, ↓tt, Nat.reduceBEq, Nat.reduceEqDiff, ↓reduceIte, Nat.reduceLT, Array.toList, Nat.reduceAdd, Nat.reduceMul, Int.reduceToNat, Int.reducePow, UInt8.reduceToNat])
        | (with_reducible refine ifW_not (fun g => ?_) (fun g => ?_) <;> first | (exfalso; omega) | (simp -dsimp only [g, ifW_tt, ifW_ff, ifW_tf, ifW_ft, decide_true, decide_false, Bool.not_true, Bool.not_false]))
        | (refine call_by ht (views_data rfl) ⟨trivial, trivial, trivial⟩ rfl ?_)
        | (simp -dsimp (disch := first | assumption | omega) only [dec_t, dec_f])
        | (refine And.intro ?_ ?_
           · first | omega | decide | (simp (disch := omega) only [wkW, Int.reduceToNat, Int.reducePow] <;> omega) | (simp <;> omega))
        | (simp (disch := omega) only [wkW, Int.reduceToNat, Int.reducePow])
        | fail
    · obtain rfl : k = 0 := by omega
      repeat' first
        | (simp only [Int.toNat_natCast, e1, e3, w3, hdt, hTz, Bool.not_not, Int.sub_zero])
        | (with_reducible first | refine PW.seq ?_ | refine PW.block ?_ | refine PW.fork ?_ | refine PW.skip ?_ | refine PW.exit ?_ | refine PW.ret ?_)
        | (with_reducible refine PW.region ttOk ?_ ?_
           · rfl)
        | (with_reducible refine PW.regionD ttOk mixed ?_ ?_ ?_
           · rfl
           · rfl)
        | (with_reducible refine ifW_dec (fun g => ?_) (fun g => ?_) <;> first | (exfalso; omega) | (simp -dsimp only [g, wkI]))
        | (with_reducible refine condE_dec (fun g => ?_) (fun g => ?_) <;> try (exfalso; omega))
        | (with_reducible refine condE_not (fun g => ?_) (fun g => ?_) <;> try (exfalso; omega))
        | (simp -dsimp only [↓wkA, wkB, ↓tt, Nat.reduceBEq, Nat.reduceEqDiff, ↓reduceIte, Nat.reduceLT, Array.toList, Nat.reduceAdd, Nat.reduceMul, Int.reduceToNat, Int.reducePow, UInt8.reduceToNat])
        | (with_reducible refine ifW_not (fun g => ?_) (fun g => ?_) <;> first | (exfalso; omega) | (simp -dsimp only [g, ifW_tt, ifW_ff, ifW_tf, ifW_ft, decide_true, decide_false, Bool.not_true, Bool.not_false]))
        | (refine call_by ht (views_data rfl) ⟨trivial, trivial, trivial⟩ rfl ?_)
        | (simp -dsimp (disch := first | assumption | omega) only [dec_t, dec_f])
        | (refine And.intro ?_ ?_
           · first | omega | decide | (simp (disch := omega) only [wkW, Int.reduceToNat, Int.reducePow] <;> omega) | (simp <;> omega))
        | (simp (disch := omega) only [wkW, Int.reduceToNat, Int.reducePow])
        | fail
  rw [if_neg hdn]
  obtain ⟨up, hup⟩ : ∃ up, upD (s.take k) k = up := ⟨_, rfl⟩
  rw [hup]
  by_cases hk0 : 0 < k
  · obtain ⟨p1, p2, p3, p4⟩ := hpr hk0
    have hkd2 := hkd2 hk0
    clear hpr
    repeat' first
      | (simp only [Int.toNat_natCast, e1, e3, w3, p1, p2, p3, p4, hdt, hTz, Bool.not_not, Int.sub_zero])
      | (with_reducible first | refine PW.seq ?_ | refine PW.block ?_ | refine PW.fork ?_ | refine PW.skip ?_ | refine PW.exit ?_ | refine PW.ret ?_)
      | (with_reducible refine PW.region ttOk ?_ ?_
         · rfl)
      | (with_reducible refine PW.regionD ttOk mixed ?_ ?_ ?_
         · rfl
         · rfl)
      | (with_reducible refine ifW_dec (fun g => ?_) (fun g => ?_) <;> first | (exfalso; omega) | (simp -dsimp only [g, wkI]))
      | (with_reducible refine condE_dec (fun g => ?_) (fun g => ?_) <;> try (exfalso; omega))
      | (with_reducible refine condE_not (fun g => ?_) (fun g => ?_) <;> try (exfalso; omega))
      | (simp -dsimp only [↓wkA, wkB, ↓tt, Nat.reduceBEq, Nat.reduceEqDiff, ↓reduceIte, Nat.reduceLT, Array.toList, Nat.reduceAdd, Nat.reduceMul, Int.reduceToNat, Int.reducePow, UInt8.reduceToNat])
      | (with_reducible refine ifW_not (fun g => ?_) (fun g => ?_) <;> first | (exfalso; omega) | (simp -dsimp only [g, ifW_tt, ifW_ff, ifW_tf, ifW_ft, decide_true, decide_false, Bool.not_true, Bool.not_false]))
      | (refine call_by ht (views_data rfl) ⟨trivial, trivial, trivial⟩ rfl ?_)
      | (simp -dsimp (disch := first | assumption | omega) only [dec_t, dec_f])
      | (refine And.intro ?_ ?_
         · first | omega | decide | (simp (disch := omega) only [wkW, Int.reduceToNat, Int.reducePow] <;> omega) | (simp <;> omega))
      | (simp (disch := omega) only [wkW, Int.reduceToNat, Int.reducePow])
      | fail
    all_goals clear ht hTz htz hdn hz hdt
    all_goals
      refine PW.loopA (RdI k up 13 14) k [(14, .int .i64 ((k : Int) - 1)), (13, .sl 0 0 k true)] ⟨1, [(0, .ints .u8 (s.take k))], [], []⟩ (Sub.norm ⟨rfl, congrArg (fun n => PV.sl 0 0 n true) htl, trivial⟩ ⟨rfl, trivial⟩ (Nat.le_refl _) rfl rfl rfl rfl) ⟨s.take k, htl, hrd, Nat.le_refl _, hup, rfl, rfl⟩ ?_
      clear hup hrd htl
      rintro m F H ⟨row, hl, hdg, hm, hu, rfl, rfl⟩
      cases m with
      | zero =>
        obtain rfl : (row, true) = up := hu
        have htk : row.take k = row := List.take_of_length_le (by omega)
        have hb := byteOf_list (digs_bytes hdg)
        repeat' first
          | (simp only [htk, hb])
          | (with_reducible first | refine PW.seq ?_ | refine PW.block ?_ | refine PW.fork ?_ | refine PW.skip ?_ | refine PW.exit ?_ | refine PW.ret ?_)
          | (with_reducible refine PW.region ttOk ?_ ?_
             · rfl)
          | (with_reducible refine PW.regionD ttOk mixed ?_ ?_ ?_
             · rfl
             · rfl)
          | (with_reducible refine ifW_dec (fun g => ?_) (fun g => ?_) <;> first | (exfalso; omega) | (simp -dsimp only [g, wkI]))
          | (with_reducible refine condE_dec (fun g => ?_) (fun g => ?_) <;> try (exfalso; omega))
          | (with_reducible refine condE_not (fun g => ?_) (fun g => ?_) <;> try (exfalso; omega))
          | (simp -dsimp only [↓wkA, wkB, ↓tt, Nat.reduceBEq, Nat.reduceEqDiff, ↓reduceIte, Nat.reduceLT, Array.toList, Nat.reduceAdd, Nat.reduceMul, Int.reduceToNat, Int.reducePow, UInt8.reduceToNat])
          | (simp -dsimp (disch := first | assumption | omega) only [dec_t, dec_f])
          | (refine And.intro ?_ ?_
             · first | omega | decide | (simp (disch := omega) only [wkW, Int.reduceToNat, Int.reducePow] <;> omega) | (simp <;> omega))
          | (simp (disch := omega) only [wkW, Int.reduceToNat, Int.reducePow])
          | fail
      | succ m =>
        have e : ((m + 1 : Nat) : Int) - 1 = (m : Int) := by omega
        have hx := digs_get hdg (show m < row.length by omega)
        rw [upD] at hu
        by_cases h57 : row.getD m 0 = 57
        · rw [if_pos h57] at hu
          have hdg2 := digs_set hdg m (show 48 ≤ (48 : Int) ∧ (48 : Int) ≤ 57 by decide)
          repeat' first
            | (simp only [e, Int.toNat_natCast])
            | (with_reducible first | refine PW.seq ?_ | refine PW.block ?_ | refine PW.fork ?_ | refine PW.skip ?_ | refine PW.exit ?_ | refine PW.ret ?_)
            | (with_reducible refine PW.region ttOk ?_ ?_
               · rfl)
            | (with_reducible refine PW.regionD ttOk mixed ?_ ?_ ?_
               · rfl
               · rfl)
            | (with_reducible refine ifW_dec (fun g => ?_) (fun g => ?_) <;> first | (exfalso; omega) | (simp -dsimp only [g, wkI]))
            | (with_reducible refine condE_dec (fun g => ?_) (fun g => ?_) <;> try (exfalso; omega))
            | (with_reducible refine condE_not (fun g => ?_) (fun g => ?_) <;> try (exfalso; omega))
            | (simp -dsimp only [↓wkA, wkB, ↓tt, Nat.reduceBEq, Nat.reduceEqDiff, ↓reduceIte, Nat.reduceLT, Array.toList, Nat.reduceAdd, Nat.reduceMul, Int.reduceToNat, Int.reducePow, UInt8.reduceToNat])
            | (simp -dsimp (disch := first | assumption | omega) only [dec_t, dec_f])
            | (refine And.intro ?_ ?_
               · first | omega | decide | (simp (disch := omega) only [wkW, Int.reduceToNat, Int.reducePow] <;> omega) | (simp <;> omega))
            | (simp (disch := omega) only [wkW, Int.reduceToNat, Int.reducePow])
            | fail
          exact Again.mk m [(14, .int .i64 ((m : Int) - 1)), (13, .sl 0 0 k true)] ⟨1, [(0, .ints .u8 (row.set m 48))], [], []⟩ (by omega) (Sub.norm ⟨rfl, rfl, trivial⟩ ⟨rfl, trivial⟩ (Nat.le_refl _) rfl rfl rfl rfl) ⟨_, by rw [List.length_set]; exact hl, hdg2, by omega, hu, rfl, rfl⟩
        · rw [if_neg h57] at hu
          have hdg2 := digs_set hdg m (show 48 ≤ row.getD m 0 + 1 ∧ row.getD m 0 + 1 ≤ 57 by omega)
          have hw : IntKind.wrap .u8 (row.getD m 0 + 1) = row.getD m 0 + 1 := wrap_u8 (by omega)
          have hb := byteOf_list (digs_bytes hdg2)
          have hl2 : (row.set m (row.getD m 0 + 1)).length = k := by rw [List.length_set]; exact hl
          have htk : (row.set m (row.getD m 0 + 1)).take k = row.set m (row.getD m 0 + 1) := List.take_of_length_le (by omega)
          subst hu
          obtain ⟨y, hy⟩ : ∃ y, row.getD m 0 = y := ⟨_, rfl⟩
          rw [hy] at hx h57 hw hb htk hl2 hdg2 ⊢
          repeat' first
            | (simp only [e, hy, hw, Int.toNat_natCast, htk, hb])
            | (with_reducible first | refine PW.seq ?_ | refine PW.block ?_ | refine PW.fork ?_ | refine PW.skip ?_ | refine PW.exit ?_ | refine PW.ret ?_)
            | (with_reducible refine PW.region ttOk ?_ ?_
               · rfl)
            | (with_reducible refine PW.regionD ttOk mixed ?_ ?_ ?_
               · rfl
               · rfl)
            | (with_reducible refine ifW_dec (fun g => ?_) (fun g => ?_) <;> first | (exfalso; omega) | (simp -dsimp only [g, wkI]))
            | (with_reducible refine condE_dec (fun g => ?_) (fun g => ?_) <;> try (exfalso; omega))
            | (with_reducible refine condE_not (fun g => ?_) (fun g => ?_) <;> try (exfalso; omega))
            | (simp -dsimp only [↓wkA, wkB, ↓tt, Nat.reduceBEq, Nat.reduceEqDiff, ↓reduceIte, Nat.reduceLT, Array.toList, Nat.reduceAdd, Nat.reduceMul, Int.reduceToNat, Int.reducePow, UInt8.reduceToNat])
            | (simp -dsimp (disch := first | assumption | omega) only [dec_t, dec_f])
            | (refine And.intro ?_ ?_
               · first | omega | decide | (simp (disch := omega) only [wkW, Int.reduceToNat, Int.reducePow] <;> omega) | (simp <;> omega))
            | (simp (disch := omega) only [wkW, Int.reduceToNat, Int.reducePow])
            | fail
  · obtain rfl : k = 0 := by omega
    obtain rfl := hup
    repeat' first
      | (simp only [Int.toNat_natCast, e1, e3, w3, hdt, hTz, Bool.not_not, Int.sub_zero])
      | (with_reducible first | refine PW.seq ?_ | refine PW.block ?_ | refine PW.fork ?_ | refine PW.skip ?_ | refine PW.exit ?_ | refine PW.ret ?_)
      | (with_reducible refine PW.region ttOk ?_ ?_
         · rfl)
      | (with_reducible refine PW.regionD ttOk mixed ?_ ?_ ?_
         · rfl
         · rfl)
      | (with_reducible refine ifW_dec (fun g => ?_) (fun g => ?_) <;> first | (exfalso; omega) | (simp -dsimp only [g, wkI]))
      | (with_reducible refine condE_dec (fun g => ?_) (fun g => ?_) <;> try (exfalso; omega))
      | (with_reducible refine condE_not (fun g => ?_) (fun g => ?_) <;> try (exfalso; omega))
      | (simp -dsimp only [↓wkA, wkB, ↓tt, Nat.reduceBEq, Nat.reduceEqDiff, ↓reduceIte, Nat.reduceLT, Array.toList, Nat.reduceAdd, Nat.reduceMul, Int.reduceToNat, Int.reducePow, UInt8.reduceToNat])
      | (with_reducible refine ifW_not (fun g => ?_) (fun g => ?_) <;> first | (exfalso; omega) | (simp -dsimp only [g, ifW_tt, ifW_ff, ifW_tf, ifW_ft, decide_true, decide_false, Bool.not_true, Bool.not_false]))
      | (refine call_by ht (views_data rfl) ⟨trivial, trivial, trivial⟩ rfl ?_)
      | (simp -dsimp (disch := first | assumption | omega) only [dec_t, dec_f])
      | (refine And.intro ?_ ?_
         · first | omega | decide | (simp (disch := omega) only [wkW, Int.reduceToNat, Int.reducePow] <;> omega) | (simp <;> omega))
      | (simp (disch := omega) only [wkW, Int.reduceToNat, Int.reducePow])
      | fail
    all_goals refine PW.loopA (fun m F H => F = [(14, .int .i64 (-1)), (13, .sl 0 0 0 true)] ∧ H = ⟨1, [(0, .ints .u8 [])], [], []⟩) 0 [(14, .int .i64 (-1)), (13, .sl 0 0 0 true)] ⟨1, [(0, .ints .u8 [])], [], []⟩ (Sub.norm ⟨rfl, rfl, trivial⟩ ⟨rfl, trivial⟩ (Nat.le_refl _) rfl rfl rfl rfl) ⟨rfl, rfl⟩ ?_
    all_goals rintro m F H ⟨rfl, rfl⟩
    all_goals
      repeat' first
        | (with_reducible first | refine PW.seq ?_ | refine PW.block ?_ | refine PW.fork ?_ | refine PW.skip ?_ | refine PW.exit ?_ | refine PW.ret ?_)
        | (with_reducible refine PW.region ttOk ?_ ?_
           · rfl)
        | (with_reducible refine PW.regionD ttOk mixed ?_ ?_ ?_
           · rfl
           · rfl)
        | (with_reducible refine ifW_dec (fun g => ?_) (fun g => ?_) <;> first | (exfalso; omega) | (simp -dsimp only [g, wkI]))
        | (with_reducible refine condE_dec (fun g => ?_) (fun g => ?_) <;> try (exfalso; omega))
        | (with_reducible refine condE_not (fun g => ?_) (fun g => ?_) <;> try (exfalso; omega))
        | (simp -dsimp only [↓wkA, wkB, ↓tt, Nat.reduceBEq, Nat.reduceEqDiff, ↓reduceIte, Nat.reduceLT, Array.toList, Nat.reduceAdd, Nat.reduceMul, Int.reduceToNat, Int.reducePow, UInt8.reduceToNat])
        | (simp -dsimp (disch := first | assumption | omega) only [dec_t, dec_f])
        | (refine And.intro ?_ ?_
           · first | omega | decide | (simp (disch := omega) only [wkW, Int.reduceToNat, Int.reducePow] <;> omega) | (simp <;> omega))
        | (simp (disch := omega) only [wkW, Int.reduceToNat, Int.reducePow])
        | fail
    all_goals rfl
end Go.Proofs.YtjfakpogfakicaaDoor


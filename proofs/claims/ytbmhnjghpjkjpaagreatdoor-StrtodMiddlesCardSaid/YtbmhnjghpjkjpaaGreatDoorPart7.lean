/- Contracts and laws that the row leans on, part 7: texts that were built one by one, laid together. -/
import Derived.Test.YtbmhnjghpjkjpaaGreatDoorPart6
set_option maxHeartbeats 4000000
set_option maxRecDepth 4000
set_option exponentiation.threshold 300000
set_option linter.unusedVariables false
set_option linter.unusedSimpArgs false
namespace Go.Proofs.YtbmhnjghpjkjpaaGreatDoor
open Go Go.PV
structure RaiS (a o : List Int) (s n i : Nat) : Prop where
  len : o.length = n
  lim : Limbs o
  eq : i < n → vt o (i + 1) = 2 ^ s * vt a i ∧ o.getD i 0 < 2 ^ s
  fin : i = n → vt o n = 2 ^ s * vt a n
  rest : ∀ k, i < k → o.getD k 0 = 0
theorem RaiS.step {a o : List Int} {s n i : Nat} (h : RaiS a o s n i) (ha : Limbs a) (hs : s < 64) (hi : i < a.length) (hn : i < n) {x : Int} (hx : a.getD i 0 = x) (hfit : i + 1 = n → x * 2 ^ s / B64 = 0) :
    RaiS a (if i + 1 < n then (o.set i (o.getD i 0 + x * 2 ^ s % B64)).set (i + 1) (x * 2 ^ s / B64) else o.set i (o.getD i 0 + x * 2 ^ s % B64)) s n (i + 1) := by
  have hxl := getD_limb ha i
  rw [hx] at hxl
  obtain ⟨p1, p2, p3, p4⟩ := shl_parts s hs hxl
  obtain ⟨e1, e2⟩ := h.eq hn
  have hol := h.len
  have hlo := getD_limb h.lim i
  have h0 : 0 ≤ x * 2 ^ s % B64 := Int.emod_nonneg _ (by decide)
  have hsum : B64 * (x * 2 ^ s / B64) + x * 2 ^ s % B64 = x * 2 ^ s := Int.mul_ediv_add_emod _ _
  have hP : (2 : Int) ^ s ≤ 2 ^ 63 := by exact_mod_cast Nat.pow_le_pow_right (by decide) (show s ≤ 63 by omega)
  have hP2 : (2 : Int) ^ 63 = 9223372036854775808 := by decide
  have hnew : 0 ≤ o.getD i 0 + x * 2 ^ s % B64 ∧ o.getD i 0 + x * 2 ^ s % B64 < B64 := by simp only [B64] at *; omega
  have hhi : 0 ≤ x * 2 ^ s / B64 ∧ x * 2 ^ s / B64 < B64 := by simp only [B64] at *; omega
  have hvt : vt (o.set i (o.getD i 0 + x * 2 ^ s % B64)) (i + 1) + B64 ^ (i + 1) * (x * 2 ^ s / B64) = 2 ^ s * vt a (i + 1) := by
    simp only [vt] at e1 ⊢
    rw [vt_set_ge _ _ _ _ (by omega) (Nat.le_refl _), getD_set _ _ _ _ (by omega), if_pos rfl, hx, Int.pow_succ]
    generalize B64 ^ i = p at *
    generalize x * 2 ^ s / B64 = q at *
    generalize x * 2 ^ s % B64 = r at *
    generalize B64 = bb at *
    grind
  by_cases hc : i + 1 < n
  · rw [if_pos hc]
    refine ⟨by rw [List.length_set, List.length_set, hol], limbs_set (limbs_set h.lim _ hnew) _ hhi, fun _ => ⟨?_, ?_⟩, fun e => by omega, fun k hk => ?_⟩
    · rw [← hvt]
      simp only [vt]
      rw [vt_set_ge _ _ _ _ (by rw [List.length_set]; omega) (by omega), vt_set_ge _ _ _ _ (by omega) (Nat.le_refl _), getD_set _ _ _ _ (by rw [List.length_set]; omega), if_neg (by omega), getD_set _ _ _ _ (by omega), if_pos rfl, getD_set _ _ _ _ (by rw [List.length_set]; omega), if_pos rfl]
    · rw [getD_set _ _ _ _ (by rw [List.length_set]; omega), if_pos rfl]; exact p1
    · rw [getD_set _ _ _ _ (by rw [List.length_set]; omega), if_neg (by omega), getD_set _ _ _ _ (by omega), if_neg (by omega)]; exact h.rest k (by omega)
  · rw [if_neg hc]
    refine ⟨by rw [List.length_set, hol], limbs_set h.lim _ hnew, fun e => absurd e hc, fun e => ?_, fun k hk => ?_⟩
    · rw [hfit e, Int.mul_zero, Int.add_zero] at hvt
      rw [← e]; exact hvt
    · rw [getD_set _ _ _ _ (by omega), if_neg (by omega)]; exact h.rest k (by omega)
abbrev raF (a : List Int) (s n r : Nat) (i : Nat) : PV.Frame := [(14, .int .i64 (i : Int)), (13, .int .i64 a.length), (12, .ints .u64 a), (7, .sl r 0 n true), (1, .int .i64 (s : Int)), (2, .int .i64 (n : Int))]
theorem raised_h (a : List Int) (ha : Limbs a) (s n : Nat) (hs : s < 64) (hn : n ≤ 5000) (han : a.length ≤ n) (v : Nat) (hv : val a * 2 ^ s = v) (hvn : v < 18446744073709551616 ^ n) (nx : Nat) (rows : List (Nat × PV.Row)) (gg : List PV.Frame) (ty : List (Nat × TypeId)) :
    HMeets Tryz.prog 204 [.ints .u64 a, .int .i64 (s : Int), .int .i64 (n : Int)] ⟨nx, rows, gg, ty⟩ fun res H' => ∃ o, o.length = n ∧ Limbs o ∧ val o = v ∧ res = .sl nx 0 n true ∧ H' = ⟨nx + 1, setRow rows nx (.ints .u64 o), gg, (nx, 27) :: ty⟩ := by
  refine hmeets_by ttOk Tryz.func204 Tryz.ntmps204 Tryz.results204 (by kernel_rfl) (c := _) rfl rfl fun E => ?_
  simp only [argsFrame]
  repeat' first
    | (simp only [Int.toNat_natCast, getRow_setRow_self, Go.PV.setRow_setRow])
    | (with_reducible first | refine PW.seq ?_ | refine PW.block ?_ | refine PW.fork ?_ | refine PW.skip ?_ | refine PW.exit ?_ | refine PW.ret ?_ | refine PW.scope ?_ | refine PW.label ?_ | refine PW.goto ?_)
    | (with_reducible refine PW.region ttOk ?_ ?_
       · rfl)
    | (with_reducible refine PW.regionD ttOk mixed ?_ ?_ ?_
       · rfl
       · rfl)
    | (with_reducible refine ifW_dec (fun g => ?_) (fun g => ?_) <;> first | (exfalso; omega) | (simp -dsimp only [g, wkI]))
    | (with_reducible refine condE_dec (fun g => ?_) (fun g => ?_) <;> try (exfalso; omega))
    | (with_reducible refine condE_not (fun g => ?_) (fun g => ?_) <;> try (exfalso; omega))
    | (simp -dsimp only [↓wkA, ↓wkE, ↓wkJ, wkB, ↓tt, Nat.reduceBEq, Nat.reduceEqDiff, ↓reduceIte, Nat.reduceLT, Array.toList, Nat.reduceAdd, Nat.reduceMul, Int.reduceToNat, Int.reducePow, UInt8.reduceToNat])
    | (simp -dsimp (disch := first | assumption | omega) only [dec_t, dec_f])
    | (refine And.intro ?_ ?_
       · first | omega | decide | (simp (disch := omega) only [wkW, Int.reduceToNat, Int.reducePow] <;> omega) | (simp <;> omega))
    | (simp (disch := omega) only [wkW, Int.reduceToNat, Int.reducePow])
    | fail
  refine PW.loopA (fun m F H => ∃ i o, i + m = a.length ∧ RaiS a o s n i ∧ F = raF a s n nx i ∧ H = ⟨nx + 1, setRow rows nx (.ints .u64 o), gg, (nx, 27) :: ty⟩) a.length (raF a s n nx 0) ⟨nx + 1, setRow rows nx (.ints .u64 (List.replicate n 0)), gg, (nx, 27) :: ty⟩ (Sub.less ⟨rfl, rfl, rfl, rfl, rfl, rfl, trivial⟩ (fun _ _ h => h) rfl rfl) ⟨0, _, by omega, ⟨by simp, limbs_zeros _, fun _ => ⟨by rw [vt_zeros]; simp [vt], by rw [getD_zeros]; exact Int.pow_pos (by decide)⟩, fun e => by rw [vt_zeros, ← e]; simp [vt], fun k _ => getD_zeros _ _⟩, rfl, rfl⟩ ?_
  rintro m F H ⟨i, o, hi, hS, rfl, rfl⟩
  have hol := hS.len
  cases m with
  | zero =>
    obtain rfl : i = a.length := by omega
    have hval : val o = v := by
      rw [← hv]
      have hup := (vt_bound hS.lim n).2
      by_cases hc : a.length = n
      · have := hS.fin hc
        unfold val
        rw [hol, this, hc, Int.mul_comm]
      · obtain ⟨e1, _⟩ := hS.eq (by omega)
        unfold val
        rw [hol, Int.mul_comm, ← e1]
        have : ∀ k, a.length + 1 ≤ k → vt o k = vt o (a.length + 1) := fun k hk => by
          induction k with
          | zero => omega
          | succ k ih =>
            by_cases h : k = a.length
            · rw [h]
            · simp only [vt]
              rw [ih (by omega), hS.rest k (by omega)]
              simp [vt]
        exact this n (by omega)
    clear hvn
    repeat' first
      | (simp only [Int.toNat_natCast, getRow_setRow_self, Go.PV.setRow_setRow])
      | (with_reducible first | refine PW.seq ?_ | refine PW.block ?_ | refine PW.fork ?_ | refine PW.skip ?_ | refine PW.exit ?_ | refine PW.ret ?_ | refine PW.scope ?_ | refine PW.label ?_ | refine PW.goto ?_)
      | (with_reducible refine PW.region ttOk ?_ ?_
         · rfl)
      | (with_reducible refine PW.regionD ttOk mixed ?_ ?_ ?_
         · rfl
         · rfl)
      | (with_reducible refine ifW_dec (fun g => ?_) (fun g => ?_) <;> first | (exfalso; omega) | (simp -dsimp only [g, wkI]))
      | (with_reducible refine condE_dec (fun g => ?_) (fun g => ?_) <;> try (exfalso; omega))
      | (with_reducible refine condE_not (fun g => ?_) (fun g => ?_) <;> try (exfalso; omega))
      | (simp -dsimp only [↓wkA, ↓wkE, ↓wkJ, wkB, ↓tt, Nat.reduceBEq, Nat.reduceEqDiff, ↓reduceIte, Nat.reduceLT, Array.toList, Nat.reduceAdd, Nat.reduceMul, Int.reduceToNat, Int.reducePow, UInt8.reduceToNat])
      | (simp -dsimp (disch := first | assumption | omega) only [dec_t, dec_f])
      | (refine And.intro ?_ ?_
         · first | omega | decide | (simp (disch := omega) only [wkW, Int.reduceToNat, Int.reducePow] <;> omega) | (simp <;> omega))
      | (simp (disch := omega) only [wkW, Int.reduceToNat, Int.reducePow])
      | fail
    exact ⟨o, hol, hS.lim, hval, rfl⟩
  | succ m =>
    have hx := getD_limb ha i
    have hlo := getD_limb hS.lim i
    obtain ⟨p1, p2, p3, p4⟩ := shl_parts s hs hx
    have hfit : i + 1 = n → a.getD i 0 * 2 ^ s / B64 = 0 := fun e => by
      -- the highest limb's high part counts B^n
      obtain ⟨e1, _⟩ := hS.eq (by omega)
      have hb := (vt_bound ha i).1
      have hval : val a = vt a i + B64 ^ i * a.getD i 0 := by
        unfold val
        rw [show a.length = i + 1 by omega]
        rfl
      have h1 : val a * 2 ^ s < B64 ^ n := by
        rw [hv]
        have e : B64 ^ n = ((18446744073709551616 ^ n : Nat) : Int) := by rw [Int.natCast_pow]; rfl
        rw [e]; exact Int.ofNat_lt.2 hvn
      have h2 : B64 ^ i * (a.getD i 0 * 2 ^ s) ≤ val a * 2 ^ s := by
        rw [hval, Int.add_mul, ← Int.mul_assoc]
        have := Int.mul_nonneg hb (show (0 : Int) ≤ 2 ^ s from Int.le_of_lt (Int.pow_pos (by decide)))
        omega
      have h3 : a.getD i 0 * 2 ^ s < B64 := by
        have : B64 ^ i * (a.getD i 0 * 2 ^ s) < B64 ^ i * B64 := by rw [← Int.pow_succ, show i.succ = n from e]; omega
        exact Int.lt_of_mul_lt_mul_left this (Int.le_of_lt (pow_pos64 i))
      exact Int.ediv_eq_zero_of_lt (Int.mul_nonneg hx.1 (Int.le_of_lt (Int.pow_pos (by decide)))) h3
    have hstep := hS.step ha hs (by omega) (by omega) rfl hfit
    obtain ⟨_, e2⟩ := hS.eq (by omega)
    generalize hax : a.getD i 0 = x at *
    have hQ : (18446744073709551616 : Int) = 2 ^ (64 - s) * 2 ^ s := by rw [← Int.pow_add, show 64 - s + s = 64 by omega]; rfl
    have hshl : IntKind.wrap .u64 (x * 2 ^ min s 64) = x * 2 ^ s % B64 := by rw [wrap_u64', Nat.min_eq_left (by omega)]
    have hor : ibits .or .u64 (o.getD i 0) (x * 2 ^ s % B64) = o.getD i 0 + x * 2 ^ s % B64 := by
      have h0 : 0 ≤ x * 2 ^ s % B64 := Int.emod_nonneg _ (by decide)
      refine or_apart s ⟨hlo.1, e2⟩ ⟨h0, ?_⟩ p2 ?_
      · simp only [B64] at *; omega
      · simp only [B64] at *; omega
    have hshr : s ≠ 0 → x.fdiv (2 ^ min (64 - s) 64) = x * 2 ^ s / B64 := fun h => by
      rw [Nat.min_eq_left (by omega), Int.fdiv_eq_ediv_of_nonneg _ (Int.le_of_lt (Int.pow_pos (by decide)))]
      simp only [B64]
      rw [hQ, Int.mul_ediv_mul_of_pos_left _ _ (Int.pow_pos (by decide))]
    have hs0 : s = 0 → x * 2 ^ s / B64 = 0 := fun h => by
      subst h
      rw [Int.pow_zero, Int.mul_one]
      exact Int.ediv_eq_zero_of_lt hx.1 hx.2
    have hset0 : s = 0 → i + 1 < n → (o.set i (o.getD i 0 + x * 2 ^ s % B64)).set (i + 1) (x * 2 ^ s / B64) = o.set i (o.getD i 0 + x * 2 ^ s % B64) := fun h h2 => by
      rw [hs0 h]
      refine list_ext (by simp) fun j hj => ?_
      rw [List.length_set, List.length_set] at hj
      rw [getD_set _ _ _ _ (by rw [List.length_set]; omega)]
      split
      · rename_i e
        rw [e, getD_set _ _ _ _ (by omega), if_neg (by omega)]
        exact (hS.rest _ (by omega)).symm
      · rfl
    have w1 : IntKind.wrap .u64 (s : Int) = (s : Int) := wrap_u64 (by omega)
    have w2 : IntKind.wrap .i64 ((i : Int) + 1) = ((i + 1 : Nat) : Int) := wrap_i64 (by omega)
    have w3 : IntKind.wrap .i64 (64 - (s : Int)) = ((64 - s : Nat) : Int) := by rw [wrap_i64 (by omega)]; omega
    have w4 : IntKind.wrap .u64 ((64 - s : Nat) : Int) = ((64 - s : Nat) : Int) := wrap_u64 (by omega)
    clear hQ p1 p2 p3 p4 hfit e2 hvn hx hlo
    have again : ∀ o', o' = (if i + 1 < n then (o.set i (o.getD i 0 + x * 2 ^ s % B64)).set (i + 1) (x * 2 ^ s / B64) else o.set i (o.getD i 0 + x * 2 ^ s % B64)) → RaiS a o' s n (i + 1) := fun o' h => by rw [h]; exact hstep
    clear hstep
    generalize x * 2 ^ s % B64 = lo at *
    generalize x * 2 ^ s / B64 = hi' at *
    by_cases hc : i + 1 < n
    · rw [if_pos hc] at again
      by_cases h0 : s = 0
      · have hset := hset0 h0 hc
        have d0 : decide (0 < (s : Int)) = false := decide_eq_false (by omega)
        repeat' first
          | (simp only [hax, Int.toNat_natCast, getRow_setRow_self, Go.PV.setRow_setRow, w1, w2, w3, w4, hshl, hor, d0])
          | (with_reducible first | refine PW.seq ?_ | refine PW.block ?_ | refine PW.fork ?_ | refine PW.skip ?_ | refine PW.exit ?_ | refine PW.ret ?_ | refine PW.scope ?_ | refine PW.label ?_ | refine PW.goto ?_)
          | (with_reducible refine PW.region ttOk ?_ ?_
             · rfl)
          | (with_reducible refine PW.regionD ttOk mixed ?_ ?_ ?_
             · rfl
             · rfl)
          | (with_reducible refine ifW_dec (fun g => ?_) (fun g => ?_) <;> first | (exfalso; omega) | (simp -dsimp only [g, wkI]))
          | (with_reducible refine condE_dec (fun g => ?_) (fun g => ?_) <;> try (exfalso; omega))
          | (with_reducible refine condE_not (fun g => ?_) (fun g => ?_) <;> try (exfalso; omega))
          | (simp -dsimp only [↓wkA, ↓wkE, ↓wkJ, wkB, ↓tt, Nat.reduceBEq, Nat.reduceEqDiff, ↓reduceIte, Nat.reduceLT, Array.toList, Nat.reduceAdd, Nat.reduceMul, Int.reduceToNat, Int.reducePow, UInt8.reduceToNat])
          | (simp -dsimp (disch := first | assumption | omega) only [dec_t, dec_f])
          | (refine And.intro ?_ ?_
             · first | omega | decide | (simp (disch := omega) only [wkW, Int.reduceToNat, Int.reducePow] <;> omega) | (simp <;> omega))
          | (simp (disch := omega) only [wkW, Int.reduceToNat, Int.reducePow])
          | fail
        exact Again.mk m (raF a s n nx (i + 1)) ⟨nx + 1, setRow rows nx (.ints .u64 (o.set i (o.getD i 0 + lo))), gg, (nx, 27) :: ty⟩ (by omega) (Sub.less ⟨rfl, rfl, rfl, rfl, rfl, rfl, trivial⟩ (fun _ _ h => h) rfl rfl) ⟨i + 1, _, by omega, again _ hset.symm, rfl, rfl⟩
      · have hsh := hshr h0
        have d0 : decide (0 < (s : Int)) = true := decide_eq_true (by omega)
        repeat' first
          | (simp only [hax, Int.toNat_natCast, getRow_setRow_self, Go.PV.setRow_setRow, w1, w2, w3, w4, hshl, hor, d0, hsh])
          | (with_reducible first | refine PW.seq ?_ | refine PW.block ?_ | refine PW.fork ?_ | refine PW.skip ?_ | refine PW.exit ?_ | refine PW.ret ?_ | refine PW.scope ?_ | refine PW.label ?_ | refine PW.goto ?_)
          | (with_reducible refine PW.region ttOk ?_ ?_
             · rfl)
          | (with_reducible refine PW.regionD ttOk mixed ?_ ?_ ?_
             · rfl
             · rfl)
          | (with_reducible refine ifW_dec (fun g => ?_) (fun g => ?_) <;> first | (exfalso; omega) | (simp -dsimp only [g, wkI]))
          | (with_reducible refine condE_dec (fun g => ?_) (fun g => ?_) <;> try (exfalso; omega))
          | (with_reducible refine condE_not (fun g => ?_) (fun g => ?_) <;> try (exfalso; omega))
          | (simp -dsimp only [↓wkA, ↓wkE, ↓wkJ, wkB, ↓tt, Nat.reduceBEq, Nat.reduceEqDiff, ↓reduceIte, Nat.reduceLT, Array.toList, Nat.reduceAdd, Nat.reduceMul, Int.reduceToNat, Int.reducePow, UInt8.reduceToNat])
          | (simp -dsimp (disch := first | assumption | omega) only [dec_t, dec_f])
          | (refine And.intro ?_ ?_
             · first | omega | decide | (simp (disch := omega) only [wkW, Int.reduceToNat, Int.reducePow] <;> omega) | (simp <;> omega))
          | (simp (disch := omega) only [wkW, Int.reduceToNat, Int.reducePow])
          | fail
        exact Again.mk m (raF a s n nx (i + 1)) ⟨nx + 1, setRow rows nx (.ints .u64 ((o.set i (o.getD i 0 + lo)).set (i + 1) hi')), gg, (nx, 27) :: ty⟩ (by omega) (Sub.less ⟨rfl, rfl, rfl, rfl, rfl, rfl, trivial⟩ (fun _ _ h => h) rfl rfl) ⟨i + 1, _, by omega, again _ rfl, rfl, rfl⟩
    · rw [if_neg hc] at again
      repeat' first
        | (simp only [hax, Int.toNat_natCast, getRow_setRow_self, Go.PV.setRow_setRow, w1, w2, w3, w4, hshl, hor])
        | (with_reducible first | refine PW.seq ?_ | refine PW.block ?_ | refine PW.fork ?_ | refine PW.skip ?_ | refine PW.exit ?_ | refine PW.ret ?_ | refine PW.scope ?_ | refine PW.label ?_ | refine PW.goto ?_)
        | (with_reducible refine PW.region ttOk ?_ ?_
           · rfl)
        | (with_reducible refine PW.regionD ttOk mixed ?_ ?_ ?_
           · rfl
           · rfl)
        | (with_reducible refine ifW_dec (fun g => ?_) (fun g => ?_) <;> first | (exfalso; omega) | (simp -dsimp only [g, wkI]))
        | (with_reducible refine condE_dec (fun g => ?_) (fun g => ?_) <;> try (exfalso; omega))
        | (with_reducible refine condE_not (fun g => ?_) (fun g => ?_) <;> try (exfalso; omega))
        | (simp -dsimp only [↓wkA, ↓wkE, ↓wkJ, wkB, ↓tt, Nat.reduceBEq, Nat.reduceEqDiff, ↓reduceIte, Nat.reduceLT, Array.toList, Nat.reduceAdd, Nat.reduceMul, Int.reduceToNat, Int.reducePow, UInt8.reduceToNat])
        | (simp -dsimp (disch := first | assumption | omega) only [dec_t, dec_f])
        | (refine And.intro ?_ ?_
           · first | omega | decide | (simp (disch := omega) only [wkW, Int.reduceToNat, Int.reducePow] <;> omega) | (simp <;> omega))
        | (simp (disch := omega) only [wkW, Int.reduceToNat, Int.reducePow])
        | fail
      exact Again.mk m (raF a s n nx (i + 1)) ⟨nx + 1, setRow rows nx (.ints .u64 (o.set i (o.getD i 0 + lo))), gg, (nx, 27) :: ty⟩ (by omega) (Sub.less ⟨rfl, rfl, rfl, rfl, rfl, rfl, trivial⟩ (fun _ _ h => h) rfl rfl) ⟨i + 1, _, by omega, again _ rfl, rfl, rfl⟩
theorem vt_split (l : List Int) (j : Nat) : ∀ k, vt l (j + k) = vt l j + B64 ^ j * vt (l.drop j) k
  | 0 => by simp [vt]
  | k + 1 => by
    rw [← Nat.add_assoc]
    simp only [vt]
    rw [vt_split l j k, getD_drop', Int.pow_add]
    generalize vt (l.drop j) k = y
    generalize B64 ^ j = p
    generalize B64 ^ k = q
    generalize l.getD (j + k) 0 = z
    grind
theorem limbs_drop {l : List Int} (h : Limbs l) (n : Nat) : Limbs (l.drop n) := fun x hx => h x (List.mem_of_mem_drop hx)
theorem vt_low {l : List Int} (h : Limbs l) {n : Nat} (hn : 1 ≤ n) : ∃ lo : Int, 0 ≤ lo ∧ lo < B64 ^ (n - 1) ∧ vt l n = lo + B64 ^ (n - 1) * l.getD (n - 1) 0 := by
  obtain ⟨j, rfl⟩ : ∃ j, n = j + 1 := ⟨n - 1, by omega⟩
  rw [Nat.add_sub_cancel]
  obtain ⟨h1, h2⟩ := vt_bound h j
  exact ⟨vt l j, h1, h2, rfl⟩
def guessV (p v : List Int) (n : Nat) : Int := if v.getD (n - 1) 0 ≤ p.getD n 0 then 18446744073709551615 else (p.getD n 0 * B64 + p.getD (n - 1) 0) / v.getD (n - 1) 0
theorem quot_guess (p v : List Int) (n : Nat) (hp : Limbs p) (hv : Limbs v) (hpl : p.length = n + 1) (hvl : v.length = n) (hn : 1 ≤ n ∧ n ≤ 5000) (hv0 : 0 < v.getD (n - 1) 0) : Meets Tryz.prog 205 [.ints .u64 p, .ints .u64 v] (.int .u64 (guessV p v n)) := by
  have hx := getD_limb hp n
  have hy := getD_limb hp (n - 1)
  have hz := getD_limb hv (n - 1)
  have w1 : IntKind.wrap .i64 ((n : Int) - 1) = ((n - 1 : Nat) : Int) := by rw [wrap_i64 (by omega)]; omega
  unfold guessV
  by_cases hc : v.getD (n - 1) 0 ≤ p.getD n 0
  · rw [if_pos hc]
    have d1 : decide (v.getD (n - 1) 0 ≤ p.getD n 0) = true := decide_eq_true hc
    refine meets_by ttOk Tryz.func205 Tryz.ntmps205 Tryz.results205 (by kernel_rfl) (c := _) rfl rfl rfl fun E => ?_
    simp only [argsFrame]
    repeat' first
      | (simp only [hvl, w1, d1, Int.toNat_natCast])
      | (with_reducible first | refine PW.seq ?_ | refine PW.block ?_ | refine PW.fork ?_ | refine PW.skip ?_ | refine PW.exit ?_ | refine PW.ret ?_ | refine PW.scope ?_ | refine PW.label ?_ | refine PW.goto ?_)
      | (with_reducible refine PW.region ttOk ?_ ?_
         · rfl)
      | (with_reducible refine PW.regionD ttOk mixed ?_ ?_ ?_
         · rfl
         · rfl)
      | (with_reducible refine ifW_dec (fun g => ?_) (fun g => ?_) <;> first | (exfalso; omega) | (simp -dsimp only [g, wkI]))
      | (with_reducible refine condE_dec (fun g => ?_) (fun g => ?_) <;> try (exfalso; omega))
      | (with_reducible refine condE_not (fun g => ?_) (fun g => ?_) <;> try (exfalso; omega))
      | (simp -dsimp only [↓wkA, ↓wkE, ↓wkJ, wkB, ↓tt, Nat.reduceBEq, Nat.reduceEqDiff, ↓reduceIte, Nat.reduceLT, Array.toList, Nat.reduceAdd, Nat.reduceMul, Int.reduceToNat, Int.reducePow, UInt8.reduceToNat])
      | (simp -dsimp (disch := first | assumption | omega) only [dec_t, dec_f])
      | (refine And.intro ?_ ?_
         · first | omega | decide | (simp (disch := omega) only [wkW, Int.reduceToNat, Int.reducePow] <;> omega) | (simp <;> omega))
      | (simp (disch := omega) only [wkW, Int.reduceToNat, Int.reducePow])
      | fail
  · rw [if_neg hc]
    have d1 : decide (v.getD (n - 1) 0 ≤ p.getD n 0) = false := decide_eq_false hc
    have h64 := div64 (p.getD n 0) (p.getD (n - 1) 0) (v.getD (n - 1) 0) ⟨hv0, hz.2⟩ ⟨hx.1, by omega⟩ hy
    refine meets_by ttOk Tryz.func205 Tryz.ntmps205 Tryz.results205 (by kernel_rfl) (c := _) rfl rfl rfl fun E => ?_
    simp only [argsFrame]
    repeat' first
      | (simp only [hvl, w1, d1, Int.toNat_natCast])
      | (with_reducible first | refine PW.seq ?_ | refine PW.block ?_ | refine PW.fork ?_ | refine PW.skip ?_ | refine PW.exit ?_ | refine PW.ret ?_ | refine PW.scope ?_ | refine PW.label ?_ | refine PW.goto ?_)
      | (with_reducible refine PW.region ttOk ?_ ?_
         · rfl)
      | (with_reducible refine PW.regionD ttOk mixed ?_ ?_ ?_
         · rfl
         · rfl)
      | (with_reducible refine ifW_dec (fun g => ?_) (fun g => ?_) <;> first | (exfalso; omega) | (simp -dsimp only [g, wkI]))
      | (with_reducible refine condE_dec (fun g => ?_) (fun g => ?_) <;> try (exfalso; omega))
      | (with_reducible refine condE_not (fun g => ?_) (fun g => ?_) <;> try (exfalso; omega))
      | (simp -dsimp only [↓wkA, ↓wkE, ↓wkJ, wkB, ↓tt, Nat.reduceBEq, Nat.reduceEqDiff, ↓reduceIte, Nat.reduceLT, Array.toList, Nat.reduceAdd, Nat.reduceMul, Int.reduceToNat, Int.reducePow, UInt8.reduceToNat])
      | (refine callD_by (h64) (views_data rfl) ⟨trivial, trivial, trivial, trivial⟩ rfl ?_)
      | (simp -dsimp (disch := first | assumption | omega) only [dec_t, dec_f])
      | (refine And.intro ?_ ?_
         · first | omega | decide | (simp (disch := omega) only [wkW, Int.reduceToNat, Int.reducePow] <;> omega) | (simp <;> omega))
      | (simp (disch := omega) only [wkW, Int.reduceToNat, Int.reducePow])
      | fail
theorem guess_ge {p v : List Int} {n : Nat} (hp : Limbs p) (hv : Limbs v) (hn : 1 ≤ n) (hv0 : 0 < v.getD (n - 1) 0) {q : Int} (hq : q * vt v n ≤ vt p (n + 1)) (hlt : vt p (n + 1) < B64 * vt v n) : q ≤ guessV p v n ∧ 0 ≤ guessV p v n ∧ guessV p v n < B64 := by
  have hx := getD_limb hp n
  have hy := getD_limb hp (n - 1)
  have hz := getD_limb hv (n - 1)
  obtain ⟨lo, l1, l2, l3⟩ := vt_low hv hn
  have hvpos : 0 < vt v n := by
    rw [l3]
    have := Int.mul_pos (pow_pos64 (n - 1)) hv0
    omega
  unfold guessV
  split
  · refine ⟨?_, by decide, by decide⟩
    have h1 : q < B64 := by
      refine Int.lt_of_mul_lt_mul_right (a := vt v n) ?_ (Int.le_of_lt hvpos)
      omega
    simp only [B64] at h1; omega
  · rename_i hc
    have hq0 : 0 ≤ (p.getD n 0 * B64 + p.getD (n - 1) 0) / v.getD (n - 1) 0 := Int.ediv_nonneg (by simp only [B64] at *; omega) (by omega)
    refine ⟨?_, hq0, ?_⟩
    · rw [Int.le_ediv_iff_mul_le hv0]
      -- the two highest limbs
      have hp2 : ∃ lo : Int, 0 ≤ lo ∧ lo < B64 ^ (n - 1) ∧ vt p (n + 1) = lo + B64 ^ (n - 1) * (p.getD n 0 * B64 + p.getD (n - 1) 0) := by
        obtain ⟨lo, a1, a2, a3⟩ := vt_low hp hn
        refine ⟨lo, a1, a2, ?_⟩
        have e : B64 ^ n = B64 ^ (n - 1) * B64 := by rw [← Int.pow_succ, show (n - 1).succ = n by omega]
        simp only [vt]
        rw [a3, e]
        generalize B64 ^ (n - 1) = x
        generalize B64 = bb
        grind
      obtain ⟨lp, a1, a2, a3⟩ := hp2
      generalize p.getD n 0 * B64 + p.getD (n - 1) 0 = t at *
      generalize v.getD (n - 1) 0 = y at *
      have hpw := pow_pos64 (n - 1)
      generalize B64 ^ (n - 1) = w at *
      by_cases hq1 : q ≤ 0
      · have h1 : q * y ≤ 0 := Int.mul_nonpos_of_nonpos_of_nonneg hq1 (by omega)
        have h2 : 0 ≤ t := by
          refine Int.le_of_not_gt fun h => ?_
          have := Int.ediv_neg_of_neg_of_pos h hv0
          omega
        omega
      · have h1 : w * (q * y) ≤ q * vt v n := by
          rw [l3, Int.mul_add]
          have h2 : 0 ≤ q * lo := Int.mul_nonneg (by omega) l1
          have e : q * (w * y) = w * (q * y) := by rw [Int.mul_left_comm]
          omega
        have h2 : w * (q * y) < w * (t + 1) := by rw [Int.mul_add, Int.mul_one]; omega
        have := Int.lt_of_mul_lt_mul_left h2 (Int.le_of_lt hpw)
        omega
    · rw [Int.ediv_lt_iff_lt_mul hv0]
      have := Int.mul_le_mul_of_nonneg_right (show p.getD n 0 + 1 ≤ v.getD (n - 1) 0 by omega) (show (0 : Int) ≤ B64 by decide)
      simp only [B64] at *
      omega
structure PartS (l l' : List Int) (off i : Nat) : Prop where
  len : l'.length = l.length
  lim : Limbs l'
  out : ∀ k, k < off ∨ off + i ≤ k → l'.getD k 0 = l.getD k 0
theorem PartS.refl {l : List Int} (h : Limbs l) (off : Nat) : PartS l l off 0 := ⟨rfl, h, fun _ _ => rfl⟩
theorem PartS.set {l l' : List Int} {off i : Nat} (h : PartS l l' off i) (hi : off + i < l.length) {x : Int} (hx : 0 ≤ x ∧ x < B64) : PartS l (l'.set (off + i) x) off (i + 1) :=
  ⟨by rw [List.length_set, h.len], limbs_set h.lim _ hx, fun k hk => by
    rw [getD_set _ _ _ _ (by rw [h.len]; exact hi), if_neg (by omega)]
    exact h.out k (by omega)⟩
theorem drop_set {l : List Int} {off i : Nat} {x : Int} : (l.set (off + i) x).drop off = (l.drop off).set i x := by
  rw [List.drop_set, if_neg (by omega), Nat.add_sub_cancel_left]
theorem part_vt {l l' : List Int} {off i : Nat} (h : PartS l l' off i) (hi : off + i < l.length) (x : Int) : vt ((l'.set (off + i) x).drop off) (i + 1) = vt (l'.drop off) i + B64 ^ i * x := by
  have hl : i < (l'.drop off).length := by rw [List.length_drop, h.len]; omega
  rw [drop_set]
  simp only [vt]
  rw [vt_set_ge _ _ _ _ hl (Nat.le_refl _), getD_set _ _ _ _ hl, if_pos rfl]
abbrev toF (v : List Int) (d : Int) (r off n i : Nat) (c b : Int) : PV.Frame := [(16, .int .i64 (i : Int)), (15, .int .i64 v.length), (14, .ints .u64 v), (7, .int .u64 c), (8, .int .u64 b), (0, .sl r off (n + 1) true), (1, .ints .u64 v), (2, .int .u64 d)]
theorem take_off_h (l v : List Int) (hl : Limbs l) (hv : Limbs v) (d : Int) (hd : 0 ≤ d ∧ d < B64) (off n : Nat) (hvn : v.length = n) (hn : n ≤ 5000) (hll : off + n + 1 ≤ l.length) (hl2 : l.length ≤ 10000) (r nx : Nat) (rows : List (Nat × PV.Row)) (gg : List PV.Frame) (ty : List (Nat × TypeId)) (hr : getRow rows r = some (.ints .u64 l)) :
    HMeets Tryz.prog 206 [.sl r off (n + 1) true, .ints .u64 v, .int .u64 d] ⟨nx, rows, gg, ty⟩ fun res H' => ∃ l' b, PartS l l' off (n + 1) ∧ 0 ≤ b ∧ b ≤ 1 ∧ vt (l'.drop off) (n + 1) = vt (l.drop off) (n + 1) - d * vt v n + B64 ^ (n + 1) * b ∧ res = .bool (decide (b = 1)) ∧ H' = ⟨nx, setRow rows r (.ints .u64 l'), gg, ty⟩ := by
  have hr0 : setRow rows r (.ints .u64 l) = rows ∨ True := .inr trivial
  refine hmeets_by ttOk Tryz.func206 Tryz.ntmps206 Tryz.results206 (by kernel_rfl) (c := _) rfl rfl fun E => ?_
  simp only [argsFrame]
  repeat' first
    | (with_reducible first | refine PW.seq ?_ | refine PW.block ?_ | refine PW.fork ?_ | refine PW.skip ?_ | refine PW.exit ?_ | refine PW.ret ?_ | refine PW.scope ?_ | refine PW.label ?_ | refine PW.goto ?_)
    | (with_reducible refine PW.region ttOk ?_ ?_
       · rfl)
    | (with_reducible refine PW.regionD ttOk mixed ?_ ?_ ?_
       · rfl
       · rfl)
    | (with_reducible refine ifW_dec (fun g => ?_) (fun g => ?_) <;> first | (exfalso; omega) | (simp -dsimp only [g, wkI]))
    | (with_reducible refine condE_dec (fun g => ?_) (fun g => ?_) <;> try (exfalso; omega))
    | (with_reducible refine condE_not (fun g => ?_) (fun g => ?_) <;> try (exfalso; omega))
    | (simp -dsimp only [↓wkA, ↓wkE, ↓wkJ, wkB, ↓tt, Nat.reduceBEq, Nat.reduceEqDiff, ↓reduceIte, Nat.reduceLT, Array.toList, Nat.reduceAdd, Nat.reduceMul, Int.reduceToNat, Int.reducePow, UInt8.reduceToNat])
    | (simp -dsimp (disch := first | assumption | omega) only [dec_t, dec_f])
    | (refine And.intro ?_ ?_
       · first | omega | decide | (simp (disch := omega) only [wkW, Int.reduceToNat, Int.reducePow] <;> omega) | (simp <;> omega))
    | (simp (disch := omega) only [wkW, Int.reduceToNat, Int.reducePow])
    | fail
  refine PW.loopA (fun m F H => ∃ i l' c b, i + m = n ∧ PartS l l' off i ∧ (0 ≤ c ∧ c < B64) ∧ (0 ≤ b ∧ b ≤ 1) ∧ vt (l'.drop off) i = vt (l.drop off) i - d * vt v i + B64 ^ i * (c + b) ∧ F = toF v d r off n i c b ∧ H = ⟨nx, setRow rows r (.ints .u64 l'), gg, ty⟩) n (toF v d r off n 0 0 0) ⟨nx, setRow rows r (.ints .u64 l), gg, ty⟩ (Sub.less ⟨rfl, rfl, rfl, rfl, rfl, rfl, rfl, rfl, trivial⟩ (fun k row h => by
    rw [getRow_setRow] at h
    split at h
    · rename_i e; subst e; rw [← h]; exact hr
    · exact h) rfl rfl) ⟨0, l, 0, 0, by omega, PartS.refl hl off, by decide, by decide, by simp [vt], rfl, rfl⟩ ?_
  rintro m F H ⟨i, l', c, b, hi, hS, hc, hb, he, rfl, rfl⟩
  have hll' := hS.len
  have hoi : off + i < l.length := by omega
  have hx := getD_limb hl (off + i)
  have hout := hS.out (off + i) (.inr (Nat.le_refl _))
  have hvi := getD_limb hv i
  cases m with
  | zero =>
    obtain rfl : i = n := by omega
    have h64 := sub64 (x := l.getD (off + i) 0) (y := c) (c := b) hx hc hb
    obtain ⟨s, hs⟩ : ∃ s, l.getD (off + i) 0 - c - b = s := ⟨_, rfl⟩
    rw [hs] at h64
    have hw : IntKind.wrap .i64 ((off + i : Nat) : Int) = ((off + i : Nat) : Int) := wrap_i64 (by omega)
    have hres : 0 ≤ -(s / 18446744073709551616) ∧ -(s / 18446744073709551616) ≤ 1 := by simp only [B64] at *; omega
    have hmod : 0 ≤ s % 18446744073709551616 ∧ s % 18446744073709551616 < B64 := ⟨Int.emod_nonneg _ (by decide), Int.emod_lt_of_pos _ (by decide)⟩
    have hfin : vt ((l'.set (off + i) (s % 18446744073709551616)).drop off) (i + 1) = vt (l.drop off) (i + 1) - d * vt v i + B64 ^ (i + 1) * (-(s / 18446744073709551616)) := by
      rw [part_vt hS hoi, he]
      have hsum : 18446744073709551616 * (s / 18446744073709551616) + s % 18446744073709551616 = s := Int.mul_ediv_add_emod s 18446744073709551616
      simp only [vt]
      rw [getD_drop', Int.pow_succ]
      rw [← hs] at hsum ⊢
      simp only [B64]
      generalize (18446744073709551616 : Int) ^ i = p at *
      generalize (l.getD (off + i) 0 - c - b) / 18446744073709551616 = q at *
      generalize (l.getD (off + i) 0 - c - b) % 18446744073709551616 = t at *
      grind
    have hset := hS.set hoi hmod
    clear he hmod
    generalize s % 18446744073709551616 = t at *
    generalize -(s / 18446744073709551616) = q at *
    repeat' first
      | (simp only [hvn, hout, Int.toNat_natCast, getRow_setRow_self, Go.PV.setRow_setRow])
      | (with_reducible first | refine PW.seq ?_ | refine PW.block ?_ | refine PW.fork ?_ | refine PW.skip ?_ | refine PW.exit ?_ | refine PW.ret ?_ | refine PW.scope ?_ | refine PW.label ?_ | refine PW.goto ?_)
      | (with_reducible refine PW.region ttOk ?_ ?_
         · rfl)
      | (with_reducible refine PW.regionD ttOk mixed ?_ ?_ ?_
         · rfl
         · rfl)
      | (with_reducible refine ifW_dec (fun g => ?_) (fun g => ?_) <;> first | (exfalso; omega) | (simp -dsimp only [g, wkI]))
      | (with_reducible refine condE_dec (fun g => ?_) (fun g => ?_) <;> try (exfalso; omega))
      | (with_reducible refine condE_not (fun g => ?_) (fun g => ?_) <;> try (exfalso; omega))
      | (simp -dsimp only [↓wkA, ↓wkE, ↓wkJ, wkB, ↓tt, Nat.reduceBEq, Nat.reduceEqDiff, ↓reduceIte, Nat.reduceLT, Array.toList, Nat.reduceAdd, Nat.reduceMul, Int.reduceToNat, Int.reducePow, UInt8.reduceToNat])
      | (refine call_by (h64) (views_data rfl) ⟨trivial, trivial, trivial, trivial⟩ rfl ?_)
      | (simp -dsimp (disch := first | assumption | omega) only [dec_t, dec_f])
      | (refine And.intro ?_ ?_
         · first | omega | decide | (simp (disch := omega) only [wkW, Int.reduceToNat, Int.reducePow] <;> omega) | (simp <;> omega))
      | (simp (disch := omega) only [wkW, Int.reduceToNat, Int.reducePow])
      | fail
    refine ⟨_, q, hset, hres.1, hres.2, hfin, ?_, rfl⟩
    rcases (show q = 0 ∨ q = 1 by omega) with rfl | rfl <;> rfl
  | succ m =>
    have hmul := mul64 d (v.getD i 0) hd hvi
    have hxy := mul_bound hd hvi
    simp only [B64] at hmul hc hx
    have ha64 := add64 (x := d * v.getD i 0 % 18446744073709551616) (y := c) (c := 0) (by omega) hc.1 (by decide)
    obtain ⟨t, ht⟩ : ∃ t, d * v.getD i 0 + c = t := ⟨_, rfl⟩
    have e1 : (d * v.getD i 0 % 18446744073709551616 + c + 0) % 18446744073709551616 = t % 18446744073709551616 := by omega
    have w2 : IntKind.wrap .u64 (d * v.getD i 0 / 18446744073709551616 + (d * v.getD i 0 % 18446744073709551616 + c + 0) / 18446744073709551616) = t / 18446744073709551616 := by
      rw [wrap_u64 (by omega)]; omega
    rw [e1] at ha64
    have hlo : 0 ≤ t % 18446744073709551616 ∧ t % 18446744073709551616 < 18446744073709551616 := ⟨Int.emod_nonneg _ (by decide), Int.emod_lt_of_pos _ (by decide)⟩
    have hs64 := sub64 (x := l.getD (off + i) 0) (y := t % 18446744073709551616) (c := b) hx hlo hb
    obtain ⟨s, hs⟩ : ∃ s, l.getD (off + i) 0 - t % 18446744073709551616 - b = s := ⟨_, rfl⟩
    rw [hs] at hs64
    have hres : 0 ≤ -(s / 18446744073709551616) ∧ -(s / 18446744073709551616) ≤ 1 := by omega
    have hmod : 0 ≤ s % 18446744073709551616 ∧ s % 18446744073709551616 < B64 := ⟨Int.emod_nonneg _ (by decide), Int.emod_lt_of_pos _ (by decide)⟩
    have hcar : 0 ≤ t / 18446744073709551616 ∧ t / 18446744073709551616 < B64 := by simp only [B64]; omega
    have hfin : vt ((l'.set (off + i) (s % 18446744073709551616)).drop off) (i + 1) = vt (l.drop off) (i + 1) - d * vt v (i + 1) + B64 ^ (i + 1) * (t / 18446744073709551616 + -(s / 18446744073709551616)) := by
      rw [part_vt hS hoi, he]
      have hsum : 18446744073709551616 * (s / 18446744073709551616) + s % 18446744073709551616 = s := Int.mul_ediv_add_emod s 18446744073709551616
      have hsum2 : 18446744073709551616 * (t / 18446744073709551616) + t % 18446744073709551616 = t := Int.mul_ediv_add_emod t 18446744073709551616
      simp only [vt]
      rw [getD_drop', Int.pow_succ]
      rw [← hs] at hsum ⊢
      rw [← ht] at hsum2 hsum ⊢
      simp only [B64]
      generalize (18446744073709551616 : Int) ^ i = p at *
      generalize (l.getD (off + i) 0 - (d * v.getD i 0 + c) % 18446744073709551616 - b) / 18446744073709551616 = q at *
      generalize (l.getD (off + i) 0 - (d * v.getD i 0 + c) % 18446744073709551616 - b) % 18446744073709551616 = u at *
      generalize (d * v.getD i 0 + c) / 18446744073709551616 = q2 at *
      generalize (d * v.getD i 0 + c) % 18446744073709551616 = u2 at *
      grind
    have hset := hS.set hoi hmod
    clear he hmod e1 hlo hxy hx
    generalize s % 18446744073709551616 = u at *
    generalize -(s / 18446744073709551616) = q at *
    repeat' first
      | (simp only [hout, w2, Int.toNat_natCast, getRow_setRow_self, Go.PV.setRow_setRow])
      | (with_reducible first | refine PW.seq ?_ | refine PW.block ?_ | refine PW.fork ?_ | refine PW.skip ?_ | refine PW.exit ?_ | refine PW.ret ?_ | refine PW.scope ?_ | refine PW.label ?_ | refine PW.goto ?_)
      | (with_reducible refine PW.region ttOk ?_ ?_
         · rfl)
      | (with_reducible refine PW.regionD ttOk mixed ?_ ?_ ?_
         · rfl
         · rfl)
      | (with_reducible refine ifW_dec (fun g => ?_) (fun g => ?_) <;> first | (exfalso; omega) | (simp -dsimp only [g, wkI]))
      | (with_reducible refine condE_dec (fun g => ?_) (fun g => ?_) <;> try (exfalso; omega))
      | (with_reducible refine condE_not (fun g => ?_) (fun g => ?_) <;> try (exfalso; omega))
      | (simp -dsimp only [↓wkA, ↓wkE, ↓wkJ, wkB, ↓tt, Nat.reduceBEq, Nat.reduceEqDiff, ↓reduceIte, Nat.reduceLT, Array.toList, Nat.reduceAdd, Nat.reduceMul, Int.reduceToNat, Int.reducePow, UInt8.reduceToNat])
      | (refine call_by (hmul) (views_data rfl) ⟨trivial, trivial, trivial⟩ rfl ?_)
      | (refine call_by (ha64) (views_data rfl) ⟨trivial, trivial, trivial, trivial⟩ rfl ?_)
      | (refine call_by (hs64) (views_data rfl) ⟨trivial, trivial, trivial, trivial⟩ rfl ?_)
      | (simp -dsimp (disch := first | assumption | omega) only [dec_t, dec_f])
      | (refine And.intro ?_ ?_
         · first | omega | decide | (simp (disch := omega) only [wkW, Int.reduceToNat, Int.reducePow] <;> omega) | (simp <;> omega))
      | (simp (disch := omega) only [wkW, Int.reduceToNat, Int.reducePow])
      | fail
    exact Again.mk m (toF v d r off n (i + 1) (t / 18446744073709551616) q) ⟨nx, setRow rows r (.ints .u64 (l'.set (off + i) u)), gg, ty⟩ (by omega) (Sub.less ⟨rfl, rfl, rfl, rfl, rfl, rfl, rfl, rfl, trivial⟩ (fun _ _ h => h) rfl rfl) ⟨i + 1, _, _, _, by omega, hset, hcar, hres, hfin, rfl, rfl⟩
abbrev pbF (v : List Int) (r off n i : Nat) (c : Int) : PV.Frame := [(10, .int .i64 (i : Int)), (9, .int .i64 v.length), (8, .ints .u64 v), (5, .int .u64 c), (0, .sl r off (n + 1) true), (1, .ints .u64 v)]
theorem put_back_h (l v : List Int) (hl : Limbs l) (hv : Limbs v) (off n : Nat) (hvn : v.length = n) (hn : n ≤ 5000) (hll : off + n + 1 ≤ l.length) (hl2 : l.length ≤ 10000) (r nx : Nat) (rows : List (Nat × PV.Row)) (gg : List PV.Frame) (ty : List (Nat × TypeId)) (hr : getRow rows r = some (.ints .u64 l)) :
    HMeets Tryz.prog 207 [.sl r off (n + 1) true, .ints .u64 v] ⟨nx, rows, gg, ty⟩ fun res H' => ∃ l' c, PartS l l' off (n + 1) ∧ 0 ≤ c ∧ c ≤ 1 ∧ vt (l'.drop off) (n + 1) + B64 ^ (n + 1) * c = vt (l.drop off) (n + 1) + vt v n ∧ res = .bool (decide (c = 1)) ∧ H' = ⟨nx, setRow rows r (.ints .u64 l'), gg, ty⟩ := by
  refine hmeets_by ttOk Tryz.func207 Tryz.ntmps207 Tryz.results207 (by kernel_rfl) (c := _) rfl rfl fun E => ?_
  simp only [argsFrame]
  repeat' first
    | (with_reducible first | refine PW.seq ?_ | refine PW.block ?_ | refine PW.fork ?_ | refine PW.skip ?_ | refine PW.exit ?_ | refine PW.ret ?_ | refine PW.scope ?_ | refine PW.label ?_ | refine PW.goto ?_)
    | (with_reducible refine PW.region ttOk ?_ ?_
       · rfl)
    | (with_reducible refine PW.regionD ttOk mixed ?_ ?_ ?_
       · rfl
       · rfl)
    | (with_reducible refine ifW_dec (fun g => ?_) (fun g => ?_) <;> first | (exfalso; omega) | (simp -dsimp only [g, wkI]))
    | (with_reducible refine condE_dec (fun g => ?_) (fun g => ?_) <;> try (exfalso; omega))
    | (with_reducible refine condE_not (fun g => ?_) (fun g => ?_) <;> try (exfalso; omega))
    | (simp -dsimp only [↓wkA, ↓wkE, ↓wkJ, wkB, ↓tt, Nat.reduceBEq, Nat.reduceEqDiff, ↓reduceIte, Nat.reduceLT, Array.toList, Nat.reduceAdd, Nat.reduceMul, Int.reduceToNat, Int.reducePow, UInt8.reduceToNat])
    | (simp -dsimp (disch := first | assumption | omega) only [dec_t, dec_f])
    | (refine And.intro ?_ ?_
       · first | omega | decide | (simp (disch := omega) only [wkW, Int.reduceToNat, Int.reducePow] <;> omega) | (simp <;> omega))
    | (simp (disch := omega) only [wkW, Int.reduceToNat, Int.reducePow])
    | fail
  refine PW.loopA (fun m F H => ∃ i l' c, i + m = n ∧ PartS l l' off i ∧ (0 ≤ c ∧ c ≤ 1) ∧ vt (l'.drop off) i + B64 ^ i * c = vt (l.drop off) i + vt v i ∧ F = pbF v r off n i c ∧ H = ⟨nx, setRow rows r (.ints .u64 l'), gg, ty⟩) n (pbF v r off n 0 0) ⟨nx, setRow rows r (.ints .u64 l), gg, ty⟩ (Sub.less ⟨rfl, rfl, rfl, rfl, rfl, rfl, trivial⟩ (fun k row h => by
    rw [getRow_setRow] at h
    split at h
    · rename_i e; subst e; rw [← h]; exact hr
    · exact h) rfl rfl) ⟨0, l, 0, by omega, PartS.refl hl off, by decide, by simp [vt], rfl, rfl⟩ ?_
  rintro m F H ⟨i, l', c, hi, hS, hc, he, rfl, rfl⟩
  have hll' := hS.len
  have hoi : off + i < l.length := by omega
  have hx := getD_limb hl (off + i)
  have hout := hS.out (off + i) (.inr (Nat.le_refl _))
  have hvi := getD_limb hv i
  cases m with
  | zero =>
    obtain rfl : i = n := by omega
    have h64 := add64 (x := l.getD (off + i) 0) (y := 0) (c := c) hx.1 (by decide) hc
    obtain ⟨s, hs⟩ : ∃ s, l.getD (off + i) 0 + 0 + c = s := ⟨_, rfl⟩
    rw [hs] at h64
    have hres : 0 ≤ s / 18446744073709551616 ∧ s / 18446744073709551616 ≤ 1 := by simp only [B64] at *; omega
    have hmod : 0 ≤ s % 18446744073709551616 ∧ s % 18446744073709551616 < B64 := ⟨Int.emod_nonneg _ (by decide), Int.emod_lt_of_pos _ (by decide)⟩
    have hfin : vt ((l'.set (off + i) (s % 18446744073709551616)).drop off) (i + 1) + B64 ^ (i + 1) * (s / 18446744073709551616) = vt (l.drop off) (i + 1) + vt v i := by
      rw [part_vt hS hoi]
      have hsum : 18446744073709551616 * (s / 18446744073709551616) + s % 18446744073709551616 = s := Int.mul_ediv_add_emod s 18446744073709551616
      simp only [vt]
      rw [getD_drop', Int.pow_succ]
      rw [← hs] at hsum ⊢
      simp only [B64] at he ⊢
      generalize (18446744073709551616 : Int) ^ i = p at *
      generalize (l.getD (off + i) 0 + 0 + c) / 18446744073709551616 = q at *
      generalize (l.getD (off + i) 0 + 0 + c) % 18446744073709551616 = t at *
      grind
    have hset := hS.set hoi hmod
    clear he hmod
    generalize s % 18446744073709551616 = t at *
    generalize s / 18446744073709551616 = q at *
    repeat' first
      | (simp only [hvn, hout, Int.toNat_natCast, getRow_setRow_self, Go.PV.setRow_setRow])
      | (with_reducible first | refine PW.seq ?_ | refine PW.block ?_ | refine PW.fork ?_ | refine PW.skip ?_ | refine PW.exit ?_ | refine PW.ret ?_ | refine PW.scope ?_ | refine PW.label ?_ | refine PW.goto ?_)
      | (with_reducible refine PW.region ttOk ?_ ?_
         · rfl)
      | (with_reducible refine PW.regionD ttOk mixed ?_ ?_ ?_
         · rfl
         · rfl)
      | (with_reducible refine ifW_dec (fun g => ?_) (fun g => ?_) <;> first | (exfalso; omega) | (simp -dsimp only [g, wkI]))
      | (with_reducible refine condE_dec (fun g => ?_) (fun g => ?_) <;> try (exfalso; omega))
      | (with_reducible refine condE_not (fun g => ?_) (fun g => ?_) <;> try (exfalso; omega))
      | (simp -dsimp only [↓wkA, ↓wkE, ↓wkJ, wkB, ↓tt, Nat.reduceBEq, Nat.reduceEqDiff, ↓reduceIte, Nat.reduceLT, Array.toList, Nat.reduceAdd, Nat.reduceMul, Int.reduceToNat, Int.reducePow, UInt8.reduceToNat])
      | (refine call_by (h64) (views_data rfl) ⟨trivial, trivial, trivial, trivial⟩ rfl ?_)
      | (simp -dsimp (disch := first | assumption | omega) only [dec_t, dec_f])
      | (refine And.intro ?_ ?_
         · first | omega | decide | (simp (disch := omega) only [wkW, Int.reduceToNat, Int.reducePow] <;> omega) | (simp <;> omega))
      | (simp (disch := omega) only [wkW, Int.reduceToNat, Int.reducePow])
      | fail
    refine ⟨_, q, hset, hres.1, hres.2, hfin, ?_, rfl⟩
    rcases (show q = 0 ∨ q = 1 by omega) with rfl | rfl <;> rfl
  | succ m =>
    have ha64 := add64 (x := l.getD (off + i) 0) (y := v.getD i 0) (c := c) hx.1 hvi.1 hc
    obtain ⟨s, hs⟩ : ∃ s, l.getD (off + i) 0 + v.getD i 0 + c = s := ⟨_, rfl⟩
    rw [hs] at ha64
    have hres : 0 ≤ s / 18446744073709551616 ∧ s / 18446744073709551616 ≤ 1 := by simp only [B64] at *; omega
    have hmod : 0 ≤ s % 18446744073709551616 ∧ s % 18446744073709551616 < B64 := ⟨Int.emod_nonneg _ (by decide), Int.emod_lt_of_pos _ (by decide)⟩
    have hfin : vt ((l'.set (off + i) (s % 18446744073709551616)).drop off) (i + 1) + B64 ^ (i + 1) * (s / 18446744073709551616) = vt (l.drop off) (i + 1) + vt v (i + 1) := by
      rw [part_vt hS hoi]
      have hsum : 18446744073709551616 * (s / 18446744073709551616) + s % 18446744073709551616 = s := Int.mul_ediv_add_emod s 18446744073709551616
      simp only [vt]
      rw [getD_drop', Int.pow_succ]
      rw [← hs] at hsum ⊢
      simp only [B64] at he ⊢
      generalize (18446744073709551616 : Int) ^ i = p at *
      generalize (l.getD (off + i) 0 + v.getD i 0 + c) / 18446744073709551616 = q at *
      generalize (l.getD (off + i) 0 + v.getD i 0 + c) % 18446744073709551616 = t at *
      grind
    have hset := hS.set hoi hmod
    clear he hmod hx
    generalize s % 18446744073709551616 = u at *
    generalize s / 18446744073709551616 = q at *
    repeat' first
      | (simp only [hout, Int.toNat_natCast, getRow_setRow_self, Go.PV.setRow_setRow])
      | (with_reducible first | refine PW.seq ?_ | refine PW.block ?_ | refine PW.fork ?_ | refine PW.skip ?_ | refine PW.exit ?_ | refine PW.ret ?_ | refine PW.scope ?_ | refine PW.label ?_ | refine PW.goto ?_)
      | (with_reducible refine PW.region ttOk ?_ ?_
         · rfl)
      | (with_reducible refine PW.regionD ttOk mixed ?_ ?_ ?_
         · rfl
         · rfl)
      | (with_reducible refine ifW_dec (fun g => ?_) (fun g => ?_) <;> first | (exfalso; omega) | (simp -dsimp only [g, wkI]))
      | (with_reducible refine condE_dec (fun g => ?_) (fun g => ?_) <;> try (exfalso; omega))
      | (with_reducible refine condE_not (fun g => ?_) (fun g => ?_) <;> try (exfalso; omega))
      | (simp -dsimp only [↓wkA, ↓wkE, ↓wkJ, wkB, ↓tt, Nat.reduceBEq, Nat.reduceEqDiff, ↓reduceIte, Nat.reduceLT, Array.toList, Nat.reduceAdd, Nat.reduceMul, Int.reduceToNat, Int.reducePow, UInt8.reduceToNat])
      | (refine call_by (ha64) (views_data rfl) ⟨trivial, trivial, trivial, trivial⟩ rfl ?_)
      | (simp -dsimp (disch := first | assumption | omega) only [dec_t, dec_f])
      | (refine And.intro ?_ ?_
         · first | omega | decide | (simp (disch := omega) only [wkW, Int.reduceToNat, Int.reducePow] <;> omega) | (simp <;> omega))
      | (simp (disch := omega) only [wkW, Int.reduceToNat, Int.reducePow])
      | fail
    exact Again.mk m (pbF v r off n (i + 1) q) ⟨nx, setRow rows r (.ints .u64 (l'.set (off + i) u)), gg, ty⟩ (by omega) (Sub.less ⟨rfl, rfl, rfl, rfl, rfl, rfl, trivial⟩ (fun _ _ h => h) rfl rfl) ⟨i + 1, _, _, by omega, hset, hres, hfin, rfl, rfl⟩
structure LongS (u q : List Int) (U V : Int) (n m J : Nat) : Prop where
  ul : u.length = m + n
  ql : q.length = m
  ulim : Limbs u
  qlim : Limbs q
  zero : ∀ k, k < J → q.getD k 0 = 0
  eq : U = vt u (J + n) + vt q m * V
  top : vt (u.drop J) n < V
theorem LongS.digit {u q u' : List Int} {U V d : Int} {n m j : Nat} (h : LongS u q U V n m (j + 1)) (hj : j < m) (hn : 1 ≤ n) (hV : V < B64 ^ n) (hp : PartS u u' j (n + 1)) (hd : 0 ≤ d ∧ d < B64) (hx : vt (u'.drop j) (n + 1) = vt (u.drop j) (n + 1) - d * V) (hlt : vt (u'.drop j) (n + 1) < V) : LongS u' (q.set j d) U V n m j := by
  have hlo := vt_bound (limbs_drop hp.lim j) n
  have htop : (u'.drop j).getD n 0 = 0 := by
    have hg := getD_limb (limbs_drop hp.lim j) n
    simp only [vt] at hlt
    refine Int.le_antisymm (Int.le_of_not_gt fun h0 => ?_) hg.1
    have h1 : B64 ^ n * 1 ≤ B64 ^ n * (u'.drop j).getD n 0 := Int.mul_le_mul_of_nonneg_left h0 (Int.le_of_lt (pow_pos64 n))
    omega
  have hx2 : vt (u'.drop j) n = vt (u.drop j) (n + 1) - d * V := by
    rw [← hx]; simp only [vt]; rw [htop]; simp
  have hlow : vt u' j = vt u j := vt_same j fun k hk => hp.out k (.inl hk)
  refine ⟨by rw [hp.len, h.ul], by rw [List.length_set, h.ql], hp.lim, limbs_set h.qlim _ hd, fun k hk => ?_, ?_, by rw [hx2, ← hx]; exact hlt⟩
  · rw [getD_set _ _ _ _ (by rw [h.ql]; exact hj), if_neg (by omega)]; exact h.zero k (by omega)
  · rw [vt_set_add q j d (by rw [h.ql]; exact hj) m hj, h.zero j (by omega), vt_split, hx2, hlow, h.eq, show j + 1 + n = j + (n + 1) by omega, vt_split]
    generalize B64 ^ j = p
    generalize vt (u.drop j) (n + 1) = y
    generalize vt u j = x
    generalize vt q m = z
    grind
theorem LongS.part {u q : List Int} {U V : Int} {n m j : Nat} (h : LongS u q U V n m (j + 1)) : vt (u.drop j) (n + 1) < B64 * V := by
  have h1 := h.top
  have hg := getD_limb (limbs_drop h.ulim j) 0
  have e : vt (u.drop j) (n + 1) = (u.drop j).getD 0 0 + B64 * vt (u.drop (j + 1)) n := by
    rw [Nat.add_comm n 1, vt_split, List.drop_drop, show B64 ^ 1 = B64 from rfl]
    simp [vt]
  rw [e]
  have : B64 * (vt (u.drop (j + 1)) n + 1) ≤ B64 * V := Int.mul_le_mul_of_nonneg_left (by omega) (by decide)
  simp only [B64] at *
  omega
abbrev loF (v : List Int) (s n m J : Nat) : PV.Frame := [(11, .int .i64 ((J : Int) - 1)), (6, .int .i64 (n : Int)), (7, .int .i64 (s : Int)), (8, .ints .u64 v), (9, .sl 1 0 (m + n) true), (10, .sl 2 0 m true)]
abbrev loG (v : List Int) (s n m j : Nat) (d : Int) (b : Bool) : PV.Frame := [(14, .bool b), (13, .int .u64 d), (12, .sl 1 j (n + 1) true), (11, .int .i64 (j : Int)), (6, .int .i64 (n : Int)), (7, .int .i64 (s : Int)), (8, .ints .u64 v), (9, .sl 1 0 (m + n) true), (10, .sl 2 0 m true)]
abbrev loH (u q : List Int) : PV.Heap := ⟨3, [(1, .ints .u64 u), (2, .ints .u64 q)], [], []⟩
theorem PartS.trans {l l1 l2 : List Int} {off i : Nat} (h : PartS l l1 off i) (k : PartS l1 l2 off i) : PartS l l2 off i := ⟨by rw [k.len, h.len], k.lim, fun j hj => by rw [k.out j hj, h.out j hj]⟩
theorem quot_long (a b : List Int) (ha : Limbs a) (hb : Limbs b) (n m : Nat) (hbn : b.length = n) (hn : 2 ≤ n) (ham : a.length + 1 = m + n) (hm1 : 1 ≤ m) (hal : a.length ≤ 4096) (htop : 0 < b.getD (n - 1) 0) (A B : Nat) (hA : val a = A) (hB : val b = B) (hB0 : 0 < B) (hAm : A < 18446744073709551616 ^ a.length) (hQ : A / B < NMax) :
    Meets Tryz.prog 187 [.ints .u64 a, .ints .u64 b] (.tup [.ints .u64 (natL (A / B)), .ints .u64 (natL (A % B))]) := by
  have hbt := getD_limb hb (n - 1)
  obtain ⟨s, hs, hs1, hs2, hlead⟩ := leading (b.getD (n - 1) 0) ⟨htop, hbt.2⟩
  have hs64 : s < 64 := by omega
  -- the divisor, raised
  have hBn : B * 2 ^ s < 18446744073709551616 ^ n := by
    obtain ⟨lo, l1, l2, l3⟩ := vt_low hb (show 1 ≤ n by omega)
    have h1 : (B : Int) * 2 ^ s < B64 ^ n := by
      have hv : (B : Int) = vt b n := by rw [← hB]; unfold val; rw [hbn]
      have e : B64 ^ n = B64 ^ (n - 1) * B64 := by rw [← Int.pow_succ, show (n - 1).succ = n by omega]
      rw [hv, l3, e]
      have hP : (0 : Int) < 2 ^ s := Int.pow_pos (by decide)
      have h2 : (lo + 1) * 2 ^ s ≤ B64 ^ (n - 1) * 2 ^ s := Int.mul_le_mul_of_nonneg_right l2 (Int.le_of_lt hP)
      have h3 : B64 ^ (n - 1) * (b.getD (n - 1) 0 * 2 ^ s + 2 ^ s) ≤ B64 ^ (n - 1) * B64 := by
        refine Int.mul_le_mul_of_nonneg_left ?_ (Int.le_of_lt (pow_pos64 _))
        -- both are multiples of 2^s
        have e3 : (B64 : Int) = 2 ^ (64 - s) * 2 ^ s := by rw [← Int.pow_add, show 64 - s + s = 64 by omega]; rfl
        rw [show b.getD (n - 1) 0 * 2 ^ s + 2 ^ s = (b.getD (n - 1) 0 + 1) * 2 ^ s by rw [Int.add_mul, Int.one_mul], e3]
        refine Int.mul_le_mul_of_nonneg_right ?_ (Int.le_of_lt hP)
        rw [e3] at hs2
        have := Int.lt_of_mul_lt_mul_right hs2 (Int.le_of_lt hP)
        omega
      rw [Int.mul_add] at h3
      rw [Int.add_mul, Int.mul_assoc]
      rw [Int.add_mul, Int.one_mul] at h2
      have e4 : B64 ^ (n - 1) * 2 ^ s = B64 ^ (n - 1) * 2 ^ s := rfl
      generalize B64 ^ (n - 1) * (b.getD (n - 1) 0 * 2 ^ s) = x at *
      generalize B64 ^ (n - 1) * 2 ^ s = y at *
      generalize B64 ^ (n - 1) * B64 = z at *
      generalize lo * 2 ^ s = w at *
      omega
    have e : B64 ^ n = ((18446744073709551616 ^ n : Nat) : Int) := by rw [Int.natCast_pow]; rfl
    rw [e] at h1
    have h2 : ((B * 2 ^ s : Nat) : Int) < ((18446744073709551616 ^ n : Nat) : Int) := by rw [Int.natCast_mul, Int.natCast_pow]; exact h1
    exact Int.ofNat_lt.1 h2
  have hAn : A * 2 ^ s < 18446744073709551616 ^ (m + n) := by
    rw [← ham, Nat.pow_succ]
    exact Nat.mul_lt_mul_of_lt_of_le hAm (Nat.le_trans (Nat.pow_le_pow_right (by decide) (show s ≤ 63 by omega)) (by decide)) (by decide)
  have hrv := raised_h b hb s n hs64 (by omega) (by omega) (B * 2 ^ s) (by rw [hB, Int.natCast_mul, Int.natCast_pow]; rfl) hBn
  have hru := raised_h a ha s (m + n) hs64 (by omega) (by omega) (A * 2 ^ s) (by rw [hA, Int.natCast_mul, Int.natCast_pow]; rfl) hAn
  -- what the loops lead to
  have hPs : 0 < 2 ^ s := Nat.two_pow_pos s
  have hdiv : A * 2 ^ s / (B * 2 ^ s) = A / B := Nat.mul_div_mul_right _ _ hPs
  have hmod : A * 2 ^ s % (B * 2 ^ s) = A % B * 2 ^ s := Nat.mul_mod_mul_right ..
  have w1 : IntKind.wrap .i64 ((n : Int) - 1) = ((n - 1 : Nat) : Int) := by rw [wrap_i64 (by omega)]; omega
  have w2 : IntKind.wrap .i64 ((a.length : Int) + 1) = ((m + n : Nat) : Int) := by rw [wrap_i64 (by omega)]; omega
  have w3 : IntKind.wrap .i64 ((a.length : Int) - (n : Int)) = ((m - 1 : Nat) : Int) := by rw [wrap_i64 (by omega)]; omega
  have w4 : IntKind.wrap .i64 (((m - 1 : Nat) : Int) + 1) = (m : Int) := by rw [wrap_i64 (by omega)]; omega
  have w5 : IntKind.wrap .i64 ((m : Int) - 1) = (m : Int) - 1 := wrap_i64 (by omega)
  clear hAn hA hBn
  refine meets_by ttOk Tryz.func187 Tryz.ntmps187 Tryz.results187 (by kernel_rfl) (c := _) rfl rfl rfl fun E => ?_
  simp only [argsFrame]
  repeat' first
    | (with_reducible first | refine PW.seq ?_ | refine PW.block ?_ | refine PW.fork ?_ | refine PW.skip ?_ | refine PW.exit ?_ | refine PW.ret ?_ | refine PW.scope ?_ | refine PW.label ?_ | refine PW.goto ?_)
    | (simp only [hbn, w1, w2, w3, w4, w5, Int.toNat_natCast])
    | (with_reducible refine PW.region ttOk ?_ ?_
       · rfl)
    | (with_reducible refine PW.regionD ttOk mixed ?_ ?_ ?_
       · rfl
       · rfl)
    | (with_reducible refine ifW_dec (fun g => ?_) (fun g => ?_) <;> first | (exfalso; omega) | (simp -dsimp only [g, wkI]))
    | (with_reducible refine condE_dec (fun g => ?_) (fun g => ?_) <;> try (exfalso; omega))
    | (with_reducible refine condE_not (fun g => ?_) (fun g => ?_) <;> try (exfalso; omega))
    | (simp -dsimp only [↓wkA, ↓wkE, ↓wkJ, wkB, ↓tt, Nat.reduceBEq, Nat.reduceEqDiff, ↓reduceIte, Nat.reduceLT, Array.toList, Nat.reduceAdd, Nat.reduceMul, Int.reduceToNat, Int.reducePow, UInt8.reduceToNat])
    | (refine call_by (hlead) (views_data rfl) ⟨trivial, trivial⟩ rfl ?_)
    | (refine call_h (hrv _ _ _ _) ?_; rintro _ _ ⟨v, hvl, hvL, hvV, rfl, rfl⟩; refine ⟨_, _, rfl, ?_⟩)
    | (refine call_h (hru _ _ _ _) ?_; rintro _ _ ⟨u, hul, huL, huV, rfl, rfl⟩; refine ⟨_, _, rfl, ?_⟩)
    | (simp -dsimp (disch := first | assumption | omega) only [dec_t, dec_f])
    | (refine And.intro ?_ ?_
       · first | omega | decide | (simp (disch := omega) only [wkW, Int.reduceToNat, Int.reducePow] <;> omega) | (simp <;> omega))
    | (simp (disch := omega) only [wkW, Int.reduceToNat, Int.reducePow])
    | fail
  have hvv : vt v n = ((B * 2 ^ s : Nat) : Int) := by rw [← hvV]; unfold val; rw [hvl]
  have huu : vt u (m + n) = ((A * 2 ^ s : Nat) : Int) := by rw [← huV]; unfold val; rw [hul]
  have hVlow : B64 ^ (n - 1) * 9223372036854775808 ≤ vt v n := by
    obtain ⟨lo, l1, l2, l3⟩ := vt_low hb (show 1 ≤ n by omega)
    have hv : (B : Int) = vt b n := by rw [← hB]; unfold val; rw [hbn]
    have e : vt v n = (lo + B64 ^ (n - 1) * b.getD (n - 1) 0) * 2 ^ s := by rw [hvv, Int.natCast_mul, Int.natCast_pow, hv, l3]; rfl
    rw [e, Int.add_mul, Int.mul_assoc]
    have h1 := Int.mul_le_mul_of_nonneg_left hs1 (Int.le_of_lt (pow_pos64 (n - 1)))
    have h2 : 0 ≤ lo * 2 ^ s := Int.mul_nonneg l1 (Int.le_of_lt (Int.pow_pos (by decide)))
    omega
  have hVup := (vt_bound hvL n).2
  have hVpos : 0 < vt v n := by
    have := Int.mul_pos (pow_pos64 (n - 1)) (show (0 : Int) < 9223372036854775808 by decide)
    omega
  have hvtop : 0 < v.getD (n - 1) 0 := by
    obtain ⟨lo, l1, l2, l3⟩ := vt_low hvL (show 1 ≤ n by omega)
    refine Int.lt_of_not_ge fun h => ?_
    have h1 : B64 ^ (n - 1) * v.getD (n - 1) 0 ≤ 0 := Int.mul_nonpos_of_nonneg_of_nonpos (Int.le_of_lt (pow_pos64 _)) h
    have h2 : B64 ^ (n - 1) * 1 ≤ B64 ^ (n - 1) * 9223372036854775808 := Int.mul_le_mul_of_nonneg_left (by decide) (Int.le_of_lt (pow_pos64 _))
    omega
  have htop0 : vt (u.drop m) n < vt v n := by
    refine Int.lt_of_lt_of_le ?_ hVlow
    have h1 : B64 ^ m * vt (u.drop m) n ≤ vt u (m + n) := by
      rw [vt_split]
      have := (vt_bound huL m).1
      omega
    have h2 : vt u (m + n) < B64 ^ m * (B64 ^ (n - 1) * 9223372036854775808) := by
      rw [huu, ← Int.mul_assoc, ← Int.pow_add, show m + (n - 1) = a.length by omega, Int.natCast_mul, Int.natCast_pow]
      have hA1 : (A : Int) < B64 ^ a.length := by
        have e : B64 ^ a.length = ((18446744073709551616 ^ a.length : Nat) : Int) := by rw [Int.natCast_pow]; rfl
        rw [e]; exact Int.ofNat_lt.2 hAm
      have hP : (2 : Int) ^ s ≤ 2 ^ 63 := by exact_mod_cast Nat.pow_le_pow_right (by decide) hs
      have hP2 : (2 : Int) ^ 63 = 9223372036854775808 := by decide
      have hP0 : (0 : Int) < 2 ^ s := Int.pow_pos (by decide)
      have k1 : (A : Int) * 2 ^ s ≤ (A : Int) * 9223372036854775808 := Int.mul_le_mul_of_nonneg_left (by omega) (by omega)
      have k2 : (A : Int) * 9223372036854775808 < B64 ^ a.length * 9223372036854775808 := Int.mul_lt_mul_of_pos_right hA1 (by decide)
      have k3 : (A : Int) * ((2 : Nat) : Int) ^ s = (A : Int) * 2 ^ s := rfl
      omega
    exact Int.lt_of_mul_lt_mul_left (Int.lt_of_le_of_lt h1 h2) (Int.le_of_lt (pow_pos64 m))
  have hstart : LongS u (List.replicate m 0) (vt u (m + n)) (vt v n) n m m := ⟨hul, by simp, huL, limbs_zeros _, fun k _ => getD_zeros _ _, by rw [vt_zeros]; simp, htop0⟩
  have hend : ∀ u' q', LongS u' q' (vt u (m + n)) (vt v n) n m 0 → val q' = ((A / B : Nat) : Int) ∧ val (u'.take n) = ((A % B * 2 ^ s : Nat) : Int) := fun u' q' hS => by
    have he := hS.eq
    have ht := hS.top
    rw [List.drop_zero] at ht
    rw [Nat.zero_add, huu] at he
    have hl := (vt_bound hS.ulim n).1
    have hn2 : (u'.take n).length = n := by rw [List.length_take, hS.ul]; omega
    have e1 : vt q' m = ((A / B : Nat) : Int) := by
      rw [← hdiv, Int.natCast_ediv, he, ← hvv, Int.add_mul_ediv_right _ _ (by omega), Int.ediv_eq_zero_of_lt hl ht, Int.zero_add]
    have e2 : vt u' n = ((A % B * 2 ^ s : Nat) : Int) := by
      rw [← hmod, Int.natCast_emod, he, ← hvv, Int.add_mul_emod_self_right, Int.emod_eq_of_lt hl ht]
    refine ⟨by unfold val; rw [hS.ql]; exact e1, ?_⟩
    unfold val
    rw [hn2, ← e2]
    exact vt_same n fun k hk => getD_take' hk
  clear hVlow htop0 hvv huu huV hvV hdiv hmod hs1 hs2 hAm hrv hru hlead
  generalize vt u (m + n) = U at *
  refine PW.loopA (fun J F H => ∃ u q, LongS u q U (vt v n) n m J ∧ J ≤ m ∧ F = loF v s n m J ∧ H = loH u q) m (loF v s n m m) (loH u (List.replicate m 0)) (Sub.trans (toData 8 0 0 n true rfl (show 0 + n ≤ v.length by omega)) (Sub.norm ⟨rfl, rfl, rfl, ?_, rfl, rfl, trivial⟩ ⟨rfl, rfl, trivial⟩ (Nat.le_refl _) rfl rfl rfl rfl (tyOk_spec rfl))) ⟨u, _, hstart, Nat.le_refl _, rfl, rfl⟩ ?_
  · show PV.ints .u64 ((v.drop 0).take n) = _
    rw [List.take_of_length_le (by rw [List.drop_zero]; omega), List.drop_zero]
  clear hstart hul huL
  clear u
  rintro J F H ⟨u, q, hS, hJ, rfl, rfl⟩
  have hul := hS.ul
  have hql := hS.ql
  cases J with
  | zero =>
    obtain ⟨f1, f2⟩ := hend u q hS
    have hsh := nat_shr_l (l := u.take n) (n := s) (limbs_take hS.ulim n) (by rw [List.length_take]; omega) f2 (by omega)
    rw [Nat.mul_div_cancel _ hPs] at hsh
    have htr := nat_trim q (by omega)
    rw [trim_eq hS.qlim, f1, Int.toNat_natCast] at htr
    generalize decide (A % B * 2 ^ s % 2 ^ s ≠ 0) = lost at *
    generalize natL (A / B) = rq at *
    generalize natL (A % B) = rr at *
    clear hS hend f1 f2 hvtop hVpos hVup
    repeat' first
      | (with_reducible first | refine PW.seq ?_ | refine PW.block ?_ | refine PW.fork ?_ | refine PW.skip ?_ | refine PW.exit ?_ | refine PW.ret ?_ | refine PW.scope ?_ | refine PW.label ?_ | refine PW.goto ?_)
      | (simp only [Int.sub_zero, Int.toNat_natCast])
      | (with_reducible refine PW.region ttOk ?_ ?_
         · rfl)
      | (with_reducible refine PW.regionD ttOk mixed ?_ ?_ ?_
         · rfl
         · rfl)
      | (with_reducible refine ifW_dec (fun g => ?_) (fun g => ?_) <;> first | (exfalso; omega) | (simp -dsimp only [g, wkI]))
      | (with_reducible refine condE_dec (fun g => ?_) (fun g => ?_) <;> try (exfalso; omega))
      | (with_reducible refine condE_not (fun g => ?_) (fun g => ?_) <;> try (exfalso; omega))
      | (simp -dsimp only [↓wkA, ↓wkE, ↓wkJ, wkB, ↓tt, Nat.reduceBEq, Nat.reduceEqDiff, ↓reduceIte, Nat.reduceLT, Array.toList, Nat.reduceAdd, Nat.reduceMul, Int.reduceToNat, Int.reducePow, UInt8.reduceToNat])
      | (refine call_drop (args' := [.ints .u64 (u.take n), .int .i64 (s : Int)]) (by simp -dsimp only [↓wkA, ↓wkE, ↓wkJ, wkB, ↓tt, Nat.reduceBEq, Nat.reduceEqDiff, ↓reduceIte, Nat.reduceLT, Array.toList, Nat.reduceAdd, Nat.reduceMul, Int.reduceToNat, Int.reducePow, UInt8.reduceToNat]) hsh (by simp -dsimp only [okViews, ↓wkA, ↓wkE, ↓wkJ, wkB, ↓tt, Nat.reduceBEq, Nat.reduceEqDiff, ↓reduceIte, Nat.reduceLT, Array.toList, Nat.reduceAdd, Nat.reduceMul, Int.reduceToNat, Int.reducePow, UInt8.reduceToNat] <;> omega) rfl ?_; simp only [wkD, Nat.reduceBEq])
      | (refine call_drop (args' := [.ints .u64 q]) (by simp -dsimp only [↓wkA, ↓wkE, ↓wkJ, wkB, ↓tt, Nat.reduceBEq, Nat.reduceEqDiff, ↓reduceIte, Nat.reduceLT, Array.toList, Nat.reduceAdd, Nat.reduceMul, Int.reduceToNat, Int.reducePow, UInt8.reduceToNat] <;> rw [List.take_of_length_le (by omega)]) htr (by simp -dsimp only [okViews, ↓wkA, ↓wkE, ↓wkJ, wkB, ↓tt, Nat.reduceBEq, Nat.reduceEqDiff, ↓reduceIte, Nat.reduceLT, Array.toList, Nat.reduceAdd, Nat.reduceMul, Int.reduceToNat, Int.reducePow, UInt8.reduceToNat] <;> omega) rfl ?_)
      | (simp -dsimp (disch := first | assumption | omega) only [dec_t, dec_f])
      | (refine And.intro ?_ ?_
         · first | omega | decide | (simp (disch := omega) only [wkW, Int.reduceToNat, Int.reducePow] <;> omega) | (simp <;> omega))
      | (simp (disch := omega) only [wkW, Int.reduceToNat, Int.reducePow])
      | fail
  | succ j =>
    have hpart := hS.part
    have hPs0 := (vt_bound (limbs_drop hS.ulim j) (n + 1)).1
    have hpl : ((u.drop j).take (n + 1)).length = n + 1 := by rw [List.length_take, List.length_drop, hul]; omega
    have hpvt : vt ((u.drop j).take (n + 1)) (n + 1) = vt (u.drop j) (n + 1) := vt_same _ fun k hk => getD_take' hk
    obtain ⟨X, hX⟩ : ∃ X, vt (u.drop j) (n + 1) = X := ⟨_, rfl⟩
    have hX0 := hX
    rw [hX] at hpart hPs0 hpvt
    have hqv : X / vt v n * vt v n ≤ X := Int.ediv_mul_le _ (by omega)
    have hq0 : 0 ≤ X / vt v n := Int.ediv_nonneg hPs0 (by omega)
    have hqlt : X < (X / vt v n + 1) * vt v n := by
      have := Int.lt_ediv_add_one_mul_self X hVpos
      exact this
    obtain ⟨qd, hqd⟩ : ∃ qd, X / vt v n = qd := ⟨_, rfl⟩
    rw [hqd] at hqv hq0 hqlt
    have hg := quot_guess ((u.drop j).take (n + 1)) v n (limbs_take (limbs_drop hS.ulim j) _) hvL hpl hvl (by omega) hvtop
    obtain ⟨g1, g2, g3⟩ := guess_ge (q := qd) (limbs_take (limbs_drop hS.ulim j) (n + 1)) hvL (show 1 ≤ n by omega) hvtop (by rw [hpvt]; exact hqv) (by rw [hpvt]; exact hpart)
    generalize guessV ((u.drop j).take (n + 1)) v n = d0 at *
    have hoff := take_off_h u v hS.ulim hvL d0 ⟨g2, g3⟩ j n hvl (by omega) (by omega) (by omega)
    have w6 : IntKind.wrap .i64 ((j : Int) + (n : Int)) = ((j + n : Nat) : Int) := wrap_i64 (by omega)
    have w7 : IntKind.wrap .i64 (((j + n : Nat) : Int) + 1) = ((j + n + 1 : Nat) : Int) := by rw [wrap_i64 (by omega)]; omega
    have w8 : IntKind.wrap .i64 ((j : Int) - 1) = (j : Int) - 1 := wrap_i64 (by omega)
    have e0 : (((j + 1 : Nat) : Int) - 1) = (j : Int) := by omega
    have e1 : (((j + n + 1 : Nat) : Int) - (j : Int)).toNat = n + 1 := by omega
    have hdig := fun u' d h1 h2 h3 h4 => hS.digit (u' := u') (d := d) (by omega) (by omega) hVup h1 h2 h3 h4
    rw [hX] at hoff hdig
    clear hend hpart hpl hpvt hX hqd
    repeat' first
      | (with_reducible first | refine PW.seq ?_ | refine PW.block ?_ | refine PW.fork ?_ | refine PW.skip ?_ | refine PW.exit ?_ | refine PW.ret ?_ | refine PW.scope ?_ | refine PW.label ?_ | refine PW.goto ?_)
      | (simp only [e0, e1, w6, w7, w8, Int.toNat_natCast, Nat.zero_add])
      | (with_reducible refine PW.region ttOk ?_ ?_
         · rfl)
      | (with_reducible refine PW.regionD ttOk mixed ?_ ?_ ?_
         · rfl
         · rfl)
      | (with_reducible refine ifW_dec (fun g => ?_) (fun g => ?_) <;> first | (exfalso; omega) | (simp -dsimp only [g, wkI]))
      | (with_reducible refine condE_dec (fun g => ?_) (fun g => ?_) <;> try (exfalso; omega))
      | (with_reducible refine condE_not (fun g => ?_) (fun g => ?_) <;> try (exfalso; omega))
      | (simp -dsimp only [↓wkA, ↓wkE, ↓wkJ, wkB, ↓tt, Nat.reduceBEq, Nat.reduceEqDiff, ↓reduceIte, Nat.reduceLT, Array.toList, Nat.reduceAdd, Nat.reduceMul, Int.reduceToNat, Int.reducePow, UInt8.reduceToNat])
      | (refine call_by' (args' := [.ints .u64 ((u.drop j).take (n + 1)), .ints .u64 v]) (by simp -dsimp only [↓wkA, ↓wkE, ↓wkJ, wkB, ↓tt, Nat.reduceBEq, Nat.reduceEqDiff, ↓reduceIte, Nat.reduceLT, Array.toList, Nat.reduceAdd, Nat.reduceMul, Int.reduceToNat, Int.reducePow, UInt8.reduceToNat]) hg (by simp -dsimp only [okViews, ↓wkA, ↓wkE, ↓wkJ, wkB, ↓tt, Nat.reduceBEq, Nat.reduceEqDiff, ↓reduceIte, Nat.reduceLT, Array.toList, Nat.reduceAdd, Nat.reduceMul, Int.reduceToNat, Int.reducePow, UInt8.reduceToNat] <;> omega) rfl ?_)
      | (refine call_h (hoff 1 _ _ _ _ rfl) ?_; rintro _ _ ⟨l', b, hp1, hb0, hb1, hv1, rfl, rfl⟩; refine ⟨_, _, rfl, ?_⟩)
      | (simp -dsimp (disch := first | assumption | omega) only [dec_t, dec_f])
      | (refine And.intro ?_ ?_
         · first | omega | decide | (simp (disch := omega) only [wkW, Int.reduceToNat, Int.reducePow] <;> omega) | (simp <;> omega))
      | (simp (disch := omega) only [wkW, Int.reduceToNat, Int.reducePow])
      | fail
    have hXlt : X < B64 ^ (n + 1) := by
      have h1 := (vt_bound (limbs_drop hS.ulim j) (n + 1)).2
      rw [hX0] at h1
      exact h1
    have hb1' : (decide (b = 1) = true ↔ X < d0 * vt v n) ∧ vt (l'.drop j) (n + 1) = X - d0 * vt v n + (if decide (b = 1) = true then B64 ^ (n + 1) else 0) := by
      have hl1 := vt_bound (limbs_drop hp1.lim j) (n + 1)
      rcases (show b = 0 ∨ b = 1 by omega) with rfl | rfl
      · simp only [Int.mul_zero, Int.add_zero] at hv1
        simp
        omega
      · simp only [Int.mul_one] at hv1
        simp
        omega
    refine PW.loopA (fun k F H => ∃ u' d bl, k = (d - qd).toNat ∧ qd ≤ d ∧ d < B64 ∧ PartS u u' j (n + 1) ∧ (bl = true ↔ X < d * vt v n) ∧ vt (u'.drop j) (n + 1) = X - d * vt v n + (if bl = true then B64 ^ (n + 1) else 0) ∧ F = loG v s n m j d bl ∧ H = loH u' q) (d0 - qd).toNat (loG v s n m j d0 (decide (b = 1))) (loH l' q) (Sub.norm ⟨rfl, rfl, rfl, congrArg (PV.int .i64) e0, rfl, rfl, rfl, rfl, rfl, trivial⟩ ⟨rfl, rfl, trivial⟩ (Nat.le_refl _) rfl rfl rfl rfl) ⟨l', d0, _, rfl, g1, g3, hp1, hb1'.1, hb1'.2, rfl, rfl⟩ ?_
    clear hb1' hv1 hb0 hb1 hp1 g1 g2 g3 hoff hg l' b
    rintro k F H ⟨u', d, bl, hk, hqd1, hd, hp, hbl, hvt, rfl, rfl⟩
    cases bl with
    | false =>
      have hle : ¬ X < d * vt v n := fun h => by have := hbl.2 h; cases this
      have hdq : d = qd := by
        refine Int.le_antisymm (Int.le_of_not_gt fun h => ?_) hqd1
        have h1 : (qd + 1) * vt v n ≤ d * vt v n := Int.mul_le_mul_of_nonneg_right h (by omega)
        omega
      have hvt2 : vt (u'.drop j) (n + 1) = X - d * vt v n := by rw [hvt]; simp
      have hlt2 : vt (u'.drop j) (n + 1) < vt v n := by
        rw [hvt2, hdq]
        rw [Int.add_mul, Int.one_mul] at hqlt
        omega
      have hfin := hdig u' d hp ⟨by omega, hd⟩ hvt2 hlt2
      have hul' := hp.len
      clear hvt hvt2 hlt2 hdig hbl hp hqv hqlt hle hS
      repeat' first
        | (with_reducible first | refine PW.seq ?_ | refine PW.block ?_ | refine PW.fork ?_ | refine PW.skip ?_ | refine PW.exit ?_ | refine PW.ret ?_ | refine PW.scope ?_ | refine PW.label ?_ | refine PW.goto ?_)
        | (simp only [w8, Int.toNat_natCast])
        | (with_reducible refine PW.region ttOk ?_ ?_
           · rfl)
        | (with_reducible refine PW.regionD ttOk mixed ?_ ?_ ?_
           · rfl
           · rfl)
        | (with_reducible refine ifW_dec (fun g => ?_) (fun g => ?_) <;> first | (exfalso; omega) | (simp -dsimp only [g, wkI]))
        | (with_reducible refine condE_dec (fun g => ?_) (fun g => ?_) <;> try (exfalso; omega))
        | (with_reducible refine condE_not (fun g => ?_) (fun g => ?_) <;> try (exfalso; omega))
        | (simp -dsimp only [↓wkA, ↓wkE, ↓wkJ, wkB, ↓tt, Nat.reduceBEq, Nat.reduceEqDiff, ↓reduceIte, Nat.reduceLT, Array.toList, Nat.reduceAdd, Nat.reduceMul, Int.reduceToNat, Int.reducePow, UInt8.reduceToNat])
        | (simp -dsimp (disch := first | assumption | omega) only [dec_t, dec_f])
        | (refine And.intro ?_ ?_
           · first | omega | decide | (simp (disch := omega) only [wkW, Int.reduceToNat, Int.reducePow] <;> omega) | (simp <;> omega))
        | (simp (disch := omega) only [wkW, Int.reduceToNat, Int.reducePow])
        | fail
      exact Again.mk j (loF v s n m j) (loH u' (q.set j d)) (by omega) (Sub.norm ⟨rfl, rfl, rfl, rfl, rfl, rfl, trivial⟩ ⟨rfl, rfl, trivial⟩ (Nat.le_refl _) rfl rfl rfl rfl) ⟨u', _, hfin, by omega, rfl, rfl⟩
    | true =>
      have hlt : X < d * vt v n := hbl.1 rfl
      have hd1 : qd + 1 ≤ d := by
        refine Int.lt_of_not_ge fun h => ?_
        have h1 : d * vt v n ≤ qd * vt v n := Int.mul_le_mul_of_nonneg_right h (by omega)
        omega
      have hw : IntKind.wrap .u64 (d - 1) = d - 1 := wrap_u64 (by simp only [B64] at hd; omega)
      have hul' := hp.len
      have hback := put_back_h u' v hp.lim hvL j n hvl (by omega) (by omega) (by omega)
      have hstep : ∀ l' c, PartS u' l' j (n + 1) → 0 ≤ c → c ≤ 1 → vt (l'.drop j) (n + 1) + B64 ^ (n + 1) * c = vt (u'.drop j) (n + 1) + vt v n → ((!decide (c = 1)) = true ↔ X < (d - 1) * vt v n) ∧ vt (l'.drop j) (n + 1) = X - (d - 1) * vt v n + (if (!decide (c = 1)) = true then B64 ^ (n + 1) else 0) := fun l' c hpl hc0 hc1 hv1 => by
        have hl1 := vt_bound (limbs_drop hpl.lim j) (n + 1)
        rw [hvt, if_pos rfl] at hv1
        have e : (d - 1) * vt v n = d * vt v n - vt v n := by rw [Int.sub_mul, Int.one_mul]
        rw [e]
        rcases (show c = 0 ∨ c = 1 by omega) with rfl | rfl
        · simp only [Int.mul_zero, Int.add_zero] at hv1
          simp
          omega
        · simp only [Int.mul_one] at hv1
          simp
          omega
      clear hdig hbl hvt hlt hqv hqlt hS
      repeat' first
        | (with_reducible first | refine PW.seq ?_ | refine PW.block ?_ | refine PW.fork ?_ | refine PW.skip ?_ | refine PW.exit ?_ | refine PW.ret ?_ | refine PW.scope ?_ | refine PW.label ?_ | refine PW.goto ?_)
        | (simp only [hw, Int.toNat_natCast])
        | (with_reducible refine PW.region ttOk ?_ ?_
           · rfl)
        | (with_reducible refine PW.regionD ttOk mixed ?_ ?_ ?_
           · rfl
           · rfl)
        | (with_reducible refine ifW_dec (fun g => ?_) (fun g => ?_) <;> first | (exfalso; omega) | (simp -dsimp only [g, wkI]))
        | (with_reducible refine condE_dec (fun g => ?_) (fun g => ?_) <;> try (exfalso; omega))
        | (with_reducible refine condE_not (fun g => ?_) (fun g => ?_) <;> try (exfalso; omega))
        | (simp -dsimp only [↓wkA, ↓wkE, ↓wkJ, wkB, ↓tt, Nat.reduceBEq, Nat.reduceEqDiff, ↓reduceIte, Nat.reduceLT, Array.toList, Nat.reduceAdd, Nat.reduceMul, Int.reduceToNat, Int.reducePow, UInt8.reduceToNat])
        | (refine call_h (hback 1 _ _ _ _ rfl) ?_; rintro _ _ ⟨l', c, hp1, hc0, hc1, hv1, rfl, rfl⟩; refine ⟨_, _, rfl, ?_⟩)
        | (simp -dsimp (disch := first | assumption | omega) only [dec_t, dec_f])
        | (refine And.intro ?_ ?_
           · first | omega | decide | (simp (disch := omega) only [wkW, Int.reduceToNat, Int.reducePow] <;> omega) | (simp <;> omega))
        | (simp (disch := omega) only [wkW, Int.reduceToNat, Int.reducePow])
        | fail
      obtain ⟨k1, k2⟩ := hstep l' c hp1 hc0 hc1 hv1
      exact Again.mk (d - 1 - qd).toNat (loG v s n m j (d - 1) (!decide (c = 1))) (loH l' q) (by omega) (Sub.norm ⟨rfl, rfl, rfl, rfl, rfl, rfl, rfl, rfl, rfl, trivial⟩ ⟨rfl, rfl, trivial⟩ (Nat.le_refl _) rfl rfl rfl rfl) ⟨l', _, _, rfl, by omega, by omega, hp.trans hp1, k1, k2, rfl, rfl⟩
theorem small_nat {u : Nat} (hu : u < NMax) : Meets Tryz.prog 155 [.ints .u64 (natL u), .int .i64 4096] (.tup [.ints .u64 (natL u), .bool true]) := by
  have hl := natL_small hu
  have h := nat_trim (natL u) (by omega)
  rw [trim_natL] at h
  have hd : decide (((natL u).length : Int) ≤ 4096) = true := decide_eq_true (by omega)
  generalize natL u = a at *
  refine meets_by ttOk Tryz.func155 Tryz.ntmps155 Tryz.results155 (by kernel_rfl) (c := _) rfl rfl rfl fun E => ?_
  simp only [argsFrame]
  repeat' first
    | (with_reducible first | refine PW.seq ?_ | refine PW.block ?_ | refine PW.fork ?_ | refine PW.skip ?_ | refine PW.exit ?_ | refine PW.ret ?_ | refine PW.scope ?_ | refine PW.label ?_ | refine PW.goto ?_)
    | (simp only [hd])
    | (with_reducible refine PW.region ttOk ?_ ?_
       · rfl)
    | (with_reducible refine PW.regionD ttOk mixed ?_ ?_ ?_
       · rfl
       · rfl)
    | (with_reducible refine ifW_dec (fun g => ?_) (fun g => ?_) <;> first | (exfalso; omega) | (simp -dsimp only [g, wkI]))
    | (with_reducible refine condE_dec (fun g => ?_) (fun g => ?_) <;> try (exfalso; omega))
    | (with_reducible refine condE_not (fun g => ?_) (fun g => ?_) <;> try (exfalso; omega))
    | (simp -dsimp only [↓wkA, ↓wkE, ↓wkJ, wkB, ↓tt, Nat.reduceBEq, Nat.reduceEqDiff, ↓reduceIte, Nat.reduceLT, Array.toList, Nat.reduceAdd, Nat.reduceMul, Int.reduceToNat, Int.reducePow, UInt8.reduceToNat])
    | (refine call_by (h) (views_data rfl) ⟨trivial, trivial⟩ rfl ?_)
    | (simp -dsimp (disch := first | assumption | omega) only [dec_t, dec_f])
    | (refine And.intro ?_ ?_
       · first | omega | decide | (simp (disch := omega) only [wkW, Int.reduceToNat, Int.reducePow] <;> omega) | (simp <;> omega))
    | (simp (disch := omega) only [wkW, Int.reduceToNat, Int.reducePow])
    | fail
theorem div_mod {u v : Nat} (hu : u < NMax) (hv : v < NMax) (hv0 : v ≠ 0) : Meets Tryz.prog 147 [.ints .u64 (natL u), .ints .u64 (natL v)] (.tup [.ints .u64 (natL (u / v)), .ints .u64 (natL (u % v)), .int .i64 0]) := by
  have h1 := small_nat hu
  have h2 := small_nat hv
  have h3 := cmp_nat hu hv
  have hlu := natL_small hu
  have hlv := natL_small hv
  obtain ⟨hv1, hv2⟩ := natL_ge hv0
  have hl0 : decide (((natL v).length : Int) = 0) = false := decide_eq_false (by omega)
  by_cases hlt : u < v
  · rw [if_pos hlt] at h3
    rw [Nat.div_eq_of_lt hlt, Nat.mod_eq_of_lt hlt, natL_zero]
    refine Meets.nil_head .u64 ?_
    generalize natL u = a at *
    generalize natL v = b at *
    refine meets_by ttOk Tryz.func147 Tryz.ntmps147 Tryz.results147 (by kernel_rfl) (c := _) rfl rfl rfl fun E => ?_
    simp only [argsFrame]
    repeat' first
      | (with_reducible first | refine PW.seq ?_ | refine PW.block ?_ | refine PW.fork ?_ | refine PW.skip ?_ | refine PW.exit ?_ | refine PW.ret ?_ | refine PW.scope ?_ | refine PW.label ?_ | refine PW.goto ?_)
      | (simp only [hl0])
      | (with_reducible refine PW.region ttOk ?_ ?_
         · rfl)
      | (with_reducible refine PW.regionD ttOk mixed ?_ ?_ ?_
         · rfl
         · rfl)
      | (with_reducible refine ifW_dec (fun g => ?_) (fun g => ?_) <;> first | (exfalso; omega) | (simp -dsimp only [g, wkI]))
      | (with_reducible refine condE_dec (fun g => ?_) (fun g => ?_) <;> try (exfalso; omega))
      | (with_reducible refine condE_not (fun g => ?_) (fun g => ?_) <;> try (exfalso; omega))
      | (simp -dsimp only [↓wkA, ↓wkE, ↓wkJ, wkB, ↓tt, Nat.reduceBEq, Nat.reduceEqDiff, ↓reduceIte, Nat.reduceLT, Array.toList, Nat.reduceAdd, Nat.reduceMul, Int.reduceToNat, Int.reducePow, UInt8.reduceToNat])
      | (refine call_by (h1) (views_data rfl) ⟨trivial, trivial, trivial⟩ rfl ?_)
      | (refine call_by (h2) (views_data rfl) ⟨trivial, trivial, trivial⟩ rfl ?_)
      | (refine call_by (h3) (views_data rfl) ⟨trivial, trivial, trivial⟩ rfl ?_)
      | (simp -dsimp (disch := first | assumption | omega) only [dec_t, dec_f])
      | (refine And.intro ?_ ?_
         · first | omega | decide | (simp (disch := omega) only [wkW, Int.reduceToNat, Int.reducePow] <;> omega) | (simp <;> omega))
      | (simp (disch := omega) only [wkW, Int.reduceToNat, Int.reducePow])
      | fail
  · rw [if_neg hlt] at h3
    have h3' : ∃ c : Int, 0 ≤ c ∧ Meets Tryz.prog 62 [.ints .u64 (natL u), .ints .u64 (natL v)] (.int .i64 c) := ⟨_, by split <;> decide, h3⟩
    clear h3
    obtain ⟨c, hc, h3⟩ := h3'
    have hcd : decide (c < 0) = false := decide_eq_false (by omega)
    by_cases hone : (natL v).length = 1
    · have hv64 : v < 18446744073709551616 := by have := natL_lt v; rw [hone, Nat.pow_one] at this; exact this
      have hd1 : decide (((natL v).length : Int) = 1) = true := decide_eq_true (by omega)
      have hds := div_small_nat hu ⟨by omega, hv64⟩
      have hfu := from_uint (u % v) (Nat.lt_trans (Nat.mod_lt u (by omega)) hv64)
      rw [natL_one v ⟨by omega, hv64⟩] at h2 h3 hl0 hd1 ⊢
      generalize natL (u % v) = rr at *
      generalize natL (u / v) = rq at *
      generalize natL u = a at *
      refine meets_by ttOk Tryz.func147 Tryz.ntmps147 Tryz.results147 (by kernel_rfl) (c := _) rfl rfl rfl fun E => ?_
      simp only [argsFrame]
      repeat' first
        | (with_reducible first | refine PW.seq ?_ | refine PW.block ?_ | refine PW.fork ?_ | refine PW.skip ?_ | refine PW.exit ?_ | refine PW.ret ?_ | refine PW.scope ?_ | refine PW.label ?_ | refine PW.goto ?_)
        | (simp only [hcd])
        | (with_reducible refine PW.region ttOk ?_ ?_
           · rfl)
        | (with_reducible refine PW.regionD ttOk mixed ?_ ?_ ?_
           · rfl
           · rfl)
        | (with_reducible refine ifW_dec (fun g => ?_) (fun g => ?_) <;> first | (exfalso; omega) | (simp -dsimp only [g, wkI]))
        | (with_reducible refine condE_dec (fun g => ?_) (fun g => ?_) <;> try (exfalso; omega))
        | (with_reducible refine condE_not (fun g => ?_) (fun g => ?_) <;> try (exfalso; omega))
        | (simp -dsimp only [↓wkA, ↓wkE, ↓wkJ, wkB, ↓tt, Nat.reduceBEq, Nat.reduceEqDiff, ↓reduceIte, Nat.reduceLT, Array.toList, Nat.reduceAdd, Nat.reduceMul, Int.reduceToNat, Int.reducePow, UInt8.reduceToNat])
        | (refine call_by (h1) (views_data rfl) ⟨trivial, trivial, trivial⟩ rfl ?_)
        | (refine call_by (h2) (views_data rfl) ⟨trivial, trivial, trivial⟩ rfl ?_)
        | (refine call_by (h3) (views_data rfl) ⟨trivial, trivial, trivial⟩ rfl ?_)
        | (refine call_by (hds) (views_data rfl) ⟨trivial, trivial, trivial⟩ rfl ?_)
        | (refine call_by (hfu) (views_data rfl) ⟨trivial, trivial⟩ rfl ?_)
        | (simp -dsimp (disch := first | assumption | omega) only [dec_t, dec_f])
        | (refine And.intro ?_ ?_
           · first | omega | decide | (simp (disch := omega) only [wkW, Int.reduceToNat, Int.reducePow] <;> omega) | (simp <;> omega))
        | (simp (disch := omega) only [wkW, Int.reduceToNat, Int.reducePow])
        | fail
    · have hd1 : decide (((natL v).length : Int) = 1) = false := decide_eq_false (by omega)
      have hle : (natL v).length ≤ (natL u).length := natL_mono (by omega)
      have htop : 0 < (natL v).getD ((natL v).length - 1) 0 := by
        rw [natL_getD]
        have h1 := natL_lt v
        have h2 : 0 < v / 18446744073709551616 ^ ((natL v).length - 1) := Nat.div_pos hv2 (Nat.pow_pos (by decide))
        have h3 : v / 18446744073709551616 ^ ((natL v).length - 1) < 18446744073709551616 := by
          rw [Nat.div_lt_iff_lt_mul (Nat.pow_pos (by decide)), ← Nat.pow_succ', show ((natL v).length - 1).succ = (natL v).length by omega]
          exact h1
        rw [Nat.mod_eq_of_lt h3]
        omega
      have hlo := quot_long (natL u) (natL v) (natL_limbs u) (natL_limbs v) (natL v).length ((natL u).length + 1 - (natL v).length) rfl (by omega) (by omega) (by omega) (by omega) htop u v (val_natL u) (val_natL v) (by omega) (natL_lt u) (Nat.lt_of_le_of_lt (Nat.div_le_self _ _) hu)
      generalize natL (u % v) = rr at *
      generalize natL (u / v) = rq at *
      clear htop hv2 hle
      generalize natL u = a at *
      generalize natL v = b at *
      refine meets_by ttOk Tryz.func147 Tryz.ntmps147 Tryz.results147 (by kernel_rfl) (c := _) rfl rfl rfl fun E => ?_
      simp only [argsFrame]
      repeat' first
        | (with_reducible first | refine PW.seq ?_ | refine PW.block ?_ | refine PW.fork ?_ | refine PW.skip ?_ | refine PW.exit ?_ | refine PW.ret ?_ | refine PW.scope ?_ | refine PW.label ?_ | refine PW.goto ?_)
        | (simp only [hcd, hl0, hd1])
        | (with_reducible refine PW.region ttOk ?_ ?_
           · rfl)
        | (with_reducible refine PW.regionD ttOk mixed ?_ ?_ ?_
           · rfl
           · rfl)
        | (with_reducible refine ifW_dec (fun g => ?_) (fun g => ?_) <;> first | (exfalso; omega) | (simp -dsimp only [g, wkI]))
        | (with_reducible refine condE_dec (fun g => ?_) (fun g => ?_) <;> try (exfalso; omega))
        | (with_reducible refine condE_not (fun g => ?_) (fun g => ?_) <;> try (exfalso; omega))
        | (simp -dsimp only [↓wkA, ↓wkE, ↓wkJ, wkB, ↓tt, Nat.reduceBEq, Nat.reduceEqDiff, ↓reduceIte, Nat.reduceLT, Array.toList, Nat.reduceAdd, Nat.reduceMul, Int.reduceToNat, Int.reducePow, UInt8.reduceToNat])
        | (refine call_by (h1) (views_data rfl) ⟨trivial, trivial, trivial⟩ rfl ?_)
        | (refine call_by (h2) (views_data rfl) ⟨trivial, trivial, trivial⟩ rfl ?_)
        | (refine call_by (h3) (views_data rfl) ⟨trivial, trivial, trivial⟩ rfl ?_)
        | (refine call_by (hlo) (views_data rfl) ⟨trivial, trivial, trivial⟩ rfl ?_)
        | (simp -dsimp (disch := first | assumption | omega) only [dec_t, dec_f])
        | (refine And.intro ?_ ?_
           · first | omega | decide | (simp (disch := omega) only [wkW, Int.reduceToNat, Int.reducePow] <;> omega) | (simp <;> omega))
        | (simp (disch := omega) only [wkW, Int.reduceToNat, Int.reducePow])
        | fail
theorem ieee_near (e : Int) (he : -1000000 ≤ e ∧ e ≤ 1000000) : Meets Tryz.prog 149 [.int .i64 e] (.int .i64 e) := by
  have h1 : (if e < 1099511627776 then e else (1099511627776 : Int)) = e := if_pos (by omega)
  have h2 : (if e > -1099511627776 then e else (-1099511627776 : Int)) = e := if_pos (by omega)
  refine meets_by ttOk Tryz.func149 Tryz.ntmps149 Tryz.results149 (by kernel_rfl) (c := _) rfl rfl rfl fun E => ?_
  simp only [argsFrame]
  repeat' first
    | (with_reducible first | refine PW.seq ?_ | refine PW.block ?_ | refine PW.fork ?_ | refine PW.skip ?_ | refine PW.exit ?_ | refine PW.ret ?_ | refine PW.scope ?_ | refine PW.label ?_ | refine PW.goto ?_)
    | (simp only [h1, h2])
    | (with_reducible refine PW.region ttOk ?_ ?_
       · rfl)
    | (with_reducible refine PW.regionD ttOk mixed ?_ ?_ ?_
       · rfl
       · rfl)
    | (with_reducible refine ifW_dec (fun g => ?_) (fun g => ?_) <;> first | (exfalso; omega) | (simp -dsimp only [g, wkI]))
    | (with_reducible refine condE_dec (fun g => ?_) (fun g => ?_) <;> try (exfalso; omega))
    | (with_reducible refine condE_not (fun g => ?_) (fun g => ?_) <;> try (exfalso; omega))
    | (simp -dsimp only [↓wkA, ↓wkE, ↓wkJ, wkB, ↓tt, Nat.reduceBEq, Nat.reduceEqDiff, ↓reduceIte, Nat.reduceLT, Array.toList, Nat.reduceAdd, Nat.reduceMul, Int.reduceToNat, Int.reducePow, UInt8.reduceToNat])
    | (simp -dsimp (disch := first | assumption | omega) only [dec_t, dec_f])
    | (refine And.intro ?_ ?_
       · first | omega | decide | (simp (disch := omega) only [wkW, Int.reduceToNat, Int.reducePow] <;> omega) | (simp <;> omega))
    | (simp (disch := omega) only [wkW, Int.reduceToNat, Int.reducePow])
    | fail
theorem mag_walk_cut (n : Nat) (hn : n < NMax) (hn0 : n ≠ 0) (e T U : Int) (he : -1000000 ≤ e ∧ e ≤ 1000000) (hT : (bitlen n : Int) + e = T) (hT1 : -1074 ≤ T ∧ T ≤ 1024) (hU : (T - 53 < -1074 ∧ U = -1074) ∨ (-1074 ≤ T - 53 ∧ U = T - 53)) (mv k : Nat) (hmv : (mv : Int) = U - e) (hmv1 : 1 ≤ mv) (hk : (k : Int) = U + 1074) (more : Bool) (t m : Nat) (hd : n = 2 ^ t * (2 * m + 1)) (R : Nat) (hm0 : n / 2 ^ mv < 9007199254740992)
    (hR : (upB more n mv → R = n / 2 ^ mv + 1 + k * 4503599627370496) ∧ (¬ upB more n mv → R = n / 2 ^ mv + k * 4503599627370496)) :
    Meets Tryz.prog 148 [.ints .u64 (natL n), .int .i64 e, .bool more] (.int .u64 (R : Int)) := by
  have hbl := nat_bitlen n hn
  have hshr := nat_shr (n := mv) hn (by omega)
  have hto := to_uint (n / 2 ^ mv) (by omega)
  have hbit := bit_nat n (mv - 1) hn (by omega)
  have htr := nat_trail hn hd
  have hup : upB more n mv ↔ n / 2 ^ (mv - 1) % 2 = 1 ∧ (more = true ∨ n / 2 ^ mv % 2 = 1 ∨ t < mv - 1) := by
    unfold upB; rw [lost_iff hd (mv - 1)]
  have hlen : decide (((natL n).length : Int) = 0) = false := decide_eq_false (by have := (natL_ge hn0).1; omega)
  have w1 : IntKind.wrap .i64 ((bitlen n : Int) + e) = T := by rw [hT]; exact wrap_i64 (by omega)
  have w2 : IntKind.wrap .i64 (T - 53) = T - 53 := wrap_i64 (by omega)
  have w3 : (if (-1074 : Int) > T - 53 then (-1074 : Int) else T - 53) = U := by
    rcases hU with ⟨h1, h2⟩ | ⟨h1, h2⟩
    · rw [if_pos (by omega), h2]
    · rw [if_neg (by omega), h2]
  have w4 : IntKind.wrap .i64 (U - e) = (mv : Int) := by rw [← hmv]; exact wrap_i64 (by omega)
  have w5 : IntKind.wrap .i64 ((mv : Int) - 1) = ((mv - 1 : Nat) : Int) := by rw [wrap_i64 (by omega)]; omega
  have w6 : IntKind.wrap .i64 (U - -1074) = (k : Int) := by rw [wrap_i64 (by omega)]; omega
  have w7 : IntKind.wrap .u64 (k : Int) = (k : Int) := wrap_u64 (by omega)
  have w8 : IntKind.wrap .u64 ((k : Int) * 2 ^ min 52 64) = ((k * 4503599627370496 : Nat) : Int) := by
    rw [show (2 : Int) ^ min 52 64 = 4503599627370496 from rfl, wrap_u64 (by omega)]; omega
  have d1 : decide (T < -1074) = false := decide_eq_false (by omega)
  have d2 : decide (1024 < T) = false := decide_eq_false (by omega)
  have d3 : decide ((mv : Int) ≤ 0) = false := decide_eq_false (by omega)
  have hand := and_low 1 (by decide) (a := ((n / 2 ^ mv : Nat) : Int)) ⟨Int.natCast_nonneg _, Int.ofNat_lt.2 (Nat.lt_trans hm0 (by decide))⟩
  have e1 : (((2 ^ 1 - 1 : Nat)) : Int) = 1 := rfl
  have e2 : ((n / 2 ^ mv : Nat) : Int) % 2 ^ 1 = ((n / 2 ^ mv % 2 : Nat) : Int) := by rw [Int.natCast_emod]; rfl
  rw [e1, e2] at hand
  have hbl2 : n / 2 ^ (mv - 1) % 2 < 2 := Nat.mod_lt _ (by decide)
  have hodd2 : n / 2 ^ mv % 2 < 2 := Nat.mod_lt _ (by decide)
  rw [hup] at hR
  clear hd hup hn hn0 hU
  generalize decide (n % 2 ^ mv ≠ 0) = lost at *
  generalize n / 2 ^ (mv - 1) % 2 = b0 at *
  obtain ⟨o0, ho0⟩ : ∃ o0, n / 2 ^ mv % 2 = o0 := ⟨_, rfl⟩
  rw [ho0] at hand hodd2 hR
  clear ho0
  generalize n / 2 ^ mv = m0 at *
  generalize (bitlen n : Int) = bl at *
  generalize natL m0 = lm at *
  generalize natL n = a at *
  have w9 : IntKind.wrap .u64 ((m0 : Int) + 1) = ((m0 + 1 : Nat) : Int) := by rw [wrap_u64 (by omega)]; omega
  have w10 : IntKind.wrap .u64 (((k * 4503599627370496 : Nat) : Int) + (m0 : Int)) = ((m0 + k * 4503599627370496 : Nat) : Int) := by rw [wrap_u64 (by omega)]; omega
  have w11 : IntKind.wrap .u64 (((k * 4503599627370496 : Nat) : Int) + ((m0 + 1 : Nat) : Int)) = ((m0 + 1 + k * 4503599627370496 : Nat) : Int) := by rw [wrap_u64 (by omega)]; omega
  cases more
  all_goals (refine meets_by ttOk Tryz.func148 Tryz.ntmps148 Tryz.results148 (by kernel_rfl) (c := _) rfl rfl rfl fun E => ?_; simp only [argsFrame])
  all_goals
    repeat' first
      | (with_reducible first | refine PW.seq ?_ | refine PW.block ?_ | refine PW.fork ?_ | refine PW.skip ?_ | refine PW.exit ?_ | refine PW.ret ?_ | refine PW.scope ?_ | refine PW.label ?_ | refine PW.goto ?_)
      | (simp only [w1, w2, w3, w4, w5, w6, w7, w8, w9, w10, w11, d1, d2, d3, hlen, hand])
      | (with_reducible refine PW.region ttOk ?_ ?_
         · rfl)
      | (with_reducible refine PW.regionD ttOk mixed ?_ ?_ ?_
         · rfl
         · rfl)
      | (with_reducible refine ifW_dec (fun g => ?_) (fun g => ?_) <;> first | (exfalso; omega) | (simp -dsimp only [g, wkI]))
      | (with_reducible refine condE_dec (fun g => ?_) (fun g => ?_) <;> try (exfalso; omega))
      | (with_reducible refine condE_not (fun g => ?_) (fun g => ?_) <;> try (exfalso; omega))
      | (simp -dsimp only [↓wkA, ↓wkE, ↓wkJ, wkB, ↓tt, Nat.reduceBEq, Nat.reduceEqDiff, ↓reduceIte, Nat.reduceLT, Array.toList, Nat.reduceAdd, Nat.reduceMul, Int.reduceToNat, Int.reducePow, UInt8.reduceToNat])
      | (refine call_by (hbl) (views_data rfl) ⟨trivial, trivial⟩ rfl ?_)
      | (refine call_by (hshr) (views_data rfl) ⟨trivial, trivial, trivial⟩ rfl ?_)
      | (refine call_by (hto) (views_data rfl) ⟨trivial, trivial⟩ rfl ?_)
      | (refine call_by (hbit) (views_data rfl) ⟨trivial, trivial, trivial⟩ rfl ?_)
      | (refine call_by (htr) (views_data rfl) ⟨trivial, trivial⟩ rfl ?_)
      | (simp -dsimp (disch := first | assumption | omega) only [dec_t, dec_f])
      | (refine And.intro ?_ ?_
         · first | omega | decide | (simp (disch := omega) only [wkW, Int.reduceToNat, Int.reducePow] <;> omega) | (simp <;> omega))
      | (simp (disch := omega) only [wkW, Int.reduceToNat, Int.reducePow])
      | fail
  all_goals (refine congrArg (fun x : Nat => PV.int .u64 (x : Int)) ?_; simp only [Bool.false_eq_true, false_or, true_or, and_true] at hR; omega)
theorem mag_walk_whole (n : Nat) (hn : n < 9007199254740992) (hn0 : n ≠ 0) (e T U : Int) (he : -1000000 ≤ e ∧ e ≤ 1000000) (hT : (bitlen n : Int) + e = T) (hT1 : -1074 ≤ T ∧ T ≤ 1024) (hU : (T - 53 < -1074 ∧ U = -1074) ∨ (-1074 ≤ T - 53 ∧ U = T - 53)) (s k : Nat) (hs : (s : Int) = e - U) (hs2 : n * 2 ^ s < 9007199254740992) (hk : (k : Int) = U + 1074) :
    Meets Tryz.prog 148 [.ints .u64 (natL n), .int .i64 e, .bool false] (.int .u64 ((n * 2 ^ s + k * 4503599627370496 : Nat) : Int)) := by
  have hbl := nat_bitlen n (nmax_of (k := 53) (by simpa using hn) (by decide))
  have hbb := bitlen_spec hn0
  obtain ⟨j, hj, _, _⟩ := hbb
  have hs53 : s ≤ 53 := by
    refine Nat.le_of_not_lt fun h => ?_
    have h1 : 2 ^ 54 ≤ 2 ^ s := Nat.pow_le_pow_right (by decide) h
    have h2 : 1 * 2 ^ s ≤ n * 2 ^ s := Nat.mul_le_mul_right _ (by omega)
    omega
  rw [natL_one n ⟨by omega, by omega⟩] at hbl ⊢
  have w1 : IntKind.wrap .i64 ((bitlen n : Int) + e) = T := by rw [hT]; exact wrap_i64 (by omega)
  have w2 : IntKind.wrap .i64 (T - 53) = T - 53 := wrap_i64 (by omega)
  have w3 : (if (-1074 : Int) > T - 53 then (-1074 : Int) else T - 53) = U := by
    rcases hU with ⟨h1, h2⟩ | ⟨h1, h2⟩
    · rw [if_pos (by omega), h2]
    · rw [if_neg (by omega), h2]
  have w4 : IntKind.wrap .i64 (U - e) = -(s : Int) := by rw [wrap_i64 (by omega)]; omega
  have w5 : IntKind.wrap .i64 (0 - -(s : Int)) = (s : Int) := by rw [wrap_i64 (by omega)]; omega
  have w5' : IntKind.wrap .u64 (s : Int) = (s : Int) := wrap_u64 (by omega)
  have w6 : IntKind.wrap .i64 (U - -1074) = (k : Int) := by rw [wrap_i64 (by omega)]; omega
  have w7 : IntKind.wrap .u64 (k : Int) = (k : Int) := wrap_u64 (by omega)
  have w8 : IntKind.wrap .u64 ((k : Int) * 2 ^ min 52 64) = ((k * 4503599627370496 : Nat) : Int) := by
    rw [show (2 : Int) ^ min 52 64 = 4503599627370496 from rfl, wrap_u64 (by omega)]; omega
  have w9 : IntKind.wrap .u64 ((n : Int) * 2 ^ min s 64) = ((n * 2 ^ s : Nat) : Int) := by
    have e1 : (n : Int) * 2 ^ s = ((n * 2 ^ s : Nat) : Int) := by rw [Int.natCast_mul, Int.natCast_pow]; rfl
    rw [Nat.min_eq_left (by omega), e1]
    generalize n * 2 ^ s = x at *
    exact wrap_u64 (by omega)
  have d1 : decide (T < -1074) = false := decide_eq_false (by omega)
  have d2 : decide (1024 < T) = false := decide_eq_false (by omega)
  have d3 : decide (-(s : Int) ≤ 0) = true := decide_eq_true (by omega)
  clear hU
  generalize n * 2 ^ s = ns at *
  generalize (bitlen n : Int) = bl at *
  have w10 : IntKind.wrap .u64 (((k * 4503599627370496 : Nat) : Int) + (ns : Int)) = ((ns + k * 4503599627370496 : Nat) : Int) := by rw [wrap_u64 (by omega)]; omega
  refine meets_by ttOk Tryz.func148 Tryz.ntmps148 Tryz.results148 (by kernel_rfl) (c := _) rfl rfl rfl fun E => ?_
  simp only [argsFrame]
  repeat' first
    | (with_reducible first | refine PW.seq ?_ | refine PW.block ?_ | refine PW.fork ?_ | refine PW.skip ?_ | refine PW.exit ?_ | refine PW.ret ?_ | refine PW.scope ?_ | refine PW.label ?_ | refine PW.goto ?_)
    | (simp only [w1, w2, w3, w4, w5, w5', w6, w7, w8, w9, w10, d1, d2, d3, Int.toNat_natCast])
    | (with_reducible refine PW.region ttOk ?_ ?_
       · rfl)
    | (with_reducible refine PW.regionD ttOk mixed ?_ ?_ ?_
       · rfl
       · rfl)
    | (with_reducible refine ifW_dec (fun g => ?_) (fun g => ?_) <;> first | (exfalso; omega) | (simp -dsimp only [g, wkI]))
    | (with_reducible refine condE_dec (fun g => ?_) (fun g => ?_) <;> try (exfalso; omega))
    | (with_reducible refine condE_not (fun g => ?_) (fun g => ?_) <;> try (exfalso; omega))
    | (simp -dsimp only [↓wkA, ↓wkE, ↓wkJ, wkB, ↓tt, Nat.reduceBEq, Nat.reduceEqDiff, ↓reduceIte, Nat.reduceLT, Array.toList, Nat.reduceAdd, Nat.reduceMul, Int.reduceToNat, Int.reducePow, UInt8.reduceToNat])
    | (refine call_by (hbl) (views_data rfl) ⟨trivial, trivial⟩ rfl ?_)
    | (simp -dsimp (disch := first | assumption | omega) only [dec_t, dec_f])
    | (refine And.intro ?_ ?_
       · first | omega | decide | (simp (disch := omega) only [wkW, Int.reduceToNat, Int.reducePow] <;> omega) | (simp <;> omega))
    | (simp (disch := omega) only [wkW, Int.reduceToNat, Int.reducePow])
    | fail
theorem magnitude_ok {n : Nat} (hn : n < NMax) (e : Int) (he : -700000 ≤ e ∧ e ≤ 700000) (more : Bool) {N D : Nat} (hD : 0 < D) (hr : RelR more n (e + 1074).toNat (-(e + 1074)).toNat N D) (hm : more = true → 9007199254740992 ≤ n) :
    Meets Tryz.prog 148 [.ints .u64 (natL n), .int .i64 e, .bool more] (.int .u64 (rndU N D : Int)) := by
  have hnb : bitlen n ≤ 262144 := bitlen_le (by rw [← nmax_two]; exact hn)
  have hbl := nat_bitlen n hn
  by_cases hn0 : n = 0
  · subst hn0
    have hN : N = 0 := by
      rcases hr with ⟨_, h⟩ | ⟨h, _⟩
      · rw [Nat.zero_mul] at h
        exact (Nat.mul_eq_zero.1 h).resolve_right (Nat.ne_of_gt (Nat.two_pow_pos _))
      · exact absurd (hm h) (by decide)
    subst hN
    rw [rndU_zero hD, natL_zero] at *
    clear hr hm
    have w1 : IntKind.wrap .i64 (((bitlen 0 : Nat) : Int) + e) = e := by rw [show ((bitlen 0 : Nat) : Int) = 0 from rfl, Int.zero_add]; exact wrap_i64 (by omega)
    refine meets_by ttOk Tryz.func148 Tryz.ntmps148 Tryz.results148 (by kernel_rfl) (c := _) rfl rfl rfl fun E => ?_
    simp only [argsFrame]
    repeat' first
      | (with_reducible first | refine PW.seq ?_ | refine PW.block ?_ | refine PW.fork ?_ | refine PW.skip ?_ | refine PW.exit ?_ | refine PW.ret ?_ | refine PW.scope ?_ | refine PW.label ?_ | refine PW.goto ?_)
      | (simp only [w1])
      | (with_reducible refine PW.region ttOk ?_ ?_
         · rfl)
      | (with_reducible refine PW.regionD ttOk mixed ?_ ?_ ?_
         · rfl
         · rfl)
      | (with_reducible refine ifW_dec (fun g => ?_) (fun g => ?_) <;> first | (exfalso; omega) | (simp -dsimp only [g, wkI]))
      | (with_reducible refine condE_dec (fun g => ?_) (fun g => ?_) <;> try (exfalso; omega))
      | (with_reducible refine condE_not (fun g => ?_) (fun g => ?_) <;> try (exfalso; omega))
      | (simp -dsimp only [↓wkA, ↓wkE, ↓wkJ, wkB, ↓tt, Nat.reduceBEq, Nat.reduceEqDiff, ↓reduceIte, Nat.reduceLT, Array.toList, Nat.reduceAdd, Nat.reduceMul, Int.reduceToNat, Int.reducePow, UInt8.reduceToNat])
      | (refine call_by (hbl) (views_data rfl) ⟨trivial, trivial⟩ rfl ?_)
      | (simp -dsimp (disch := first | assumption | omega) only [dec_t, dec_f])
      | (refine And.intro ?_ ?_
         · first | omega | decide | (simp (disch := omega) only [wkW, Int.reduceToNat, Int.reducePow] <;> omega) | (simp <;> omega))
      | (simp (disch := omega) only [wkW, Int.reduceToNat, Int.reducePow])
      | fail
  have hlen : decide (((natL n).length : Int) = 0) = false := decide_eq_false (by have := (natL_ge hn0).1; omega)
  have w1 : IntKind.wrap .i64 ((bitlen n : Int) + e) = (bitlen n : Int) + e := wrap_i64 (by omega)
  by_cases h1 : (bitlen n : Int) + e < -1074
  · rw [rndU_eq hD (round_low hD hr (by omega))]
    have d1 : decide ((bitlen n : Int) + e < -1074) = true := decide_eq_true h1
    clear hr hm hn
    generalize (bitlen n : Int) = bl at *
    generalize natL n = a at *
    refine meets_by ttOk Tryz.func148 Tryz.ntmps148 Tryz.results148 (by kernel_rfl) (c := _) rfl rfl rfl fun E => ?_
    simp only [argsFrame]
    repeat' first
      | (with_reducible first | refine PW.seq ?_ | refine PW.block ?_ | refine PW.fork ?_ | refine PW.skip ?_ | refine PW.exit ?_ | refine PW.ret ?_ | refine PW.scope ?_ | refine PW.label ?_ | refine PW.goto ?_)
      | (simp only [w1, d1, hlen])
      | (with_reducible refine PW.region ttOk ?_ ?_
         · rfl)
      | (with_reducible refine PW.regionD ttOk mixed ?_ ?_ ?_
         · rfl
         · rfl)
      | (with_reducible refine ifW_dec (fun g => ?_) (fun g => ?_) <;> first | (exfalso; omega) | (simp -dsimp only [g, wkI]))
      | (with_reducible refine condE_dec (fun g => ?_) (fun g => ?_) <;> try (exfalso; omega))
      | (with_reducible refine condE_not (fun g => ?_) (fun g => ?_) <;> try (exfalso; omega))
      | (simp -dsimp only [↓wkA, ↓wkE, ↓wkJ, wkB, ↓tt, Nat.reduceBEq, Nat.reduceEqDiff, ↓reduceIte, Nat.reduceLT, Array.toList, Nat.reduceAdd, Nat.reduceMul, Int.reduceToNat, Int.reducePow, UInt8.reduceToNat])
      | (refine call_by (hbl) (views_data rfl) ⟨trivial, trivial⟩ rfl ?_)
      | (simp -dsimp (disch := first | assumption | omega) only [dec_t, dec_f])
      | (refine And.intro ?_ ?_
         · first | omega | decide | (simp (disch := omega) only [wkW, Int.reduceToNat, Int.reducePow] <;> omega) | (simp <;> omega))
      | (simp (disch := omega) only [wkW, Int.reduceToNat, Int.reducePow])
      | fail
  by_cases h2 : 1024 < (bitlen n : Int) + e
  · rw [rndU_eq hD (round_high hD hn0 hr (by omega))]
    have d1 : decide ((bitlen n : Int) + e < -1074) = false := decide_eq_false h1
    have d2 : decide (1024 < (bitlen n : Int) + e) = true := decide_eq_true h2
    clear hr hm hn
    generalize (bitlen n : Int) = bl at *
    generalize natL n = a at *
    refine meets_by ttOk Tryz.func148 Tryz.ntmps148 Tryz.results148 (by kernel_rfl) (c := _) rfl rfl rfl fun E => ?_
    simp only [argsFrame]
    repeat' first
      | (with_reducible first | refine PW.seq ?_ | refine PW.block ?_ | refine PW.fork ?_ | refine PW.skip ?_ | refine PW.exit ?_ | refine PW.ret ?_ | refine PW.scope ?_ | refine PW.label ?_ | refine PW.goto ?_)
      | (simp only [w1, d1, d2, hlen])
      | (with_reducible refine PW.region ttOk ?_ ?_
         · rfl)
      | (with_reducible refine PW.regionD ttOk mixed ?_ ?_ ?_
         · rfl
         · rfl)
      | (with_reducible refine ifW_dec (fun g => ?_) (fun g => ?_) <;> first | (exfalso; omega) | (simp -dsimp only [g, wkI]))
      | (with_reducible refine condE_dec (fun g => ?_) (fun g => ?_) <;> try (exfalso; omega))
      | (with_reducible refine condE_not (fun g => ?_) (fun g => ?_) <;> try (exfalso; omega))
      | (simp -dsimp only [↓wkA, ↓wkE, ↓wkJ, wkB, ↓tt, Nat.reduceBEq, Nat.reduceEqDiff, ↓reduceIte, Nat.reduceLT, Array.toList, Nat.reduceAdd, Nat.reduceMul, Int.reduceToNat, Int.reducePow, UInt8.reduceToNat])
      | (refine call_by (hbl) (views_data rfl) ⟨trivial, trivial⟩ rfl ?_)
      | (simp -dsimp (disch := first | assumption | omega) only [dec_t, dec_f])
      | (refine And.intro ?_ ?_
         · first | omega | decide | (simp (disch := omega) only [wkW, Int.reduceToNat, Int.reducePow] <;> omega) | (simp <;> omega))
      | (simp (disch := omega) only [wkW, Int.reduceToNat, Int.reducePow])
      | fail
  -- in between
  obtain ⟨U, hU⟩ : ∃ U : Int, ((bitlen n : Int) + e - 53 < -1074 ∧ U = -1074) ∨ (-1074 ≤ (bitlen n : Int) + e - 53 ∧ U = (bitlen n : Int) + e - 53) := by
    by_cases h : (bitlen n : Int) + e - 53 < -1074
    · exact ⟨_, .inl ⟨h, rfl⟩⟩
    · exact ⟨_, .inr ⟨by omega, rfl⟩⟩
  obtain ⟨k, hk⟩ : ∃ k : Nat, (k : Int) = U + 1074 := ⟨(U + 1074).toNat, by omega⟩
  by_cases hmv : U - e ≤ 0
  · obtain ⟨s, hs⟩ : ∃ s : Nat, (s : Int) = e - U := ⟨(e - U).toNat, by omega⟩
    have hbl53 : bitlen n + s ≤ 53 := by omega
    have hmore : more = false := by
      cases more with
      | false => rfl
      | true =>
        have h3 := hm rfl
        have h4 := lt_bitlen n
        have h5 : 2 ^ bitlen n ≤ 2 ^ 53 := Nat.pow_le_pow_right (by decide) (by omega)
        omega
    subst hmore
    have hr' : N * 2 ^ (-(e + 1074)).toNat = n * (2 ^ (e + 1074).toNat * D) := by
      rcases hr with ⟨_, h⟩ | ⟨h, _⟩
      · exact h
      · cases h
    obtain ⟨i1, i2⟩ := round_whole (k := k) (s := s) hD hn0 hr' (by omega) (by omega) hbl53 (by omega)
    rw [rndU_eq hD i1]
    refine mag_walk_whole n ?_ hn0 e _ U ⟨by omega, by omega⟩ rfl ⟨by omega, by omega⟩ hU s k hs i2 hk
    exact Nat.lt_of_le_of_lt (Nat.le_mul_of_pos_right n (Nat.two_pow_pos s)) i2
  · obtain ⟨mv, hmv2⟩ : ∃ mv : Nat, (mv : Int) = U - e := ⟨(U - e).toNat, by omega⟩
    obtain ⟨i1, i2⟩ := round_cut (k := k) (mv := mv) hD hn0 hr (by omega) (by omega) (by omega) (by omega) (by omega)
    rw [rndU_eq hD i1]
    obtain ⟨t, m, hd⟩ := odd_part hn0
    have hlt : n / 2 ^ mv < 9007199254740992 := by
      rw [Nat.div_lt_iff_lt_mul (Nat.two_pow_pos mv), show (9007199254740992 : Nat) = 2 ^ 53 from rfl, ← Nat.pow_add]
      exact Nat.lt_of_lt_of_le (lt_bitlen n) (Nat.pow_le_pow_right (by decide) (by omega))
    refine mag_walk_cut n hn hn0 e _ U ⟨by omega, by omega⟩ rfl ⟨by omega, by omega⟩ hU mv k hmv2 (by omega) hk more t m hd _ hlt ⟨fun h => ?_, fun h => ?_⟩
    · unfold magM; rw [if_pos h]
    · unfold magM; rw [if_neg h]
def signed (neg : Bool) (b : Nat) : Nat := if neg then b + 9223372036854775808 else b
theorem signed_f (b : Nat) : signed false b = b := if_neg (by decide)
theorem signed_t (b : Nat) : signed true b = b + 9223372036854775808 := if_pos rfl
theorem xor_sign {b : Nat} (hb : b < 9223372036854775808) : ibits .xor .u64 (b : Int) 9223372036854775808 = ((b + 9223372036854775808 : Nat) : Int) := by
  change IntKind.wrap .u64 (((BitVec.ofInt 64 (b : Int) ^^^ BitVec.ofInt 64 9223372036854775808).toNat : Nat) : Int) = _
  have h := Nat.two_pow_add_eq_or_of_lt (i := 63) (b := b) (by simpa using hb) 1
  have e : (BitVec.ofInt 64 (b : Int) ^^^ BitVec.ofInt 64 9223372036854775808).toNat = b + 9223372036854775808 := by
    rw [BitVec.toNat_xor, BitVec.toNat_ofInt, BitVec.toNat_ofInt]
    have e1 : ((b : Int) % ((2 ^ 64 : Nat) : Int)).toNat = b := by
      rw [Int.emod_eq_of_lt (by omega) (by simp; omega), Int.toNat_natCast]
    have e2 : ((9223372036854775808 : Int) % ((2 ^ 64 : Nat) : Int)).toNat = 2 ^ 63 := by decide
    rw [e1, e2]
    refine Nat.eq_of_testBit_eq fun j => ?_
    rw [Nat.testBit_xor, Nat.testBit_two_pow]
    have e3 : b + 9223372036854775808 = 2 ^ 63 * 1 + b := by omega
    rw [e3, Nat.testBit_two_pow_mul_add 1 (show b < 2 ^ 63 by simpa using hb) j]
    by_cases h1 : j < 63
    · rw [if_pos h1]; have : ¬ 63 = j := by omega
      simp [this]
    · rw [if_neg h1, Nat.testBit_lt_two_pow (Nat.lt_of_lt_of_le (show b < 2 ^ 63 by simpa using hb) (Nat.pow_le_pow_right (by decide) (by omega)))]
      by_cases h2 : 63 = j
      · subst h2; simp
      · simp only [h2, decide_false, Bool.false_xor]
        rw [Nat.testBit_lt_two_pow]
        exact Nat.lt_of_lt_of_le (show 1 < 2 ^ 1 by decide) (Nat.pow_le_pow_right (by decide) (by omega)) 
  rw [e, wrap_u64 (by omega)]
theorem ieee_neg (b : Nat) (hb : b < 9223372036854775808) : Meets Tryz.prog 150 [.int .u64 (b : Int)] (.int .u64 ((b + 9223372036854775808 : Nat) : Int)) := by
  have h := xor_sign hb
  refine meets_by ttOk Tryz.func150 Tryz.ntmps150 Tryz.results150 (by kernel_rfl) (c := _) rfl rfl rfl fun E => ?_
  simp only [argsFrame]
  repeat' first
    | (with_reducible first | refine PW.seq ?_ | refine PW.block ?_ | refine PW.fork ?_ | refine PW.skip ?_ | refine PW.exit ?_ | refine PW.ret ?_ | refine PW.scope ?_ | refine PW.label ?_ | refine PW.goto ?_)
    | (simp only [h])
    | (with_reducible refine PW.region ttOk ?_ ?_
       · rfl)
    | (with_reducible refine PW.regionD ttOk mixed ?_ ?_ ?_
       · rfl
       · rfl)
    | (with_reducible refine ifW_dec (fun g => ?_) (fun g => ?_) <;> first | (exfalso; omega) | (simp -dsimp only [g, wkI]))
    | (with_reducible refine condE_dec (fun g => ?_) (fun g => ?_) <;> try (exfalso; omega))
    | (with_reducible refine condE_not (fun g => ?_) (fun g => ?_) <;> try (exfalso; omega))
    | (simp -dsimp only [↓wkA, ↓wkE, ↓wkJ, wkB, ↓tt, Nat.reduceBEq, Nat.reduceEqDiff, ↓reduceIte, Nat.reduceLT, Array.toList, Nat.reduceAdd, Nat.reduceMul, Int.reduceToNat, Int.reducePow, UInt8.reduceToNat])
    | (simp -dsimp (disch := first | assumption | omega) only [dec_t, dec_f])
    | (refine And.intro ?_ ?_
       · first | omega | decide | (simp (disch := omega) only [wkW, Int.reduceToNat, Int.reducePow] <;> omega) | (simp <;> omega))
    | (simp (disch := omega) only [wkW, Int.reduceToNat, Int.reducePow])
    | fail
theorem ieee_round {n : Nat} (hn : n < NMax) (neg : Bool) (e : Int) (he : -700000 ≤ e ∧ e ≤ 700000) (more : Bool) {N D : Nat} (hD : 0 < D) (hr : RelR more n (e + 1074).toNat (-(e + 1074)).toNat N D) (hm : more = true → 9007199254740992 ≤ n) :
    Meets Tryz.prog 101 [.bool neg, .ints .u64 (natL n), .int .i64 e, .bool more] (.tup [.int .u64 (signed neg (rndU N D) : Int), .int .i64 0]) := by
  have h1 := shl_nat (n := 0) hn (by decide) (by rw [Nat.pow_zero, Nat.mul_one]; exact hn)
  rw [Nat.pow_zero, Nat.mul_one] at h1
  have h2 := ieee_near e ⟨by omega, by omega⟩
  have h3 := magnitude_ok hn e he more hD hr hm
  have hle : rndU N D ≤ infB := rndU_le
  have h4 := ieee_neg (rndU N D) (by unfold infB at hle; omega)
  clear hr hm hn
  unfold signed
  generalize rndU N D = R at *
  generalize natL n = a at *
  cases neg
  all_goals simp only [Bool.false_eq_true, if_false, if_true]
  all_goals (refine meets_by ttOk Tryz.func101 Tryz.ntmps101 Tryz.results101 (by kernel_rfl) (c := _) rfl rfl rfl fun E => ?_; simp only [argsFrame])
  all_goals
    repeat' first
      | (with_reducible first | refine PW.seq ?_ | refine PW.block ?_ | refine PW.fork ?_ | refine PW.skip ?_ | refine PW.exit ?_ | refine PW.ret ?_ | refine PW.scope ?_ | refine PW.label ?_ | refine PW.goto ?_)
      | (with_reducible refine PW.region ttOk ?_ ?_
         · rfl)
      | (with_reducible refine PW.regionD ttOk mixed ?_ ?_ ?_
         · rfl
         · rfl)
      | (with_reducible refine ifW_dec (fun g => ?_) (fun g => ?_) <;> first | (exfalso; omega) | (simp -dsimp only [g, wkI]))
      | (with_reducible refine condE_dec (fun g => ?_) (fun g => ?_) <;> try (exfalso; omega))
      | (with_reducible refine condE_not (fun g => ?_) (fun g => ?_) <;> try (exfalso; omega))
      | (simp -dsimp only [↓wkA, ↓wkE, ↓wkJ, wkB, ↓tt, Nat.reduceBEq, Nat.reduceEqDiff, ↓reduceIte, Nat.reduceLT, Array.toList, Nat.reduceAdd, Nat.reduceMul, Int.reduceToNat, Int.reducePow, UInt8.reduceToNat])
      | (refine call_by (h1) (views_data rfl) ⟨trivial, trivial, trivial⟩ rfl ?_)
      | (refine call_by (h2) (views_data rfl) ⟨trivial, trivial⟩ rfl ?_)
      | (refine call_by (h3) (views_data rfl) ⟨trivial, trivial, trivial, trivial⟩ rfl ?_)
      | (refine call_by (h4) (views_data rfl) ⟨trivial, trivial⟩ rfl ?_)
      | (simp -dsimp (disch := first | assumption | omega) only [dec_t, dec_f])
      | (refine And.intro ?_ ?_
         · first | omega | decide | (simp (disch := omega) only [wkW, Int.reduceToNat, Int.reducePow] <;> omega) | (simp <;> omega))
      | (simp (disch := omega) only [wkW, Int.reduceToNat, Int.reducePow])
      | fail
theorem Meets.args {P : Program} {f : FuncId} {args args' : List PV} {res : PV} (hm : Meets P f args res) (hl : args'.length = args.length) (h : ∀ (w : World) (A : Nat → Prop) (i : Nat) (v : Value), RD w A (args'.getD i .undef) v → RD w A (args.getD i .undef) v) : Meets P f args' res :=
  ⟨fun w A vs hA hl' ha => hm.run w A vs hA (hl.symm.trans hl') fun i hi => h w A i _ (ha i (by omega))⟩
theorem bitlen_pos {n : Nat} : bitlen n = 0 ↔ n = 0 := by
  unfold bitlen; split <;> omega
theorem bitlen_ge {n k : Nat} (h : k < bitlen n) : 2 ^ k ≤ n := by
  have h0 : n ≠ 0 := fun e => by rw [e] at h; simp [bitlen] at h
  obtain ⟨j, hj, h1, _⟩ := bitlen_spec h0
  exact Nat.le_trans (Nat.pow_le_pow_right (by decide) (by omega)) h1
theorem bitlen_lt {n k : Nat} (h : bitlen n ≤ k) : n < 2 ^ k := Nat.lt_of_lt_of_le (lt_bitlen n) (Nat.pow_le_pow_right (by decide) h)
theorem ratio_rel {u v q rest j A C a c : Nat} (hq : q * v + rest = u * 2 ^ j) (hrest : rest < v) (he : A + c = a + C + j) : RelR (decide (rest ≠ 0)) q a c (u * 2 ^ A) (v * 2 ^ C) := by
  have e1 : u * 2 ^ A * 2 ^ c = q * (2 ^ a * (v * 2 ^ C)) + rest * 2 ^ (a + C) := by
    rw [Nat.mul_assoc, ← Nat.pow_add, he, Nat.pow_add _ (a + C), Nat.mul_comm (2 ^ (a + C)), ← Nat.mul_assoc, ← hq, Nat.add_mul, Nat.pow_add]
    congr 1
    ac_rfl
  have e2 : 2 ^ a * (v * 2 ^ C) = v * 2 ^ (a + C) := by rw [Nat.pow_add]; ac_rfl
  have hp := Nat.two_pow_pos (a + C)
  unfold RelR
  by_cases h0 : rest = 0
  · left
    rw [h0] at e1 ⊢
    exact ⟨by decide, by rw [e1]; omega⟩
  · right
    refine ⟨decide_eq_true h0, ?_, ?_⟩
    · rw [e1]
      have := Nat.mul_pos (Nat.pos_of_ne_zero h0) hp
      omega
    · rw [e1, e2]
      have := Nat.mul_lt_mul_of_pos_right hrest hp
      omega
def rrat (u v : Nat) (e : Int) : Nat := rndU (u * 2 ^ (e + 1074).toNat) (v * 2 ^ (-(e + 1074)).toNat)
abbrev rrF (neg : Bool) (v q r : Nat) (e : Int) : PV.Frame := [(13, .ints .u64 (natL q)), (14, .ints .u64 (natL r)), (2, .ints .u64 (natL v)), (3, .int .i64 e), (0, .bool neg)]
theorem round_nil (neg : Bool) : Meets Tryz.prog 101 [.bool neg, .nil, .int .i64 0, .bool false] (.tup [.int .u64 (signed neg 0 : Int), .int .i64 0]) := by
  have h := ieee_round (n := 0) nmax_pos neg 0 ⟨by decide, by decide⟩ false (N := 0) (D := 1) (by decide) (.inl ⟨rfl, by simp⟩) (fun h => by cases h)
  rw [rndU_zero (by decide), natL_zero] at h
  refine Meets.args h rfl fun w A i v hv => ?_
  match i with
  | 0 => exact hv
  | 1 => exact rd_nil_ints hv
  | 2 => exact hv
  | 3 => exact hv
  | n + 4 => exact hv
theorem round_ratio {u v : Nat} (hu : u < NMax) (hv : v < NMax) (hv0 : v ≠ 0) (neg : Bool) (e : Int) (he : -100000 ≤ e ∧ e ≤ 100000) :
    Meets Tryz.prog 182 [.bool neg, .ints .u64 (natL u), .ints .u64 (natL v), .int .i64 e] (.tup [.int .u64 (signed neg (rrat u v e) : Int), .int .i64 0]) := by
  have h1 := shl_nat (n := 0) hu (by decide) (by rw [Nat.pow_zero, Nat.mul_one]; exact hu)
  have h2 := shl_nat (n := 0) hv (by decide) (by rw [Nat.pow_zero, Nat.mul_one]; exact hv)
  rw [Nat.pow_zero, Nat.mul_one] at h1 h2
  have hlv : decide (((natL v).length : Int) = 0) = false := decide_eq_false (by have := (natL_ge hv0).1; omega)
  have hDpos : ∀ x, 0 < v * 2 ^ x := fun x => Nat.mul_pos (Nat.pos_of_ne_zero hv0) (Nat.two_pow_pos x)
  by_cases hu0 : u = 0
  · subst hu0
    have hz : rrat 0 v e = 0 := by unfold rrat; rw [Nat.zero_mul]; exact rndU_zero (hDpos _)
    rw [hz]
    have h3 := round_nil neg
    rw [natL_zero] at h1 ⊢
    clear hDpos
    generalize signed neg 0 = R at *
    generalize natL v = b at *
    refine meets_by ttOk Tryz.func182 Tryz.ntmps182 Tryz.results182 (by kernel_rfl) (c := _) rfl rfl rfl fun E => ?_
    simp only [argsFrame]
    repeat' first
      | (with_reducible first | refine PW.seq ?_ | refine PW.block ?_ | refine PW.fork ?_ | refine PW.skip ?_ | refine PW.exit ?_ | refine PW.ret ?_ | refine PW.scope ?_ | refine PW.label ?_ | refine PW.goto ?_)
      | (simp only [hlv])
      | (with_reducible refine PW.region ttOk ?_ ?_
         · rfl)
      | (with_reducible refine PW.regionD ttOk mixed ?_ ?_ ?_
         · rfl
         · rfl)
      | (with_reducible refine ifW_dec (fun g => ?_) (fun g => ?_) <;> first | (exfalso; omega) | (simp -dsimp only [g, wkI]))
      | (with_reducible refine condE_dec (fun g => ?_) (fun g => ?_) <;> try (exfalso; omega))
      | (with_reducible refine condE_not (fun g => ?_) (fun g => ?_) <;> try (exfalso; omega))
      | (simp -dsimp only [↓wkA, ↓wkE, ↓wkJ, wkB, ↓tt, Nat.reduceBEq, Nat.reduceEqDiff, ↓reduceIte, Nat.reduceLT, Array.toList, Nat.reduceAdd, Nat.reduceMul, Int.reduceToNat, Int.reducePow, UInt8.reduceToNat])
      | (refine call_by (h1) (views_data rfl) ⟨trivial, trivial, trivial⟩ rfl ?_)
      | (refine call_by (h2) (views_data rfl) ⟨trivial, trivial, trivial⟩ rfl ?_)
      | (refine call_by (h3) (views_data rfl) ⟨trivial, trivial, trivial, trivial, trivial⟩ rfl ?_)
      | (simp -dsimp (disch := first | assumption | omega) only [dec_t, dec_f])
      | (refine And.intro ?_ ?_
         · first | omega | decide | (simp (disch := omega) only [wkW, Int.reduceToNat, Int.reducePow] <;> omega) | (simp <;> omega))
      | (simp (disch := omega) only [wkW, Int.reduceToNat, Int.reducePow])
      | fail
  have hlu : decide (((natL u).length : Int) = 0) = false := decide_eq_false (by have := (natL_ge hu0).1; omega)
  have hnear := ieee_near e ⟨by omega, by omega⟩
  have hbu := nat_bitlen u hu
  have hbv := nat_bitlen v hv
  have hbu2 : bitlen u ≤ 262144 := bitlen_le (by rw [← nmax_two]; exact hu)
  have hbv2 : bitlen v ≤ 262144 := bitlen_le (by rw [← nmax_two]; exact hv)
  have w1 : IntKind.wrap .i64 ((bitlen v : Int) - (bitlen u : Int)) = (bitlen v : Int) - (bitlen u : Int) := wrap_i64 (by omega)
  obtain ⟨mv, hmv⟩ : ∃ mv : Nat, mv = bitlen v - bitlen u := ⟨_, rfl⟩
  have hu'1 : u * 2 ^ mv < NMax := by
    rw [nmax_two]
    have h3 : u * 2 ^ mv < 2 ^ bitlen u * 2 ^ mv := Nat.mul_lt_mul_of_pos_right (lt_bitlen u) (Nat.two_pow_pos mv)
    rw [← Nat.pow_add] at h3
    exact Nat.lt_of_lt_of_le h3 (Nat.pow_le_pow_right (by decide) (by omega))
  have hu'2 : v ≤ 2 * (u * 2 ^ mv) := by
    have hb := bitlen_ge (n := u) (k := bitlen u - 1) (by have := mt bitlen_pos.1 hu0; omega)
    have h4 : 2 ^ (bitlen u - 1) * 2 ^ mv ≤ u * 2 ^ mv := Nat.mul_le_mul_right _ hb
    rw [← Nat.pow_add] at h4
    have h5 := lt_bitlen v
    have h6 : 2 ^ bitlen v ≤ 2 ^ (bitlen u - 1 + mv + 1) := Nat.pow_le_pow_right (by decide) (by have := mt bitlen_pos.1 hu0; omega)
    rw [Nat.pow_succ] at h6
    omega
  have hsh := shl_nat (n := mv) hu (by omega) hu'1
  have hdm := div_mod hu'1 hv hv0
  -- what the rounding tells
  have hfin : ∀ q r i : Nat, q * v + r = u * 2 ^ (mv + i) → r < v → 9007199254740992 ≤ q → q < NMax → i ≤ 67 → Meets Tryz.prog 101 [.bool neg, .ints .u64 (natL q), .int .i64 (e - (mv : Int) - (i : Int)), .bool (decide (r ≠ 0))] (.tup [.int .u64 (signed neg (rrat u v e) : Int), .int .i64 0]) := fun q r i h3 h4 h5 h6 h7 =>
    ieee_round h6 neg _ ⟨by omega, by omega⟩ _ (hDpos _) (ratio_rel h3 h4 (by omega)) fun _ => h5
  generalize signed neg (rrat u v e) = R at *
  clear hDpos
  have w4 : IntKind.wrap .i64 (mv : Int) = (mv : Int) := wrap_i64 (by omega)
  refine meets_by ttOk Tryz.func182 Tryz.ntmps182 Tryz.results182 (by kernel_rfl) (c := _) rfl rfl rfl fun E => ?_
  simp only [argsFrame]
  by_cases hc : bitlen u < bitlen v
  case' pos =>
    have d1 : decide (0 < (bitlen v : Int) - (bitlen u : Int)) = true := decide_eq_true (by omega)
    have w2 : (bitlen v : Int) - (bitlen u : Int) = (mv : Int) := by omega
    have w3 : IntKind.wrap .i64 (e - (mv : Int)) = e - (mv : Int) := wrap_i64 (by omega)
    rw [w2] at d1
    have hqr : u * 2 ^ mv / v * v + u * 2 ^ mv % v = u * 2 ^ mv := Nat.div_add_mod' _ _
    have hrl : u * 2 ^ mv % v < v := Nat.mod_lt _ (Nat.pos_of_ne_zero hv0)
    have hqm : u * 2 ^ mv / v < NMax := Nat.lt_of_le_of_lt (Nat.div_le_self _ _) hu'1
    have e0 : e - (mv : Int) = e - (mv : Int) := rfl
    generalize u * 2 ^ mv / v = q0 at *
    generalize u * 2 ^ mv % v = r0 at *
  case' neg =>
    have d1 : decide (0 < (bitlen v : Int) - (bitlen u : Int)) = false := decide_eq_false (by omega)
    have w2 : IntKind.wrap .i64 ((bitlen v : Int) - (bitlen u : Int)) = (bitlen v : Int) - (bitlen u : Int) := wrap_i64 (by omega)
    have w3 : IntKind.wrap .i64 (e - (mv : Int)) = e - (mv : Int) := wrap_i64 (by omega)
    have e0 : e = e - (mv : Int) := by omega
    have hu0' : u * 2 ^ mv = u := by rw [show mv = 0 by omega, Nat.pow_zero, Nat.mul_one]
    rw [hu0'] at hdm hu'1
    have hqr : u / v * v + u % v = u * 2 ^ mv := by rw [hu0']; exact Nat.div_add_mod' _ _
    have hrl : u % v < v := Nat.mod_lt _ (Nat.pos_of_ne_zero hv0)
    have hqm : u / v < NMax := Nat.lt_of_le_of_lt (Nat.div_le_self _ _) hu'1
    generalize u / v = q0 at *
    generalize u % v = r0 at *
  all_goals
    repeat' first
      | (with_reducible first | refine PW.seq ?_ | refine PW.block ?_ | refine PW.fork ?_ | refine PW.skip ?_ | refine PW.exit ?_ | refine PW.ret ?_ | refine PW.scope ?_ | refine PW.label ?_ | refine PW.goto ?_)
      | (simp only [w1, w2, w3, w4, d1, hlu, hlv])
      | (with_reducible refine PW.region ttOk ?_ ?_
         · rfl)
      | (with_reducible refine PW.regionD ttOk mixed ?_ ?_ ?_
         · rfl
         · rfl)
      | (with_reducible refine ifW_dec (fun g => ?_) (fun g => ?_) <;> first | (exfalso; omega) | (simp -dsimp only [g, wkI]))
      | (with_reducible refine condE_dec (fun g => ?_) (fun g => ?_) <;> try (exfalso; omega))
      | (with_reducible refine condE_not (fun g => ?_) (fun g => ?_) <;> try (exfalso; omega))
      | (simp -dsimp only [↓wkA, ↓wkE, ↓wkJ, wkB, ↓tt, Nat.reduceBEq, Nat.reduceEqDiff, ↓reduceIte, Nat.reduceLT, Array.toList, Nat.reduceAdd, Nat.reduceMul, Int.reduceToNat, Int.reducePow, UInt8.reduceToNat])
      | (refine call_by (h1) (views_data rfl) ⟨trivial, trivial, trivial⟩ rfl ?_)
      | (refine call_by (h2) (views_data rfl) ⟨trivial, trivial, trivial⟩ rfl ?_)
      | (refine call_by (hnear) (views_data rfl) ⟨trivial, trivial⟩ rfl ?_)
      | (refine call_by (hbu) (views_data rfl) ⟨trivial, trivial⟩ rfl ?_)
      | (refine call_by (hbv) (views_data rfl) ⟨trivial, trivial⟩ rfl ?_)
      | (refine call_by (hsh) (views_data rfl) ⟨trivial, trivial, trivial⟩ rfl ?_)
      | (refine call_by (hdm) (views_data rfl) ⟨trivial, trivial, trivial⟩ rfl ?_)
      | (simp -dsimp (disch := first | assumption | omega) only [dec_t, dec_f])
      | (refine And.intro ?_ ?_
         · first | omega | decide | (simp (disch := omega) only [wkW, Int.reduceToNat, Int.reducePow] <;> omega) | (simp <;> omega))
      | (simp (disch := omega) only [wkW, Int.reduceToNat, Int.reducePow])
      | fail
  all_goals clear h1 h2 hnear hbu hbv hdm d1 hlu hlv hu
  all_goals
    refine PW.loopA (fun m F H => ∃ i q r, i + m = 67 ∧ q * v + r = u * 2 ^ (mv + i) ∧ r < v ∧ q < NMax ∧ F = rrF neg v q r (e - (mv : Int) - (i : Int)) ∧ H = ⟨0, [], [], []⟩) 67 (rrF neg v q0 r0 (e - (mv : Int))) ⟨0, [], [], []⟩ (Sub.norm ⟨rfl, rfl, rfl, congrArg (PV.int .i64) e0, rfl, trivial⟩ trivial (Nat.le_refl _) rfl rfl rfl rfl) ⟨0, q0, r0, rfl, hqr, hrl, hqm, by rw [Int.natCast_zero, Int.sub_zero], rfl⟩ ?_
    rintro m F H ⟨i, q, r, hi, hq, hr, hqM, rfl, rfl⟩
    have hbq := nat_bitlen q hqM
    have hrN : r < NMax := Nat.lt_trans hr hv
    by_cases hb : bitlen q < 66
    case' neg =>
      have d2 : decide ((bitlen q : Int) < 66) = false := decide_eq_false (by omega)
      have d3 : decide ((0 : Int) < ((natL r).length : Int)) = decide (r ≠ 0) := decide_eq_decide.2 (by have := @natL_len0 r; omega)
      have hf := hfin q r i hq hr (Nat.le_trans (by decide) (bitlen_ge (k := 65) (by omega))) hqM (by omega)
      clear hfin hbu2 hbv2 hq hqr hrl hqm
      repeat' first
        | (with_reducible first | refine PW.seq ?_ | refine PW.block ?_ | refine PW.fork ?_ | refine PW.skip ?_ | refine PW.exit ?_ | refine PW.ret ?_ | refine PW.scope ?_ | refine PW.label ?_ | refine PW.goto ?_)
        | (simp only [d2, d3])
        | (with_reducible refine PW.region ttOk ?_ ?_
           · rfl)
        | (with_reducible refine PW.regionD ttOk mixed ?_ ?_ ?_
           · rfl
           · rfl)
        | (with_reducible refine ifW_dec (fun g => ?_) (fun g => ?_) <;> first | (exfalso; omega) | (simp -dsimp only [g, wkI]))
        | (with_reducible refine condE_dec (fun g => ?_) (fun g => ?_) <;> try (exfalso; omega))
        | (with_reducible refine condE_not (fun g => ?_) (fun g => ?_) <;> try (exfalso; omega))
        | (simp -dsimp only [↓wkA, ↓wkE, ↓wkJ, wkB, ↓tt, Nat.reduceBEq, Nat.reduceEqDiff, ↓reduceIte, Nat.reduceLT, Array.toList, Nat.reduceAdd, Nat.reduceMul, Int.reduceToNat, Int.reducePow, UInt8.reduceToNat])
        | (refine call_by (hbq) (views_data rfl) ⟨trivial, trivial⟩ rfl ?_)
        | (refine call_by (hf) (views_data rfl) ⟨trivial, trivial, trivial, trivial, trivial⟩ rfl ?_)
        | (simp -dsimp (disch := first | assumption | omega) only [dec_t, dec_f])
        | (refine And.intro ?_ ?_
           · first | omega | decide | (simp (disch := omega) only [wkW, Int.reduceToNat, Int.reducePow] <;> omega) | (simp <;> omega))
        | (simp (disch := omega) only [wkW, Int.reduceToNat, Int.reducePow])
        | fail
    have d2 : decide ((bitlen q : Int) < 66) = true := decide_eq_true (by omega)
    have hq65 : q < 2 ^ 65 := bitlen_lt (by omega)
    have hi67 : i < 67 := by
      refine Nat.lt_of_not_le fun h => ?_
      obtain rfl : i = 67 := by omega
      rw [Nat.pow_add, ← Nat.mul_assoc] at hq
      have h1 : v * 2 ^ 66 ≤ u * 2 ^ mv * 2 ^ 67 := by
        have := Nat.mul_le_mul_right (2 ^ 66) hu'2
        have e67 : (2 : Nat) ^ 67 = 2 * 2 ^ 66 := Nat.pow_succ'
        have e68 : u * 2 ^ mv * (2 * 2 ^ 66) = 2 * (u * 2 ^ mv) * 2 ^ 66 := by ac_rfl
        rw [e67, e68]
        exact this
      have h2 : (q + 1) * v ≤ 2 ^ 66 * v := Nat.mul_le_mul_right _ (by omega)
      rw [Nat.add_mul, Nat.one_mul] at h2
      omega
    have hgap := sub_nat (u := v) (v := r) hv hrN (by omega)
    have hcmp := cmp_nat (u := r) (v := v - r) hrN (by omega)
    have w5 : IntKind.wrap .i64 (e - (mv : Int) - (i : Int) - 1) = e - (mv : Int) - ((i + 1 : Nat) : Int) := by rw [wrap_i64 (by omega)]; omega
    by_cases hc2 : r < v - r
    · rw [if_pos hc2] at hcmp
      have hadd := add_nat hrN hrN (show r + r < NMax by omega)
      have hma := mul_add_nat (k := 2) (c := 0) hqM (by decide) (by decide) (nmax_of (k := 67) (by omega) (by decide))
      have hnew : (q * 2 + 0) * v + (r + r) = u * 2 ^ (mv + (i + 1)) := by
        rw [show mv + (i + 1) = mv + i + 1 from rfl, Nat.pow_succ, ← Nat.mul_assoc, ← hq]; grind
      have hrv : r + r < v := by omega
      have hqn : q * 2 + 0 < NMax := nmax_of (k := 67) (by omega) (by decide)
      clear hq hqr hrl hqm hfin hu'2
      generalize q * 2 + 0 = q' at *
      generalize r + r = r' at *
      generalize natL (v - r) = g at *
      repeat' first
        | (with_reducible first | refine PW.seq ?_ | refine PW.block ?_ | refine PW.fork ?_ | refine PW.skip ?_ | refine PW.exit ?_ | refine PW.ret ?_ | refine PW.scope ?_ | refine PW.label ?_ | refine PW.goto ?_)
        | (simp only [d2, w5])
        | (with_reducible refine PW.region ttOk ?_ ?_
           · rfl)
        | (with_reducible refine PW.regionD ttOk mixed ?_ ?_ ?_
           · rfl
           · rfl)
        | (with_reducible refine ifW_dec (fun g => ?_) (fun g => ?_) <;> first | (exfalso; omega) | (simp -dsimp only [g, wkI]))
        | (with_reducible refine condE_dec (fun g => ?_) (fun g => ?_) <;> try (exfalso; omega))
        | (with_reducible refine condE_not (fun g => ?_) (fun g => ?_) <;> try (exfalso; omega))
        | (simp -dsimp only [↓wkA, ↓wkE, ↓wkJ, wkB, ↓tt, Nat.reduceBEq, Nat.reduceEqDiff, ↓reduceIte, Nat.reduceLT, Array.toList, Nat.reduceAdd, Nat.reduceMul, Int.reduceToNat, Int.reducePow, UInt8.reduceToNat])
        | (refine call_by (hbq) (views_data rfl) ⟨trivial, trivial⟩ rfl ?_)
        | (refine call_by (hgap) (views_data rfl) ⟨trivial, trivial, trivial⟩ rfl ?_)
        | (refine call_by (hcmp) (views_data rfl) ⟨trivial, trivial, trivial⟩ rfl ?_)
        | (refine call_by (hadd) (views_data rfl) ⟨trivial, trivial, trivial⟩ rfl ?_)
        | (refine call_by (hma) (views_data rfl) ⟨trivial, trivial, trivial, trivial⟩ rfl ?_)
        | (simp -dsimp (disch := first | assumption | omega) only [dec_t, dec_f])
        | (refine And.intro ?_ ?_
           · first | omega | decide | (simp (disch := omega) only [wkW, Int.reduceToNat, Int.reducePow] <;> omega) | (simp <;> omega))
        | (simp (disch := omega) only [wkW, Int.reduceToNat, Int.reducePow])
        | fail
      exact Again.mk (m - 1) (rrF neg v q' r' (e - (mv : Int) - ((i + 1 : Nat) : Int))) ⟨0, [], [], []⟩ (by omega) (Sub.norm ⟨rfl, rfl, rfl, rfl, rfl, trivial⟩ trivial (Nat.le_refl _) rfl rfl rfl rfl) ⟨i + 1, q', r', by omega, hnew, hrv, hqn, rfl, rfl⟩
    · rw [if_neg hc2] at hcmp
      have hcmp' : ∃ c : Int, 0 ≤ c ∧ Meets Tryz.prog 62 [.ints .u64 (natL r), .ints .u64 (natL (v - r))] (.int .i64 c) := ⟨_, by split <;> decide, hcmp⟩
      obtain ⟨cc, hcc, hcmp2⟩ := hcmp'
      have d4 : decide (0 ≤ cc) = true := decide_eq_true hcc
      have hsub := sub_nat (u := r) (v := v - r) hrN (by omega) (by omega)
      have hma := mul_add_nat (k := 2) (c := 1) hqM (by decide) (by decide) (nmax_of (k := 67) (by omega) (by decide))
      have hnew : (q * 2 + 1) * v + (r - (v - r)) = u * 2 ^ (mv + (i + 1)) := by
        rw [show mv + (i + 1) = mv + i + 1 from rfl, Nat.pow_succ, ← Nat.mul_assoc, ← hq]
        have e1 : (q * 2 + 1) * v = 2 * (q * v) + v := by grind
        rw [e1]; omega
      have hrv : r - (v - r) < v := by omega
      have hqn : q * 2 + 1 < NMax := nmax_of (k := 67) (by omega) (by decide)
      clear hq hqr hrl hqm hfin hu'2 hcmp
      generalize q * 2 + 1 = q' at *
      generalize r - (v - r) = r' at *
      generalize natL (v - r) = g at *
      repeat' first
        | (with_reducible first | refine PW.seq ?_ | refine PW.block ?_ | refine PW.fork ?_ | refine PW.skip ?_ | refine PW.exit ?_ | refine PW.ret ?_ | refine PW.scope ?_ | refine PW.label ?_ | refine PW.goto ?_)
        | (simp only [d2, d4, w5])
        | (with_reducible refine PW.region ttOk ?_ ?_
           · rfl)
        | (with_reducible refine PW.regionD ttOk mixed ?_ ?_ ?_
           · rfl
           · rfl)
        | (with_reducible refine ifW_dec (fun g => ?_) (fun g => ?_) <;> first | (exfalso; omega) | (simp -dsimp only [g, wkI]))
        | (with_reducible refine condE_dec (fun g => ?_) (fun g => ?_) <;> try (exfalso; omega))
        | (with_reducible refine condE_not (fun g => ?_) (fun g => ?_) <;> try (exfalso; omega))
        | (simp -dsimp only [↓wkA, ↓wkE, ↓wkJ, wkB, ↓tt, Nat.reduceBEq, Nat.reduceEqDiff, ↓reduceIte, Nat.reduceLT, Array.toList, Nat.reduceAdd, Nat.reduceMul, Int.reduceToNat, Int.reducePow, UInt8.reduceToNat])
        | (refine call_by (hbq) (views_data rfl) ⟨trivial, trivial⟩ rfl ?_)
        | (refine call_by (hgap) (views_data rfl) ⟨trivial, trivial, trivial⟩ rfl ?_)
        | (refine call_by (hcmp2) (views_data rfl) ⟨trivial, trivial, trivial⟩ rfl ?_)
        | (refine call_by (hsub) (views_data rfl) ⟨trivial, trivial, trivial⟩ rfl ?_)
        | (refine call_by (hma) (views_data rfl) ⟨trivial, trivial, trivial, trivial⟩ rfl ?_)
        | (simp -dsimp (disch := first | assumption | omega) only [dec_t, dec_f])
        | (refine And.intro ?_ ?_
           · first | omega | decide | (simp (disch := omega) only [wkW, Int.reduceToNat, Int.reducePow] <;> omega) | (simp <;> omega))
        | (simp (disch := omega) only [wkW, Int.reduceToNat, Int.reducePow])
        | fail
      exact Again.mk (m - 1) (rrF neg v q' r' (e - (mv : Int) - ((i + 1 : Nat) : Int))) ⟨0, [], [], []⟩ (by omega) (Sub.norm ⟨rfl, rfl, rfl, rfl, rfl, trivial⟩ trivial (Nat.le_refl _) rfl rfl rfl rfl) ⟨i + 1, q', r', by omega, hnew, hrv, hqn, rfl, rfl⟩
def rnat (u : Nat) : Nat := rndU (u * 2 ^ 1074) 1
theorem ieee_from_uint (u : Nat) (hu : u < 18446744073709551616) : Meets Tryz.prog 96 [.int .u64 (u : Int)] (.int .u64 (rnat u : Int)) := by
  have h1 := from_uint u hu
  have h2 := ieee_round (n := u) (nmax_of (k := 64) (by simpa using hu) (by decide)) false 0 ⟨by decide, by decide⟩ false (N := u * 2 ^ 1074) (D := 1) (by decide) (.inl ⟨rfl, by rw [show (-(0 + 1074) : Int).toNat = 0 from rfl, show ((0 + 1074 : Int)).toNat = 1074 from rfl, Nat.pow_zero, Nat.mul_one, Nat.mul_one]⟩) (fun h => by cases h)
  rw [signed_f] at h2
  unfold rnat
  generalize rndU (u * 2 ^ 1074) 1 = R at *
  generalize natL u = a at *
  refine meets_by ttOk Tryz.func96 Tryz.ntmps96 Tryz.results96 (by kernel_rfl) (c := _) rfl rfl rfl fun E => ?_
  simp only [argsFrame]
  repeat' first
    | (with_reducible first | refine PW.seq ?_ | refine PW.block ?_ | refine PW.fork ?_ | refine PW.skip ?_ | refine PW.exit ?_ | refine PW.ret ?_ | refine PW.scope ?_ | refine PW.label ?_ | refine PW.goto ?_)
    | (with_reducible refine PW.region ttOk ?_ ?_
       · rfl)
    | (with_reducible refine PW.regionD ttOk mixed ?_ ?_ ?_
       · rfl
       · rfl)
    | (with_reducible refine ifW_dec (fun g => ?_) (fun g => ?_) <;> first | (exfalso; omega) | (simp -dsimp only [g, wkI]))
    | (with_reducible refine condE_dec (fun g => ?_) (fun g => ?_) <;> try (exfalso; omega))
    | (with_reducible refine condE_not (fun g => ?_) (fun g => ?_) <;> try (exfalso; omega))
    | (simp -dsimp only [↓wkA, ↓wkE, ↓wkJ, wkB, ↓tt, Nat.reduceBEq, Nat.reduceEqDiff, ↓reduceIte, Nat.reduceLT, Array.toList, Nat.reduceAdd, Nat.reduceMul, Int.reduceToNat, Int.reducePow, UInt8.reduceToNat])
    | (refine call_by (h1) (views_data rfl) ⟨trivial, trivial⟩ rfl ?_)
    | (refine call_by (h2) (views_data rfl) ⟨trivial, trivial, trivial, trivial, trivial⟩ rfl ?_)
    | (simp -dsimp (disch := first | assumption | omega) only [dec_t, dec_f])
    | (refine And.intro ?_ ?_
       · first | omega | decide | (simp (disch := omega) only [wkW, Int.reduceToNat, Int.reducePow] <;> omega) | (simp <;> omega))
    | (simp (disch := omega) only [wkW, Int.reduceToNat, Int.reducePow])
    | fail
theorem shl_small {z k : Nat} (hz : z < 2 ^ 20000) (hk : k ≤ 40000) : Meets Tryz.prog 39 [.ints .u64 (natL z), .int .i64 (k : Int)] (.tup [.ints .u64 (natL (z * 2 ^ k)), .int .i64 0]) := by
  have h1 : z * 2 ^ k < 2 ^ 60000 := by
    refine Nat.lt_of_lt_of_le (Nat.mul_lt_mul_of_pos_right hz (Nat.two_pow_pos k)) ?_
    rw [← Nat.pow_add]; exact Nat.pow_le_pow_right (by decide) (Nat.add_le_add_left hk 20000)
  exact shl_nat (nmax_of hz (by decide)) (Nat.le_trans hk (by decide)) (nmax_of h1 (by decide))
theorem soft_aligned {x y : Nat} {ex ey : Int} (hx : x < 2 ^ 20000) (hy : y < 2 ^ 20000) (hex : -20000 ≤ ex ∧ ex ≤ 20000) (hey : -20000 ≤ ey ∧ ey ≤ 20000) : Meets Tryz.prog 202 [.ints .u64 (natL x), .int .i64 ex, .ints .u64 (natL y), .int .i64 ey] (.tup [.ints .u64 (natL (x * 2 ^ (ex - ey).toNat)), .ints .u64 (natL (y * 2 ^ (ey - ex).toNat)), .int .i64 (min ex ey)]) := by
  have hsx := fun k hk => shl_small (k := k) hx hk
  have hsy := fun k hk => shl_small (k := k) hy hk
  clear hx hy
  by_cases h : ey < ex
  · obtain ⟨k, hk⟩ : ∃ k : Nat, (k : Int) = ex - ey := ⟨(ex - ey).toNat, by omega⟩
    have h1 := hsx k (by omega)
    have w1 : IntKind.wrap .i64 (ex - ey) = (k : Int) := by rw [hk]; exact wrap_i64 (by omega)
    have d1 : decide (ey < ex) = true := decide_eq_true h
    rw [show (ex - ey).toNat = k by omega, show (ey - ex).toNat = 0 by omega, Nat.pow_zero, Nat.mul_one, show min ex ey = ey by omega]
    clear hsx hsy
    generalize natL (x * 2 ^ k) = r at *
    generalize natL x = a at *
    generalize natL y = b at *
    refine meets_by ttOk Tryz.func202 Tryz.ntmps202 Tryz.results202 (by kernel_rfl) (c := _) rfl rfl rfl fun E => ?_
    simp only [argsFrame]
    repeat' first
      | (with_reducible first | refine PW.seq ?_ | refine PW.block ?_ | refine PW.fork ?_ | refine PW.skip ?_ | refine PW.exit ?_ | refine PW.ret ?_ | refine PW.scope ?_ | refine PW.label ?_ | refine PW.goto ?_)
      | (simp only [w1, d1])
      | (with_reducible refine PW.region ttOk ?_ ?_
         · rfl)
      | (with_reducible refine PW.regionD ttOk mixed ?_ ?_ ?_
         · rfl
         · rfl)
      | (with_reducible refine ifW_dec (fun g => ?_) (fun g => ?_) <;> first | (exfalso; omega) | (simp -dsimp only [g, wkI]))
      | (with_reducible refine condE_dec (fun g => ?_) (fun g => ?_) <;> try (exfalso; omega))
      | (with_reducible refine condE_not (fun g => ?_) (fun g => ?_) <;> try (exfalso; omega))
      | (simp -dsimp only [↓wkA, ↓wkE, ↓wkJ, wkB, ↓tt, Nat.reduceBEq, Nat.reduceEqDiff, ↓reduceIte, Nat.reduceLT, Array.toList, Nat.reduceAdd, Nat.reduceMul, Int.reduceToNat, Int.reducePow, UInt8.reduceToNat])
      | (refine call_by (h1) (views_data rfl) ⟨trivial, trivial, trivial⟩ rfl ?_)
      | (simp -dsimp (disch := first | assumption | omega) only [dec_t, dec_f])
      | (refine And.intro ?_ ?_
         · first | omega | decide | (simp (disch := omega) only [wkW, Int.reduceToNat, Int.reducePow] <;> omega) | (simp <;> omega))
      | (simp (disch := omega) only [wkW, Int.reduceToNat, Int.reducePow])
      | fail
  · obtain ⟨k, hk⟩ : ∃ k : Nat, (k : Int) = ey - ex := ⟨(ey - ex).toNat, by omega⟩
    have h1 := hsy k (by omega)
    have w1 : IntKind.wrap .i64 (ey - ex) = (k : Int) := by rw [hk]; exact wrap_i64 (by omega)
    have d1 : decide (ey < ex) = false := decide_eq_false h
    rw [show (ey - ex).toNat = k by omega, show (ex - ey).toNat = 0 by omega, Nat.pow_zero, Nat.mul_one, show min ex ey = ex by omega]
    clear hsx hsy
    generalize natL (y * 2 ^ k) = r at *
    generalize natL x = a at *
    generalize natL y = b at *
    refine meets_by ttOk Tryz.func202 Tryz.ntmps202 Tryz.results202 (by kernel_rfl) (c := _) rfl rfl rfl fun E => ?_
    simp only [argsFrame]
    repeat' first
      | (with_reducible first | refine PW.seq ?_ | refine PW.block ?_ | refine PW.fork ?_ | refine PW.skip ?_ | refine PW.exit ?_ | refine PW.ret ?_ | refine PW.scope ?_ | refine PW.label ?_ | refine PW.goto ?_)
      | (simp only [w1, d1])
      | (with_reducible refine PW.region ttOk ?_ ?_
         · rfl)
      | (with_reducible refine PW.regionD ttOk mixed ?_ ?_ ?_
         · rfl
         · rfl)
      | (with_reducible refine ifW_dec (fun g => ?_) (fun g => ?_) <;> first | (exfalso; omega) | (simp -dsimp only [g, wkI]))
      | (with_reducible refine condE_dec (fun g => ?_) (fun g => ?_) <;> try (exfalso; omega))
      | (with_reducible refine condE_not (fun g => ?_) (fun g => ?_) <;> try (exfalso; omega))
      | (simp -dsimp only [↓wkA, ↓wkE, ↓wkJ, wkB, ↓tt, Nat.reduceBEq, Nat.reduceEqDiff, ↓reduceIte, Nat.reduceLT, Array.toList, Nat.reduceAdd, Nat.reduceMul, Int.reduceToNat, Int.reducePow, UInt8.reduceToNat])
      | (refine call_by (h1) (views_data rfl) ⟨trivial, trivial, trivial⟩ rfl ?_)
      | (simp -dsimp (disch := first | assumption | omega) only [dec_t, dec_f])
      | (refine And.intro ?_ ?_
         · first | omega | decide | (simp (disch := omega) only [wkW, Int.reduceToNat, Int.reducePow] <;> omega) | (simp <;> omega))
      | (simp (disch := omega) only [wkW, Int.reduceToNat, Int.reducePow])
      | fail
theorem flags_walk (ng ng2 : Bool) (a b m mb x1 y1 x2 y2 : List Int) (d c pe fe : Int) (mi : Int) (e1 e2 c1 c2 fl : Int) (hdec : Meets Tryz.prog 30 [.int .u64 d] (.agg [.bool ng2, .int .i64 c, .int .u64 mi, .int .i64 pe]))
    (hfu : Meets Tryz.prog 141 [.int .u64 mi] (.ints .u64 m)) (hmul : Meets Tryz.prog 61 [.ints .u64 b, .ints .u64 m] (.tup [.ints .u64 mb, .int .i64 0]))
    (hal1 : Meets Tryz.prog 202 [.ints .u64 a, .int .i64 fe, .ints .u64 mb, .int .i64 pe] (.tup [.ints .u64 x1, .ints .u64 y1, .int .i64 e1])) (hc1 : Meets Tryz.prog 62 [.ints .u64 x1, .ints .u64 y1] (.int .i64 c1))
    (hal2 : Meets Tryz.prog 202 [.ints .u64 a, .int .i64 fe, .ints .u64 b, .int .i64 (-1022)] (.tup [.ints .u64 x2, .ints .u64 y2, .int .i64 e2])) (hc2 : Meets Tryz.prog 62 [.ints .u64 x2, .ints .u64 y2] (.int .i64 c2))
    (hfl : (c = 3 ∧ fl = 20) ∨ (c ≠ 3 ∧ c1 = 0 ∧ fl = 0) ∨ (c ≠ 3 ∧ c1 ≠ 0 ∧ c2 < 0 ∧ fl = 24) ∨ (c ≠ 3 ∧ c1 ≠ 0 ∧ ¬ c2 < 0 ∧ fl = 16)) :
    Meets Tryz.prog 183 [.agg [.bool ng, .ints .u64 a, .ints .u64 b, .int .i64 fe], .int .u64 d] (.int .i64 fl) := by
  refine meets_by ttOk Tryz.func183 Tryz.ntmps183 Tryz.results183 (by kernel_rfl) (c := _) rfl rfl rfl fun E => ?_
  simp only [argsFrame]
  repeat' first
    | (with_reducible first | refine PW.seq ?_ | refine PW.block ?_ | refine PW.fork ?_ | refine PW.skip ?_ | refine PW.exit ?_ | refine PW.ret ?_ | refine PW.scope ?_ | refine PW.label ?_ | refine PW.goto ?_)
    | (with_reducible refine PW.region ttOk ?_ ?_
       · rfl)
    | (with_reducible refine PW.regionD ttOk mixed ?_ ?_ ?_
       · rfl
       · rfl)
    | (with_reducible refine ifW_dec (fun g => ?_) (fun g => ?_) <;> first | (exfalso; omega) | (simp -dsimp only [g, wkI]))
    | (with_reducible refine condE_dec (fun g => ?_) (fun g => ?_) <;> try (exfalso; omega))
    | (with_reducible refine condE_not (fun g => ?_) (fun g => ?_) <;> try (exfalso; omega))
    | (simp -dsimp only [↓wkA, ↓wkE, ↓wkJ, wkB, ↓tt, Nat.reduceBEq, Nat.reduceEqDiff, ↓reduceIte, Nat.reduceLT, Array.toList, Nat.reduceAdd, Nat.reduceMul, Int.reduceToNat, Int.reducePow, UInt8.reduceToNat])
    | (refine call_by (hdec) (views_data rfl) ⟨trivial, trivial⟩ rfl ?_)
    | (refine callD_by (hfu) (views_data rfl) ⟨trivial, trivial⟩ rfl ?_)
    | (refine callD_by (hmul) (views_data rfl) ⟨trivial, trivial, trivial⟩ rfl ?_)
    | (refine call_by (hal1) (views_data rfl) ⟨trivial, trivial, trivial, trivial, trivial⟩ rfl ?_)
    | (refine call_by (hal2) (views_data rfl) ⟨trivial, trivial, trivial, trivial, trivial⟩ rfl ?_)
    | (refine call_by (hc1) (views_data rfl) ⟨trivial, trivial, trivial⟩ rfl ?_)
    | (refine call_by (hc2) (views_data rfl) ⟨trivial, trivial, trivial⟩ rfl ?_)
    | (simp -dsimp (disch := first | assumption | omega) only [dec_t, dec_f])
    | (refine And.intro ?_ ?_
       · first | omega | decide | (simp (disch := omega) only [wkW, Int.reduceToNat, Int.reducePow] <;> omega) | (simp <;> omega))
    | (simp (disch := omega) only [wkW, Int.reduceToNat, Int.reducePow])
    | fail
  all_goals (refine congrArg (PV.int _) ?_; omega)
end Go.Proofs.YtbmhnjghpjkjpaaGreatDoor

/- Contracts and laws that the row leans on, part 7: texts that were built one by one, laid together. -/
import Derived.Test.YtmoilbeomnapfaaGreatDoorPart6
import Derived.Test.YtmoilbeomnapfaaGreatDoorPart5
set_option maxHeartbeats 4000000
set_option maxRecDepth 4000
set_option exponentiation.threshold 300000
set_option linter.unusedVariables false
set_option linter.unusedSimpArgs false
namespace Go.Proofs.YtmoilbeomnapfaaGreatDoor
open Go Go.PV
structure RaiS (a o : List Int) (s n i : Nat) : Prop where
  len : o.length = n
  lim : Limbs o
  eq : i < n → vt o (i + 1) = 2 ^ s * vt a i ∧ o.getD i 0 < 2 ^ s
  fin : i = n → vt o n = 2 ^ s * vt a n
  rest : ∀ k, i < k → o.getD k 0 = 0
theorem RaiS.step {a o : List Int} {s n i : Nat} (h : RaiS a o s n i) (ha : Limbs a) (hs : s < 64) (hi : i < a.length) (hn : i < n) {x : Int} (hx : a.getD i 0 = x) (hfit : i + 1 = n → x * 2 ^ s / B64 = 0) :
    RaiS a (if i + 1 < n then (o.set i (o.getD i 0 + x * 2 ^ s % B64)).set (i + 1) (x * 2 ^ s / B64) else o.set i (o.getD i 0 + x * 2 ^ s % B64)) s n (i + 1) := by
  have hxl := getD_limb ha i
  rw [hx] at hxl
  obtain ⟨p1, p2, p3, p4⟩ := shl_parts s hs hxl
  obtain ⟨e1, e2⟩ := h.eq hn
  have hol := h.len
  have hlo := getD_limb h.lim i
  have h0 : 0 ≤ x * 2 ^ s % B64 := Int.emod_nonneg _ (by decide)
  have hsum : B64 * (x * 2 ^ s / B64) + x * 2 ^ s % B64 = x * 2 ^ s := Int.mul_ediv_add_emod _ _
  have hP : (2 : Int) ^ s ≤ 2 ^ 63 := by exact_mod_cast Nat.pow_le_pow_right (by decide) (show s ≤ 63 by omega)
  have hP2 : (2 : Int) ^ 63 = 9223372036854775808 := by decide
  have hnew : 0 ≤ o.getD i 0 + x * 2 ^ s % B64 ∧ o.getD i 0 + x * 2 ^ s % B64 < B64 := by simp only [B64] at *; omega
  have hhi : 0 ≤ x * 2 ^ s / B64 ∧ x * 2 ^ s / B64 < B64 := by simp only [B64] at *; omega
  have hvt : vt (o.set i (o.getD i 0 + x * 2 ^ s % B64)) (i + 1) + B64 ^ (i + 1) * (x * 2 ^ s / B64) = 2 ^ s * vt a (i + 1) := by
    simp only [vt] at e1 ⊢
    rw [vt_set_ge _ _ _ _ (by omega) (Nat.le_refl _), getD_set _ _ _ _ (by omega), if_pos rfl, hx, Int.pow_succ]
    generalize B64 ^ i = p at *
    generalize x * 2 ^ s / B64 = q at *
    generalize x * 2 ^ s % B64 = r at *
    generalize B64 = bb at *
    grind
  by_cases hc : i + 1 < n
  · rw [if_pos hc]
    refine ⟨by rw [List.length_set, List.length_set, hol], limbs_set (limbs_set h.lim _ hnew) _ hhi, fun _ => ⟨?_, ?_⟩, fun e => by omega, fun k hk => ?_⟩
    · rw [← hvt]
      simp only [vt]
      rw [vt_set_ge _ _ _ _ (by rw [List.length_set]; omega) (by omega), vt_set_ge _ _ _ _ (by omega) (Nat.le_refl _), getD_set _ _ _ _ (by rw [List.length_set]; omega), if_neg (by omega), getD_set _ _ _ _ (by omega), if_pos rfl, getD_set _ _ _ _ (by rw [List.length_set]; omega), if_pos rfl]
    · rw [getD_set _ _ _ _ (by rw [List.length_set]; omega), if_pos rfl]; exact p1
    · rw [getD_set _ _ _ _ (by rw [List.length_set]; omega), if_neg (by omega), getD_set _ _ _ _ (by omega), if_neg (by omega)]; exact h.rest k (by omega)
  · rw [if_neg hc]
    refine ⟨by rw [List.length_set, hol], limbs_set h.lim _ hnew, fun e => absurd e hc, fun e => ?_, fun k hk => ?_⟩
    · rw [hfit e, Int.mul_zero, Int.add_zero] at hvt
      rw [← e]; exact hvt
    · rw [getD_set _ _ _ _ (by omega), if_neg (by omega)]; exact h.rest k (by omega)
abbrev raF (a : List Int) (s n r : Nat) (i : Nat) : PV.Frame := [(14, .int .i64 (i : Int)), (13, .int .i64 a.length), (12, .ints .u64 a), (7, .sl r 0 n true), (1, .int .i64 (s : Int)), (2, .int .i64 (n : Int))]
theorem raised_h (a : List Int) (ha : Limbs a) (s n : Nat) (hs : s < 64) (hn : n ≤ 5000) (han : a.length ≤ n) (v : Nat) (hv : val a * 2 ^ s = v) (hvn : v < 18446744073709551616 ^ n) (nx : Nat) (rows : List (Nat × PV.Row)) (gg : List PV.Frame) (ty : List (Nat × TypeId)) :
    HMeets Tryz.prog 128 [.ints .u64 a, .int .i64 (s : Int), .int .i64 (n : Int)] ⟨nx, rows, gg, ty⟩ fun res H' => ∃ o, o.length = n ∧ Limbs o ∧ val o = v ∧ res = .sl nx 0 n true ∧ H' = ⟨nx + 1, setRow rows nx (.ints .u64 o), gg, (nx, 25) :: ty⟩ := by
  refine hmeets_by ttOk Tryz.func128 Tryz.ntmps128 Tryz.results128 (by kernel_rfl) (c := _) rfl rfl fun E => ?_
  simp only [argsFrame]
  repeat' first
    | (simp only [Int.toNat_natCast, getRow_setRow_self, Go.PV.setRow_setRow]) | (with_reducible first | refine PW.seq ?_ | refine PW.block ?_ | refine PW.fork ?_ | refine PW.skip ?_ | refine PW.exit ?_ | refine PW.ret ?_) | ((with_reducible refine PW.region ttOk ?_ ?_); rfl) | ((with_reducible refine PW.regionD ttOk mixed ?_ ?_ ?_); rfl; rfl) | (with_reducible refine ifW_dec (fun g => ?_) (fun g => ?_) <;> first | (exfalso; omega) | (simp -dsimp only [g, wkI])) | ((with_reducible first | refine condE_dec (fun g => ?_) (fun g => ?_) | refine condE_not (fun g => ?_) (fun g => ?_)) <;> try (exfalso; omega)) | (simp -dsimp only [↓wkA, ↓wkE, ↓wkJ, wkB, ↓tt, Nat.reduceBEq, Nat.reduceEqDiff, ↓reduceIte, Nat.reduceLT, Array.toList, Nat.reduceAdd, Nat.reduceMul, Int.reduceToNat, Int.reducePow, UInt8.reduceToNat]) | (simp -dsimp (disch := first | assumption | omega) only [dec_t, dec_f])
    | (refine And.intro ?_ ?_
       · first | omega | decide | (simp (disch := omega) only [wkW, Int.reduceToNat, Int.reducePow] <;> omega) | (simp <;> omega)) | (simp (disch := omega) only [wkW, Int.reduceToNat, Int.reducePow])
  refine PW.loopA (fun m F H => ∃ i o, i + m = a.length ∧ RaiS a o s n i ∧ F = raF a s n nx i ∧ H = ⟨nx + 1, setRow rows nx (.ints .u64 o), gg, (nx, 25) :: ty⟩) a.length (raF a s n nx 0) ⟨nx + 1, setRow rows nx (.ints .u64 (List.replicate n 0)), gg, (nx, 25) :: ty⟩ (Sub.less ⟨rfl, rfl, rfl, rfl, rfl, rfl, trivial⟩ (fun _ _ h => h) rfl rfl) ⟨0, _, by omega, ⟨by simp, limbs_zeros _, fun _ => ⟨by rw [vt_zeros]; simp [vt], by rw [getD_zeros]; exact Int.pow_pos (by decide)⟩, fun e => by rw [vt_zeros, ← e]; simp [vt], fun k _ => getD_zeros _ _⟩, rfl, rfl⟩ ?_
  rintro m F H ⟨i, o, hi, hS, rfl, rfl⟩
  have hol := hS.len
  cases m with
  | zero =>
    obtain rfl : i = a.length := by omega
    have hval : val o = v := by
      rw [← hv]
      have hup := (vt_bound hS.lim n).2
      by_cases hc : a.length = n
      · have := hS.fin hc
        unfold val
        rw [hol, this, hc, Int.mul_comm]
      · obtain ⟨e1, _⟩ := hS.eq (by omega)
        unfold val
        rw [hol, Int.mul_comm, ← e1]
        have : ∀ k, a.length + 1 ≤ k → vt o k = vt o (a.length + 1) := fun k hk => by
          induction k with
          | zero => omega
          | succ k ih =>
            by_cases h : k = a.length
            · rw [h]
            · simp only [vt]
              rw [ih (by omega), hS.rest k (by omega)]
              simp [vt]
        exact this n (by omega)
    clear hvn
    repeat' first
      | (simp only [Int.toNat_natCast, getRow_setRow_self, Go.PV.setRow_setRow]) | (with_reducible first | refine PW.seq ?_ | refine PW.block ?_ | refine PW.fork ?_ | refine PW.skip ?_ | refine PW.exit ?_ | refine PW.ret ?_) | ((with_reducible refine PW.region ttOk ?_ ?_); rfl) | ((with_reducible refine PW.regionD ttOk mixed ?_ ?_ ?_); rfl; rfl) | (with_reducible refine ifW_dec (fun g => ?_) (fun g => ?_) <;> first | (exfalso; omega) | (simp -dsimp only [g, wkI])) | ((with_reducible first | refine condE_dec (fun g => ?_) (fun g => ?_) | refine condE_not (fun g => ?_) (fun g => ?_)) <;> try (exfalso; omega)) | (simp -dsimp only [↓wkA, ↓wkE, ↓wkJ, wkB, ↓tt, Nat.reduceBEq, Nat.reduceEqDiff, ↓reduceIte, Nat.reduceLT, Array.toList, Nat.reduceAdd, Nat.reduceMul, Int.reduceToNat, Int.reducePow, UInt8.reduceToNat]) | (simp -dsimp (disch := first | assumption | omega) only [dec_t, dec_f])
      | (refine And.intro ?_ ?_
         · first | omega | decide | (simp (disch := omega) only [wkW, Int.reduceToNat, Int.reducePow] <;> omega) | (simp <;> omega)) | (simp (disch := omega) only [wkW, Int.reduceToNat, Int.reducePow])
    exact ⟨o, hol, hS.lim, hval, rfl⟩
  | succ m =>
    have hx := getD_limb ha i
    have hlo := getD_limb hS.lim i
    obtain ⟨p1, p2, p3, p4⟩ := shl_parts s hs hx
    have hfit : i + 1 = n → a.getD i 0 * 2 ^ s / B64 = 0 := fun e => by
      -- the highest limb's high part counts B^n
      obtain ⟨e1, _⟩ := hS.eq (by omega)
      have hb := (vt_bound ha i).1
      have hval : val a = vt a i + B64 ^ i * a.getD i 0 := by
        unfold val
        rw [show a.length = i + 1 by omega]
        rfl
      have h1 : val a * 2 ^ s < B64 ^ n := by
        rw [hv]
        have e : B64 ^ n = ((18446744073709551616 ^ n : Nat) : Int) := by rw [Int.natCast_pow]; rfl
        rw [e]; exact Int.ofNat_lt.2 hvn
      have h2 : B64 ^ i * (a.getD i 0 * 2 ^ s) ≤ val a * 2 ^ s := by
        rw [hval, Int.add_mul, ← Int.mul_assoc]
        have := Int.mul_nonneg hb (show (0 : Int) ≤ 2 ^ s from Int.le_of_lt (Int.pow_pos (by decide)))
        omega
      have h3 : a.getD i 0 * 2 ^ s < B64 := by
        have : B64 ^ i * (a.getD i 0 * 2 ^ s) < B64 ^ i * B64 := by rw [← Int.pow_succ, show i.succ = n from e]; omega
        exact Int.lt_of_mul_lt_mul_left this (Int.le_of_lt (pow_pos64 i))
      exact Int.ediv_eq_zero_of_lt (Int.mul_nonneg hx.1 (Int.le_of_lt (Int.pow_pos (by decide)))) h3
    have hstep := hS.step ha hs (by omega) (by omega) rfl hfit
    obtain ⟨_, e2⟩ := hS.eq (by omega)
    generalize hax : a.getD i 0 = x at *
    have hQ : (18446744073709551616 : Int) = 2 ^ (64 - s) * 2 ^ s := by rw [← Int.pow_add, show 64 - s + s = 64 by omega]; rfl
    have hshl : IntKind.wrap .u64 (x * 2 ^ min s 64) = x * 2 ^ s % B64 := by rw [wrap_u64', Nat.min_eq_left (by omega)]
    have hor : ibits .or .u64 (o.getD i 0) (x * 2 ^ s % B64) = o.getD i 0 + x * 2 ^ s % B64 := by
      have h0 : 0 ≤ x * 2 ^ s % B64 := Int.emod_nonneg _ (by decide)
      refine or_apart s ⟨hlo.1, e2⟩ ⟨h0, ?_⟩ p2 ?_
      · simp only [B64] at *; omega
      · simp only [B64] at *; omega
    have hshr : s ≠ 0 → x.fdiv (2 ^ min (64 - s) 64) = x * 2 ^ s / B64 := fun h => by
      rw [Nat.min_eq_left (by omega), Int.fdiv_eq_ediv_of_nonneg _ (Int.le_of_lt (Int.pow_pos (by decide)))]
      simp only [B64]
      rw [hQ, Int.mul_ediv_mul_of_pos_left _ _ (Int.pow_pos (by decide))]
    have hs0 : s = 0 → x * 2 ^ s / B64 = 0 := fun h => by
      subst h
      rw [Int.pow_zero, Int.mul_one]
      exact Int.ediv_eq_zero_of_lt hx.1 hx.2
    have hset0 : s = 0 → i + 1 < n → (o.set i (o.getD i 0 + x * 2 ^ s % B64)).set (i + 1) (x * 2 ^ s / B64) = o.set i (o.getD i 0 + x * 2 ^ s % B64) := fun h h2 => by
      rw [hs0 h]
      refine list_ext (by simp) fun j hj => ?_
      rw [List.length_set, List.length_set] at hj
      rw [getD_set _ _ _ _ (by rw [List.length_set]; omega)]
      split
      · rename_i e
        rw [e, getD_set _ _ _ _ (by omega), if_neg (by omega)]
        exact (hS.rest _ (by omega)).symm
      · rfl
    have w1 : IntKind.wrap .u64 (s : Int) = (s : Int) := wrap_u64 (by omega)
    have w2 : IntKind.wrap .i64 ((i : Int) + 1) = ((i + 1 : Nat) : Int) := wrap_i64 (by omega)
    have w3 : IntKind.wrap .i64 (64 - (s : Int)) = ((64 - s : Nat) : Int) := by rw [wrap_i64 (by omega)]; omega
    have w4 : IntKind.wrap .u64 ((64 - s : Nat) : Int) = ((64 - s : Nat) : Int) := wrap_u64 (by omega)
    clear hQ p1 p2 p3 p4 hfit e2 hvn hx hlo
    have again : ∀ o', o' = (if i + 1 < n then (o.set i (o.getD i 0 + x * 2 ^ s % B64)).set (i + 1) (x * 2 ^ s / B64) else o.set i (o.getD i 0 + x * 2 ^ s % B64)) → RaiS a o' s n (i + 1) := fun o' h => by rw [h]; exact hstep
    clear hstep
    generalize x * 2 ^ s % B64 = lo at *
    generalize x * 2 ^ s / B64 = hi' at *
    by_cases hc : i + 1 < n
    · rw [if_pos hc] at again
      by_cases h0 : s = 0
      · have hset := hset0 h0 hc
        have d0 : decide (0 < (s : Int)) = false := decide_eq_false (by omega)
        repeat' first
          | (simp only [hax, Int.toNat_natCast, getRow_setRow_self, Go.PV.setRow_setRow, w1, w2, w3, w4, hshl, hor, d0]) | (with_reducible first | refine PW.seq ?_ | refine PW.block ?_ | refine PW.fork ?_ | refine PW.skip ?_ | refine PW.exit ?_ | refine PW.ret ?_) | ((with_reducible refine PW.region ttOk ?_ ?_); rfl) | ((with_reducible refine PW.regionD ttOk mixed ?_ ?_ ?_); rfl; rfl) | (with_reducible refine ifW_dec (fun g => ?_) (fun g => ?_) <;> first | (exfalso; omega) | (simp -dsimp only [g, wkI])) | ((with_reducible first | refine condE_dec (fun g => ?_) (fun g => ?_) | refine condE_not (fun g => ?_) (fun g => ?_)) <;> try (exfalso; omega)) | (simp -dsimp only [↓wkA, ↓wkE, ↓wkJ, wkB, ↓tt, Nat.reduceBEq, Nat.reduceEqDiff, ↓reduceIte, Nat.reduceLT, Array.toList, Nat.reduceAdd, Nat.reduceMul, Int.reduceToNat, Int.reducePow, UInt8.reduceToNat]) | (simp -dsimp (disch := first | assumption | omega) only [dec_t, dec_f])
          | (refine And.intro ?_ ?_
             · first | omega | decide | (simp (disch := omega) only [wkW, Int.reduceToNat, Int.reducePow] <;> omega) | (simp <;> omega)) | (simp (disch := omega) only [wkW, Int.reduceToNat, Int.reducePow])
        exact Again.mk m (raF a s n nx (i + 1)) ⟨nx + 1, setRow rows nx (.ints .u64 (o.set i (o.getD i 0 + lo))), gg, (nx, 25) :: ty⟩ (by omega) (Sub.less ⟨rfl, rfl, rfl, rfl, rfl, rfl, trivial⟩ (fun _ _ h => h) rfl rfl) ⟨i + 1, _, by omega, again _ hset.symm, rfl, rfl⟩
      · have hsh := hshr h0
        have d0 : decide (0 < (s : Int)) = true := decide_eq_true (by omega)
        repeat' first
          | (simp only [hax, Int.toNat_natCast, getRow_setRow_self, Go.PV.setRow_setRow, w1, w2, w3, w4, hshl, hor, d0, hsh]) | (with_reducible first | refine PW.seq ?_ | refine PW.block ?_ | refine PW.fork ?_ | refine PW.skip ?_ | refine PW.exit ?_ | refine PW.ret ?_) | ((with_reducible refine PW.region ttOk ?_ ?_); rfl) | ((with_reducible refine PW.regionD ttOk mixed ?_ ?_ ?_); rfl; rfl) | (with_reducible refine ifW_dec (fun g => ?_) (fun g => ?_) <;> first | (exfalso; omega) | (simp -dsimp only [g, wkI])) | ((with_reducible first | refine condE_dec (fun g => ?_) (fun g => ?_) | refine condE_not (fun g => ?_) (fun g => ?_)) <;> try (exfalso; omega)) | (simp -dsimp only [↓wkA, ↓wkE, ↓wkJ, wkB, ↓tt, Nat.reduceBEq, Nat.reduceEqDiff, ↓reduceIte, Nat.reduceLT, Array.toList, Nat.reduceAdd, Nat.reduceMul, Int.reduceToNat, Int.reducePow, UInt8.reduceToNat]) | (simp -dsimp (disch := first | assumption | omega) only [dec_t, dec_f])
          | (refine And.intro ?_ ?_
             · first | omega | decide | (simp (disch := omega) only [wkW, Int.reduceToNat, Int.reducePow] <;> omega) | (simp <;> omega)) | (simp (disch := omega) only [wkW, Int.reduceToNat, Int.reducePow])
        exact Again.mk m (raF a s n nx (i + 1)) ⟨nx + 1, setRow rows nx (.ints .u64 ((o.set i (o.getD i 0 + lo)).set (i + 1) hi')), gg, (nx, 25) :: ty⟩ (by omega) (Sub.less ⟨rfl, rfl, rfl, rfl, rfl, rfl, trivial⟩ (fun _ _ h => h) rfl rfl) ⟨i + 1, _, by omega, again _ rfl, rfl, rfl⟩
    · rw [if_neg hc] at again
      repeat' first
        | (simp only [hax, Int.toNat_natCast, getRow_setRow_self, Go.PV.setRow_setRow, w1, w2, w3, w4, hshl, hor]) | (with_reducible first | refine PW.seq ?_ | refine PW.block ?_ | refine PW.fork ?_ | refine PW.skip ?_ | refine PW.exit ?_ | refine PW.ret ?_) | ((with_reducible refine PW.region ttOk ?_ ?_); rfl) | ((with_reducible refine PW.regionD ttOk mixed ?_ ?_ ?_); rfl; rfl) | (with_reducible refine ifW_dec (fun g => ?_) (fun g => ?_) <;> first | (exfalso; omega) | (simp -dsimp only [g, wkI])) | ((with_reducible first | refine condE_dec (fun g => ?_) (fun g => ?_) | refine condE_not (fun g => ?_) (fun g => ?_)) <;> try (exfalso; omega)) | (simp -dsimp only [↓wkA, ↓wkE, ↓wkJ, wkB, ↓tt, Nat.reduceBEq, Nat.reduceEqDiff, ↓reduceIte, Nat.reduceLT, Array.toList, Nat.reduceAdd, Nat.reduceMul, Int.reduceToNat, Int.reducePow, UInt8.reduceToNat]) | (simp -dsimp (disch := first | assumption | omega) only [dec_t, dec_f])
        | (refine And.intro ?_ ?_
           · first | omega | decide | (simp (disch := omega) only [wkW, Int.reduceToNat, Int.reducePow] <;> omega) | (simp <;> omega)) | (simp (disch := omega) only [wkW, Int.reduceToNat, Int.reducePow])
      exact Again.mk m (raF a s n nx (i + 1)) ⟨nx + 1, setRow rows nx (.ints .u64 (o.set i (o.getD i 0 + lo))), gg, (nx, 25) :: ty⟩ (by omega) (Sub.less ⟨rfl, rfl, rfl, rfl, rfl, rfl, trivial⟩ (fun _ _ h => h) rfl rfl) ⟨i + 1, _, by omega, again _ rfl, rfl, rfl⟩
theorem vt_split (l : List Int) (j : Nat) : ∀ k, vt l (j + k) = vt l j + B64 ^ j * vt (l.drop j) k
  | 0 => by simp [vt]
  | k + 1 => by
    rw [← Nat.add_assoc]
    simp only [vt]
    rw [vt_split l j k, getD_drop', Int.pow_add]
    generalize vt (l.drop j) k = y
    generalize B64 ^ j = p
    generalize B64 ^ k = q
    generalize l.getD (j + k) 0 = z
    grind
theorem limbs_drop {l : List Int} (h : Limbs l) (n : Nat) : Limbs (l.drop n) := fun x hx => h x (List.mem_of_mem_drop hx)
theorem vt_low {l : List Int} (h : Limbs l) {n : Nat} (hn : 1 ≤ n) : ∃ lo : Int, 0 ≤ lo ∧ lo < B64 ^ (n - 1) ∧ vt l n = lo + B64 ^ (n - 1) * l.getD (n - 1) 0 := by
  obtain ⟨j, rfl⟩ : ∃ j, n = j + 1 := ⟨n - 1, by omega⟩
  rw [Nat.add_sub_cancel]
  obtain ⟨h1, h2⟩ := vt_bound h j
  exact ⟨vt l j, h1, h2, rfl⟩
def guessV (p v : List Int) (n : Nat) : Int := if v.getD (n - 1) 0 ≤ p.getD n 0 then 18446744073709551615 else (p.getD n 0 * B64 + p.getD (n - 1) 0) / v.getD (n - 1) 0
theorem quot_guess (p v : List Int) (n : Nat) (hp : Limbs p) (hv : Limbs v) (hpl : p.length = n + 1) (hvl : v.length = n) (hn : 1 ≤ n ∧ n ≤ 5000) (hv0 : 0 < v.getD (n - 1) 0) : Meets Tryz.prog 129 [.ints .u64 p, .ints .u64 v] (.int .u64 (guessV p v n)) := by
  have hx := getD_limb hp n
  have hy := getD_limb hp (n - 1)
  have hz := getD_limb hv (n - 1)
  have w1 : IntKind.wrap .i64 ((n : Int) - 1) = ((n - 1 : Nat) : Int) := by rw [wrap_i64 (by omega)]; omega
  unfold guessV
  by_cases hc : v.getD (n - 1) 0 ≤ p.getD n 0
  · rw [if_pos hc]
    have d1 : decide (v.getD (n - 1) 0 ≤ p.getD n 0) = true := decide_eq_true hc
    refine meets_by ttOk Tryz.func129 Tryz.ntmps129 Tryz.results129 (by kernel_rfl) (c := _) rfl rfl rfl fun E => ?_
    simp only [argsFrame]
    repeat' first
      | (simp only [hvl, w1, d1, Int.toNat_natCast]) | (with_reducible first | refine PW.seq ?_ | refine PW.block ?_ | refine PW.fork ?_ | refine PW.skip ?_ | refine PW.exit ?_ | refine PW.ret ?_) | ((with_reducible refine PW.region ttOk ?_ ?_); rfl) | ((with_reducible refine PW.regionD ttOk mixed ?_ ?_ ?_); rfl; rfl) | (with_reducible refine ifW_dec (fun g => ?_) (fun g => ?_) <;> first | (exfalso; omega) | (simp -dsimp only [g, wkI])) | ((with_reducible first | refine condE_dec (fun g => ?_) (fun g => ?_) | refine condE_not (fun g => ?_) (fun g => ?_)) <;> try (exfalso; omega)) | (simp -dsimp only [↓wkA, ↓wkE, ↓wkJ, wkB, ↓tt, Nat.reduceBEq, Nat.reduceEqDiff, ↓reduceIte, Nat.reduceLT, Array.toList, Nat.reduceAdd, Nat.reduceMul, Int.reduceToNat, Int.reducePow, UInt8.reduceToNat]) | (simp -dsimp (disch := first | assumption | omega) only [dec_t, dec_f])
      | (refine And.intro ?_ ?_
         · first | omega | decide | (simp (disch := omega) only [wkW, Int.reduceToNat, Int.reducePow] <;> omega) | (simp <;> omega)) | (simp (disch := omega) only [wkW, Int.reduceToNat, Int.reducePow])
  · rw [if_neg hc]
    have d1 : decide (v.getD (n - 1) 0 ≤ p.getD n 0) = false := decide_eq_false hc
    have h64 := div64 (p.getD n 0) (p.getD (n - 1) 0) (v.getD (n - 1) 0) ⟨hv0, hz.2⟩ ⟨hx.1, by omega⟩ hy
    refine meets_by ttOk Tryz.func129 Tryz.ntmps129 Tryz.results129 (by kernel_rfl) (c := _) rfl rfl rfl fun E => ?_
    simp only [argsFrame]
    repeat' first
      | (simp only [hvl, w1, d1, Int.toNat_natCast]) | (with_reducible first | refine PW.seq ?_ | refine PW.block ?_ | refine PW.fork ?_ | refine PW.skip ?_ | refine PW.exit ?_ | refine PW.ret ?_) | ((with_reducible refine PW.region ttOk ?_ ?_); rfl) | ((with_reducible refine PW.regionD ttOk mixed ?_ ?_ ?_); rfl; rfl) | (with_reducible refine ifW_dec (fun g => ?_) (fun g => ?_) <;> first | (exfalso; omega) | (simp -dsimp only [g, wkI])) | ((with_reducible first | refine condE_dec (fun g => ?_) (fun g => ?_) | refine condE_not (fun g => ?_) (fun g => ?_)) <;> try (exfalso; omega)) | (simp -dsimp only [↓wkA, ↓wkE, ↓wkJ, wkB, ↓tt, Nat.reduceBEq, Nat.reduceEqDiff, ↓reduceIte, Nat.reduceLT, Array.toList, Nat.reduceAdd, Nat.reduceMul, Int.reduceToNat, Int.reducePow, UInt8.reduceToNat]) | (refine callD_by (h64) (views_data rfl) ⟨trivial, trivial, trivial, trivial⟩ rfl ?_) | (simp -dsimp (disch := first | assumption | omega) only [dec_t, dec_f])
      | (refine And.intro ?_ ?_
         · first | omega | decide | (simp (disch := omega) only [wkW, Int.reduceToNat, Int.reducePow] <;> omega) | (simp <;> omega)) | (simp (disch := omega) only [wkW, Int.reduceToNat, Int.reducePow])
theorem guess_ge {p v : List Int} {n : Nat} (hp : Limbs p) (hv : Limbs v) (hn : 1 ≤ n) (hv0 : 0 < v.getD (n - 1) 0) {q : Int} (hq : q * vt v n ≤ vt p (n + 1)) (hlt : vt p (n + 1) < B64 * vt v n) : q ≤ guessV p v n ∧ 0 ≤ guessV p v n ∧ guessV p v n < B64 := by
  have hx := getD_limb hp n
  have hy := getD_limb hp (n - 1)
  have hz := getD_limb hv (n - 1)
  obtain ⟨lo, l1, l2, l3⟩ := vt_low hv hn
  have hvpos : 0 < vt v n := by
    rw [l3]
    have := Int.mul_pos (pow_pos64 (n - 1)) hv0
    omega
  unfold guessV
  split
  · refine ⟨?_, by decide, by decide⟩
    have h1 : q < B64 := by
      refine Int.lt_of_mul_lt_mul_right (a := vt v n) ?_ (Int.le_of_lt hvpos)
      omega
    simp only [B64] at h1; omega
  · rename_i hc
    have hq0 : 0 ≤ (p.getD n 0 * B64 + p.getD (n - 1) 0) / v.getD (n - 1) 0 := Int.ediv_nonneg (by simp only [B64] at *; omega) (by omega)
    refine ⟨?_, hq0, ?_⟩
    · rw [Int.le_ediv_iff_mul_le hv0]
      -- the two highest limbs
      have hp2 : ∃ lo : Int, 0 ≤ lo ∧ lo < B64 ^ (n - 1) ∧ vt p (n + 1) = lo + B64 ^ (n - 1) * (p.getD n 0 * B64 + p.getD (n - 1) 0) := by
        obtain ⟨lo, a1, a2, a3⟩ := vt_low hp hn
        refine ⟨lo, a1, a2, ?_⟩
        have e : B64 ^ n = B64 ^ (n - 1) * B64 := by rw [← Int.pow_succ, show (n - 1).succ = n by omega]
        simp only [vt]
        rw [a3, e]
        generalize B64 ^ (n - 1) = x
        generalize B64 = bb
        grind
      obtain ⟨lp, a1, a2, a3⟩ := hp2
      generalize p.getD n 0 * B64 + p.getD (n - 1) 0 = t at *
      generalize v.getD (n - 1) 0 = y at *
      have hpw := pow_pos64 (n - 1)
      generalize B64 ^ (n - 1) = w at *
      by_cases hq1 : q ≤ 0
      · have h1 : q * y ≤ 0 := Int.mul_nonpos_of_nonpos_of_nonneg hq1 (by omega)
        have h2 : 0 ≤ t := by
          refine Int.le_of_not_gt fun h => ?_
          have := Int.ediv_neg_of_neg_of_pos h hv0
          omega
        omega
      · have h1 : w * (q * y) ≤ q * vt v n := by
          rw [l3, Int.mul_add]
          have h2 : 0 ≤ q * lo := Int.mul_nonneg (by omega) l1
          have e : q * (w * y) = w * (q * y) := by rw [Int.mul_left_comm]
          omega
        have h2 : w * (q * y) < w * (t + 1) := by rw [Int.mul_add, Int.mul_one]; omega
        have := Int.lt_of_mul_lt_mul_left h2 (Int.le_of_lt hpw)
        omega
    · rw [Int.ediv_lt_iff_lt_mul hv0]
      have := Int.mul_le_mul_of_nonneg_right (show p.getD n 0 + 1 ≤ v.getD (n - 1) 0 by omega) (show (0 : Int) ≤ B64 by decide)
      simp only [B64] at *
      omega
structure PartS (l l' : List Int) (off i : Nat) : Prop where
  len : l'.length = l.length
  lim : Limbs l'
  out : ∀ k, k < off ∨ off + i ≤ k → l'.getD k 0 = l.getD k 0
theorem PartS.refl {l : List Int} (h : Limbs l) (off : Nat) : PartS l l off 0 := ⟨rfl, h, fun _ _ => rfl⟩
theorem PartS.set {l l' : List Int} {off i : Nat} (h : PartS l l' off i) (hi : off + i < l.length) {x : Int} (hx : 0 ≤ x ∧ x < B64) : PartS l (l'.set (off + i) x) off (i + 1) :=
  ⟨by rw [List.length_set, h.len], limbs_set h.lim _ hx, fun k hk => by
    rw [getD_set _ _ _ _ (by rw [h.len]; exact hi), if_neg (by omega)]
    exact h.out k (by omega)⟩
theorem drop_set {l : List Int} {off i : Nat} {x : Int} : (l.set (off + i) x).drop off = (l.drop off).set i x := by
  rw [List.drop_set, if_neg (by omega), Nat.add_sub_cancel_left]
theorem part_vt {l l' : List Int} {off i : Nat} (h : PartS l l' off i) (hi : off + i < l.length) (x : Int) : vt ((l'.set (off + i) x).drop off) (i + 1) = vt (l'.drop off) i + B64 ^ i * x := by
  have hl : i < (l'.drop off).length := by rw [List.length_drop, h.len]; omega
  rw [drop_set]
  simp only [vt]
  rw [vt_set_ge _ _ _ _ hl (Nat.le_refl _), getD_set _ _ _ _ hl, if_pos rfl]
abbrev toF (v : List Int) (d : Int) (r off n i : Nat) (c b : Int) : PV.Frame := [(16, .int .i64 (i : Int)), (15, .int .i64 v.length), (14, .ints .u64 v), (7, .int .u64 c), (8, .int .u64 b), (0, .sl r off (n + 1) true), (1, .ints .u64 v), (2, .int .u64 d)]
theorem take_off_h (l v : List Int) (hl : Limbs l) (hv : Limbs v) (d : Int) (hd : 0 ≤ d ∧ d < B64) (off n : Nat) (hvn : v.length = n) (hn : n ≤ 5000) (hll : off + n + 1 ≤ l.length) (hl2 : l.length ≤ 10000) (r nx : Nat) (rows : List (Nat × PV.Row)) (gg : List PV.Frame) (ty : List (Nat × TypeId)) (hr : getRow rows r = some (.ints .u64 l)) :
    HMeets Tryz.prog 130 [.sl r off (n + 1) true, .ints .u64 v, .int .u64 d] ⟨nx, rows, gg, ty⟩ fun res H' => ∃ l' b, PartS l l' off (n + 1) ∧ 0 ≤ b ∧ b ≤ 1 ∧ vt (l'.drop off) (n + 1) = vt (l.drop off) (n + 1) - d * vt v n + B64 ^ (n + 1) * b ∧ res = .bool (decide (b = 1)) ∧ H' = ⟨nx, setRow rows r (.ints .u64 l'), gg, ty⟩ := by
  have hr0 : setRow rows r (.ints .u64 l) = rows ∨ True := .inr trivial
  refine hmeets_by ttOk Tryz.func130 Tryz.ntmps130 Tryz.results130 (by kernel_rfl) (c := _) rfl rfl fun E => ?_
  simp only [argsFrame]
  repeat' first
    | (with_reducible first | refine PW.seq ?_ | refine PW.block ?_ | refine PW.fork ?_ | refine PW.skip ?_ | refine PW.exit ?_ | refine PW.ret ?_) | ((with_reducible refine PW.region ttOk ?_ ?_); rfl) | ((with_reducible refine PW.regionD ttOk mixed ?_ ?_ ?_); rfl; rfl) | (with_reducible refine ifW_dec (fun g => ?_) (fun g => ?_) <;> first | (exfalso; omega) | (simp -dsimp only [g, wkI])) | ((with_reducible first | refine condE_dec (fun g => ?_) (fun g => ?_) | refine condE_not (fun g => ?_) (fun g => ?_)) <;> try (exfalso; omega)) | (simp -dsimp only [↓wkA, ↓wkE, ↓wkJ, wkB, ↓tt, Nat.reduceBEq, Nat.reduceEqDiff, ↓reduceIte, Nat.reduceLT, Array.toList, Nat.reduceAdd, Nat.reduceMul, Int.reduceToNat, Int.reducePow, UInt8.reduceToNat]) | (simp -dsimp (disch := first | assumption | omega) only [dec_t, dec_f])
    | (refine And.intro ?_ ?_
       · first | omega | decide | (simp (disch := omega) only [wkW, Int.reduceToNat, Int.reducePow] <;> omega) | (simp <;> omega)) | (simp (disch := omega) only [wkW, Int.reduceToNat, Int.reducePow])
  refine PW.loopA (fun m F H => ∃ i l' c b, i + m = n ∧ PartS l l' off i ∧ (0 ≤ c ∧ c < B64) ∧ (0 ≤ b ∧ b ≤ 1) ∧ vt (l'.drop off) i = vt (l.drop off) i - d * vt v i + B64 ^ i * (c + b) ∧ F = toF v d r off n i c b ∧ H = ⟨nx, setRow rows r (.ints .u64 l'), gg, ty⟩) n (toF v d r off n 0 0 0) ⟨nx, setRow rows r (.ints .u64 l), gg, ty⟩ (Sub.less ⟨rfl, rfl, rfl, rfl, rfl, rfl, rfl, rfl, trivial⟩ (fun k row h => by
    rw [getRow_setRow] at h
    split at h
    · rename_i e; subst e; rw [← h]; exact hr
    · exact h) rfl rfl) ⟨0, l, 0, 0, by omega, PartS.refl hl off, by decide, by decide, by simp [vt], rfl, rfl⟩ ?_
  rintro m F H ⟨i, l', c, b, hi, hS, hc, hb, he, rfl, rfl⟩
  have hll' := hS.len
  have hoi : off + i < l.length := by omega
  have hx := getD_limb hl (off + i)
  have hout := hS.out (off + i) (.inr (Nat.le_refl _))
  have hvi := getD_limb hv i
  cases m with
  | zero =>
    obtain rfl : i = n := by omega
    have h64 := sub64 (x := l.getD (off + i) 0) (y := c) (c := b) hx hc hb
    obtain ⟨s, hs⟩ : ∃ s, l.getD (off + i) 0 - c - b = s := ⟨_, rfl⟩
    rw [hs] at h64
    have hw : IntKind.wrap .i64 ((off + i : Nat) : Int) = ((off + i : Nat) : Int) := wrap_i64 (by omega)
    have hres : 0 ≤ -(s / 18446744073709551616) ∧ -(s / 18446744073709551616) ≤ 1 := by simp only [B64] at *; omega
    have hmod : 0 ≤ s % 18446744073709551616 ∧ s % 18446744073709551616 < B64 := ⟨Int.emod_nonneg _ (by decide), Int.emod_lt_of_pos _ (by decide)⟩
    have hfin : vt ((l'.set (off + i) (s % 18446744073709551616)).drop off) (i + 1) = vt (l.drop off) (i + 1) - d * vt v i + B64 ^ (i + 1) * (-(s / 18446744073709551616)) := by
      rw [part_vt hS hoi, he]
      have hsum : 18446744073709551616 * (s / 18446744073709551616) + s % 18446744073709551616 = s := Int.mul_ediv_add_emod s 18446744073709551616
      simp only [vt]
      rw [getD_drop', Int.pow_succ]
      rw [← hs] at hsum ⊢
      simp only [B64]
      generalize (18446744073709551616 : Int) ^ i = p at *
      generalize (l.getD (off + i) 0 - c - b) / 18446744073709551616 = q at *
      generalize (l.getD (off + i) 0 - c - b) % 18446744073709551616 = t at *
      grind
    have hset := hS.set hoi hmod
    clear he hmod
    generalize s % 18446744073709551616 = t at *
    generalize -(s / 18446744073709551616) = q at *
    repeat' first
      | (simp only [hvn, hout, Int.toNat_natCast, getRow_setRow_self, Go.PV.setRow_setRow]) | (with_reducible first | refine PW.seq ?_ | refine PW.block ?_ | refine PW.fork ?_ | refine PW.skip ?_ | refine PW.exit ?_ | refine PW.ret ?_) | ((with_reducible refine PW.region ttOk ?_ ?_); rfl) | ((with_reducible refine PW.regionD ttOk mixed ?_ ?_ ?_); rfl; rfl) | (with_reducible refine ifW_dec (fun g => ?_) (fun g => ?_) <;> first | (exfalso; omega) | (simp -dsimp only [g, wkI])) | ((with_reducible first | refine condE_dec (fun g => ?_) (fun g => ?_) | refine condE_not (fun g => ?_) (fun g => ?_)) <;> try (exfalso; omega)) | (simp -dsimp only [↓wkA, ↓wkE, ↓wkJ, wkB, ↓tt, Nat.reduceBEq, Nat.reduceEqDiff, ↓reduceIte, Nat.reduceLT, Array.toList, Nat.reduceAdd, Nat.reduceMul, Int.reduceToNat, Int.reducePow, UInt8.reduceToNat]) | (refine call_by (h64) (views_data rfl) ⟨trivial, trivial, trivial, trivial⟩ rfl ?_) | (simp -dsimp (disch := first | assumption | omega) only [dec_t, dec_f])
      | (refine And.intro ?_ ?_
         · first | omega | decide | (simp (disch := omega) only [wkW, Int.reduceToNat, Int.reducePow] <;> omega) | (simp <;> omega)) | (simp (disch := omega) only [wkW, Int.reduceToNat, Int.reducePow])
    refine ⟨_, q, hset, hres.1, hres.2, hfin, ?_, rfl⟩
    rcases (show q = 0 ∨ q = 1 by omega) with rfl | rfl <;> rfl
  | succ m =>
    have hmul := mul64 d (v.getD i 0) hd hvi
    have hxy := mul_bound hd hvi
    simp only [B64] at hmul hc hx
    have ha64 := add64 (x := d * v.getD i 0 % 18446744073709551616) (y := c) (c := 0) (by omega) hc.1 (by decide)
    obtain ⟨t, ht⟩ : ∃ t, d * v.getD i 0 + c = t := ⟨_, rfl⟩
    have e1 : (d * v.getD i 0 % 18446744073709551616 + c + 0) % 18446744073709551616 = t % 18446744073709551616 := by omega
    have w2 : IntKind.wrap .u64 (d * v.getD i 0 / 18446744073709551616 + (d * v.getD i 0 % 18446744073709551616 + c + 0) / 18446744073709551616) = t / 18446744073709551616 := by
      rw [wrap_u64 (by omega)]; omega
    rw [e1] at ha64
    have hlo : 0 ≤ t % 18446744073709551616 ∧ t % 18446744073709551616 < 18446744073709551616 := ⟨Int.emod_nonneg _ (by decide), Int.emod_lt_of_pos _ (by decide)⟩
    have hs64 := sub64 (x := l.getD (off + i) 0) (y := t % 18446744073709551616) (c := b) hx hlo hb
    obtain ⟨s, hs⟩ : ∃ s, l.getD (off + i) 0 - t % 18446744073709551616 - b = s := ⟨_, rfl⟩
    rw [hs] at hs64
    have hres : 0 ≤ -(s / 18446744073709551616) ∧ -(s / 18446744073709551616) ≤ 1 := by omega
    have hmod : 0 ≤ s % 18446744073709551616 ∧ s % 18446744073709551616 < B64 := ⟨Int.emod_nonneg _ (by decide), Int.emod_lt_of_pos _ (by decide)⟩
    have hcar : 0 ≤ t / 18446744073709551616 ∧ t / 18446744073709551616 < B64 := by simp only [B64]; omega
    have hfin : vt ((l'.set (off + i) (s % 18446744073709551616)).drop off) (i + 1) = vt (l.drop off) (i + 1) - d * vt v (i + 1) + B64 ^ (i + 1) * (t / 18446744073709551616 + -(s / 18446744073709551616)) := by
      rw [part_vt hS hoi, he]
      have hsum : 18446744073709551616 * (s / 18446744073709551616) + s % 18446744073709551616 = s := Int.mul_ediv_add_emod s 18446744073709551616
      have hsum2 : 18446744073709551616 * (t / 18446744073709551616) + t % 18446744073709551616 = t := Int.mul_ediv_add_emod t 18446744073709551616
      simp only [vt]
      rw [getD_drop', Int.pow_succ]
      rw [← hs] at hsum ⊢
      rw [← ht] at hsum2 hsum ⊢
      simp only [B64]
      generalize (18446744073709551616 : Int) ^ i = p at *
      generalize (l.getD (off + i) 0 - (d * v.getD i 0 + c) % 18446744073709551616 - b) / 18446744073709551616 = q at *
      generalize (l.getD (off + i) 0 - (d * v.getD i 0 + c) % 18446744073709551616 - b) % 18446744073709551616 = u at *
      generalize (d * v.getD i 0 + c) / 18446744073709551616 = q2 at *
      generalize (d * v.getD i 0 + c) % 18446744073709551616 = u2 at *
      grind
    have hset := hS.set hoi hmod
    clear he hmod e1 hlo hxy hx
    generalize s % 18446744073709551616 = u at *
    generalize -(s / 18446744073709551616) = q at *
    repeat' first
      | (simp only [hout, w2, Int.toNat_natCast, getRow_setRow_self, Go.PV.setRow_setRow]) | (with_reducible first | refine PW.seq ?_ | refine PW.block ?_ | refine PW.fork ?_ | refine PW.skip ?_ | refine PW.exit ?_ | refine PW.ret ?_) | ((with_reducible refine PW.region ttOk ?_ ?_); rfl) | ((with_reducible refine PW.regionD ttOk mixed ?_ ?_ ?_); rfl; rfl) | (with_reducible refine ifW_dec (fun g => ?_) (fun g => ?_) <;> first | (exfalso; omega) | (simp -dsimp only [g, wkI])) | ((with_reducible first | refine condE_dec (fun g => ?_) (fun g => ?_) | refine condE_not (fun g => ?_) (fun g => ?_)) <;> try (exfalso; omega)) | (simp -dsimp only [↓wkA, ↓wkE, ↓wkJ, wkB, ↓tt, Nat.reduceBEq, Nat.reduceEqDiff, ↓reduceIte, Nat.reduceLT, Array.toList, Nat.reduceAdd, Nat.reduceMul, Int.reduceToNat, Int.reducePow, UInt8.reduceToNat]) | (refine call_by (hmul) (views_data rfl) ⟨trivial, trivial, trivial⟩ rfl ?_) | (refine call_by (ha64) (views_data rfl) ⟨trivial, trivial, trivial, trivial⟩ rfl ?_) | (refine call_by (hs64) (views_data rfl) ⟨trivial, trivial, trivial, trivial⟩ rfl ?_) | (simp -dsimp (disch := first | assumption | omega) only [dec_t, dec_f])
      | (refine And.intro ?_ ?_
         · first | omega | decide | (simp (disch := omega) only [wkW, Int.reduceToNat, Int.reducePow] <;> omega) | (simp <;> omega)) | (simp (disch := omega) only [wkW, Int.reduceToNat, Int.reducePow])
    exact Again.mk m (toF v d r off n (i + 1) (t / 18446744073709551616) q) ⟨nx, setRow rows r (.ints .u64 (l'.set (off + i) u)), gg, ty⟩ (by omega) (Sub.less ⟨rfl, rfl, rfl, rfl, rfl, rfl, rfl, rfl, trivial⟩ (fun _ _ h => h) rfl rfl) ⟨i + 1, _, _, _, by omega, hset, hcar, hres, hfin, rfl, rfl⟩
abbrev pbF (v : List Int) (r off n i : Nat) (c : Int) : PV.Frame := [(10, .int .i64 (i : Int)), (9, .int .i64 v.length), (8, .ints .u64 v), (5, .int .u64 c), (0, .sl r off (n + 1) true), (1, .ints .u64 v)]
theorem put_back_h (l v : List Int) (hl : Limbs l) (hv : Limbs v) (off n : Nat) (hvn : v.length = n) (hn : n ≤ 5000) (hll : off + n + 1 ≤ l.length) (hl2 : l.length ≤ 10000) (r nx : Nat) (rows : List (Nat × PV.Row)) (gg : List PV.Frame) (ty : List (Nat × TypeId)) (hr : getRow rows r = some (.ints .u64 l)) :
    HMeets Tryz.prog 131 [.sl r off (n + 1) true, .ints .u64 v] ⟨nx, rows, gg, ty⟩ fun res H' => ∃ l' c, PartS l l' off (n + 1) ∧ 0 ≤ c ∧ c ≤ 1 ∧ vt (l'.drop off) (n + 1) + B64 ^ (n + 1) * c = vt (l.drop off) (n + 1) + vt v n ∧ res = .bool (decide (c = 1)) ∧ H' = ⟨nx, setRow rows r (.ints .u64 l'), gg, ty⟩ := by
  refine hmeets_by ttOk Tryz.func131 Tryz.ntmps131 Tryz.results131 (by kernel_rfl) (c := _) rfl rfl fun E => ?_
  simp only [argsFrame]
  repeat' first
    | (with_reducible first | refine PW.seq ?_ | refine PW.block ?_ | refine PW.fork ?_ | refine PW.skip ?_ | refine PW.exit ?_ | refine PW.ret ?_) | ((with_reducible refine PW.region ttOk ?_ ?_); rfl) | ((with_reducible refine PW.regionD ttOk mixed ?_ ?_ ?_); rfl; rfl) | (with_reducible refine ifW_dec (fun g => ?_) (fun g => ?_) <;> first | (exfalso; omega) | (simp -dsimp only [g, wkI])) | ((with_reducible first | refine condE_dec (fun g => ?_) (fun g => ?_) | refine condE_not (fun g => ?_) (fun g => ?_)) <;> try (exfalso; omega)) | (simp -dsimp only [↓wkA, ↓wkE, ↓wkJ, wkB, ↓tt, Nat.reduceBEq, Nat.reduceEqDiff, ↓reduceIte, Nat.reduceLT, Array.toList, Nat.reduceAdd, Nat.reduceMul, Int.reduceToNat, Int.reducePow, UInt8.reduceToNat]) | (simp -dsimp (disch := first | assumption | omega) only [dec_t, dec_f])
    | (refine And.intro ?_ ?_
       · first | omega | decide | (simp (disch := omega) only [wkW, Int.reduceToNat, Int.reducePow] <;> omega) | (simp <;> omega)) | (simp (disch := omega) only [wkW, Int.reduceToNat, Int.reducePow])
  refine PW.loopA (fun m F H => ∃ i l' c, i + m = n ∧ PartS l l' off i ∧ (0 ≤ c ∧ c ≤ 1) ∧ vt (l'.drop off) i + B64 ^ i * c = vt (l.drop off) i + vt v i ∧ F = pbF v r off n i c ∧ H = ⟨nx, setRow rows r (.ints .u64 l'), gg, ty⟩) n (pbF v r off n 0 0) ⟨nx, setRow rows r (.ints .u64 l), gg, ty⟩ (Sub.less ⟨rfl, rfl, rfl, rfl, rfl, rfl, trivial⟩ (fun k row h => by
    rw [getRow_setRow] at h
    split at h
    · rename_i e; subst e; rw [← h]; exact hr
    · exact h) rfl rfl) ⟨0, l, 0, by omega, PartS.refl hl off, by decide, by simp [vt], rfl, rfl⟩ ?_
  rintro m F H ⟨i, l', c, hi, hS, hc, he, rfl, rfl⟩
  have hll' := hS.len
  have hoi : off + i < l.length := by omega
  have hx := getD_limb hl (off + i)
  have hout := hS.out (off + i) (.inr (Nat.le_refl _))
  have hvi := getD_limb hv i
  cases m with
  | zero =>
    obtain rfl : i = n := by omega
    have h64 := add64 (x := l.getD (off + i) 0) (y := 0) (c := c) hx.1 (by decide) hc
    obtain ⟨s, hs⟩ : ∃ s, l.getD (off + i) 0 + 0 + c = s := ⟨_, rfl⟩
    rw [hs] at h64
    have hres : 0 ≤ s / 18446744073709551616 ∧ s / 18446744073709551616 ≤ 1 := by simp only [B64] at *; omega
    have hmod : 0 ≤ s % 18446744073709551616 ∧ s % 18446744073709551616 < B64 := ⟨Int.emod_nonneg _ (by decide), Int.emod_lt_of_pos _ (by decide)⟩
    have hfin : vt ((l'.set (off + i) (s % 18446744073709551616)).drop off) (i + 1) + B64 ^ (i + 1) * (s / 18446744073709551616) = vt (l.drop off) (i + 1) + vt v i := by
      rw [part_vt hS hoi]
      have hsum : 18446744073709551616 * (s / 18446744073709551616) + s % 18446744073709551616 = s := Int.mul_ediv_add_emod s 18446744073709551616
      simp only [vt]
      rw [getD_drop', Int.pow_succ]
      rw [← hs] at hsum ⊢
      simp only [B64] at he ⊢
      generalize (18446744073709551616 : Int) ^ i = p at *
      generalize (l.getD (off + i) 0 + 0 + c) / 18446744073709551616 = q at *
      generalize (l.getD (off + i) 0 + 0 + c) % 18446744073709551616 = t at *
      grind
    have hset := hS.set hoi hmod
    clear he hmod
    generalize s % 18446744073709551616 = t at *
    generalize s / 18446744073709551616 = q at *
    repeat' first
      | (simp only [hvn, hout, Int.toNat_natCast, getRow_setRow_self, Go.PV.setRow_setRow]) | (with_reducible first | refine PW.seq ?_ | refine PW.block ?_ | refine PW.fork ?_ | refine PW.skip ?_ | refine PW.exit ?_ | refine PW.ret ?_) | ((with_reducible refine PW.region ttOk ?_ ?_); rfl) | ((with_reducible refine PW.regionD ttOk mixed ?_ ?_ ?_); rfl; rfl) | (with_reducible refine ifW_dec (fun g => ?_) (fun g => ?_) <;> first | (exfalso; omega) | (simp -dsimp only [g, wkI])) | ((with_reducible first | refine condE_dec (fun g => ?_) (fun g => ?_) | refine condE_not (fun g => ?_) (fun g => ?_)) <;> try (exfalso; omega)) | (simp -dsimp only [↓wkA, ↓wkE, ↓wkJ, wkB, ↓tt, Nat.reduceBEq, Nat.reduceEqDiff, ↓reduceIte, Nat.reduceLT, Array.toList, Nat.reduceAdd, Nat.reduceMul, Int.reduceToNat, Int.reducePow, UInt8.reduceToNat]) | (refine call_by (h64) (views_data rfl) ⟨trivial, trivial, trivial, trivial⟩ rfl ?_) | (simp -dsimp (disch := first | assumption | omega) only [dec_t, dec_f])
      | (refine And.intro ?_ ?_
         · first | omega | decide | (simp (disch := omega) only [wkW, Int.reduceToNat, Int.reducePow] <;> omega) | (simp <;> omega)) | (simp (disch := omega) only [wkW, Int.reduceToNat, Int.reducePow])
    refine ⟨_, q, hset, hres.1, hres.2, hfin, ?_, rfl⟩
    rcases (show q = 0 ∨ q = 1 by omega) with rfl | rfl <;> rfl
  | succ m =>
    have ha64 := add64 (x := l.getD (off + i) 0) (y := v.getD i 0) (c := c) hx.1 hvi.1 hc
    obtain ⟨s, hs⟩ : ∃ s, l.getD (off + i) 0 + v.getD i 0 + c = s := ⟨_, rfl⟩
    rw [hs] at ha64
    have hres : 0 ≤ s / 18446744073709551616 ∧ s / 18446744073709551616 ≤ 1 := by simp only [B64] at *; omega
    have hmod : 0 ≤ s % 18446744073709551616 ∧ s % 18446744073709551616 < B64 := ⟨Int.emod_nonneg _ (by decide), Int.emod_lt_of_pos _ (by decide)⟩
    have hfin : vt ((l'.set (off + i) (s % 18446744073709551616)).drop off) (i + 1) + B64 ^ (i + 1) * (s / 18446744073709551616) = vt (l.drop off) (i + 1) + vt v (i + 1) := by
      rw [part_vt hS hoi]
      have hsum : 18446744073709551616 * (s / 18446744073709551616) + s % 18446744073709551616 = s := Int.mul_ediv_add_emod s 18446744073709551616
      simp only [vt]
      rw [getD_drop', Int.pow_succ]
      rw [← hs] at hsum ⊢
      simp only [B64] at he ⊢
      generalize (18446744073709551616 : Int) ^ i = p at *
      generalize (l.getD (off + i) 0 + v.getD i 0 + c) / 18446744073709551616 = q at *
      generalize (l.getD (off + i) 0 + v.getD i 0 + c) % 18446744073709551616 = t at *
      grind
    have hset := hS.set hoi hmod
    clear he hmod hx
    generalize s % 18446744073709551616 = u at *
    generalize s / 18446744073709551616 = q at *
    repeat' first
      | (simp only [hout, Int.toNat_natCast, getRow_setRow_self, Go.PV.setRow_setRow]) | (with_reducible first | refine PW.seq ?_ | refine PW.block ?_ | refine PW.fork ?_ | refine PW.skip ?_ | refine PW.exit ?_ | refine PW.ret ?_) | ((with_reducible refine PW.region ttOk ?_ ?_); rfl) | ((with_reducible refine PW.regionD ttOk mixed ?_ ?_ ?_); rfl; rfl) | (with_reducible refine ifW_dec (fun g => ?_) (fun g => ?_) <;> first | (exfalso; omega) | (simp -dsimp only [g, wkI])) | ((with_reducible first | refine condE_dec (fun g => ?_) (fun g => ?_) | refine condE_not (fun g => ?_) (fun g => ?_)) <;> try (exfalso; omega)) | (simp -dsimp only [↓wkA, ↓wkE, ↓wkJ, wkB, ↓tt, Nat.reduceBEq, Nat.reduceEqDiff, ↓reduceIte, Nat.reduceLT, Array.toList, Nat.reduceAdd, Nat.reduceMul, Int.reduceToNat, Int.reducePow, UInt8.reduceToNat]) | (refine call_by (ha64) (views_data rfl) ⟨trivial, trivial, trivial, trivial⟩ rfl ?_) | (simp -dsimp (disch := first | assumption | omega) only [dec_t, dec_f])
      | (refine And.intro ?_ ?_
         · first | omega | decide | (simp (disch := omega) only [wkW, Int.reduceToNat, Int.reducePow] <;> omega) | (simp <;> omega)) | (simp (disch := omega) only [wkW, Int.reduceToNat, Int.reducePow])
    exact Again.mk m (pbF v r off n (i + 1) q) ⟨nx, setRow rows r (.ints .u64 (l'.set (off + i) u)), gg, ty⟩ (by omega) (Sub.less ⟨rfl, rfl, rfl, rfl, rfl, rfl, trivial⟩ (fun _ _ h => h) rfl rfl) ⟨i + 1, _, _, by omega, hset, hres, hfin, rfl, rfl⟩
structure LongS (u q : List Int) (U V : Int) (n m J : Nat) : Prop where
  ul : u.length = m + n
  ql : q.length = m
  ulim : Limbs u
  qlim : Limbs q
  zero : ∀ k, k < J → q.getD k 0 = 0
  eq : U = vt u (J + n) + vt q m * V
  top : vt (u.drop J) n < V
theorem LongS.digit {u q u' : List Int} {U V d : Int} {n m j : Nat} (h : LongS u q U V n m (j + 1)) (hj : j < m) (hn : 1 ≤ n) (hV : V < B64 ^ n) (hp : PartS u u' j (n + 1)) (hd : 0 ≤ d ∧ d < B64) (hx : vt (u'.drop j) (n + 1) = vt (u.drop j) (n + 1) - d * V) (hlt : vt (u'.drop j) (n + 1) < V) : LongS u' (q.set j d) U V n m j := by
  have hlo := vt_bound (limbs_drop hp.lim j) n
  have htop : (u'.drop j).getD n 0 = 0 := by
    have hg := getD_limb (limbs_drop hp.lim j) n
    simp only [vt] at hlt
    refine Int.le_antisymm (Int.le_of_not_gt fun h0 => ?_) hg.1
    have h1 : B64 ^ n * 1 ≤ B64 ^ n * (u'.drop j).getD n 0 := Int.mul_le_mul_of_nonneg_left h0 (Int.le_of_lt (pow_pos64 n))
    omega
  have hx2 : vt (u'.drop j) n = vt (u.drop j) (n + 1) - d * V := by
    rw [← hx]; simp only [vt]; rw [htop]; simp
  have hlow : vt u' j = vt u j := vt_same j fun k hk => hp.out k (.inl hk)
  refine ⟨by rw [hp.len, h.ul], by rw [List.length_set, h.ql], hp.lim, limbs_set h.qlim _ hd, fun k hk => ?_, ?_, by rw [hx2, ← hx]; exact hlt⟩
  · rw [getD_set _ _ _ _ (by rw [h.ql]; exact hj), if_neg (by omega)]; exact h.zero k (by omega)
  · rw [vt_set_add q j d (by rw [h.ql]; exact hj) m hj, h.zero j (by omega), vt_split, hx2, hlow, h.eq, show j + 1 + n = j + (n + 1) by omega, vt_split]
    generalize B64 ^ j = p
    generalize vt (u.drop j) (n + 1) = y
    generalize vt u j = x
    generalize vt q m = z
    grind
theorem LongS.part {u q : List Int} {U V : Int} {n m j : Nat} (h : LongS u q U V n m (j + 1)) : vt (u.drop j) (n + 1) < B64 * V := by
  have h1 := h.top
  have hg := getD_limb (limbs_drop h.ulim j) 0
  have e : vt (u.drop j) (n + 1) = (u.drop j).getD 0 0 + B64 * vt (u.drop (j + 1)) n := by
    rw [Nat.add_comm n 1, vt_split, List.drop_drop, show B64 ^ 1 = B64 from rfl]
    simp [vt]
  rw [e]
  have : B64 * (vt (u.drop (j + 1)) n + 1) ≤ B64 * V := Int.mul_le_mul_of_nonneg_left (by omega) (by decide)
  simp only [B64] at *
  omega
abbrev loF (v : List Int) (s n m J : Nat) : PV.Frame := [(11, .int .i64 ((J : Int) - 1)), (6, .int .i64 (n : Int)), (7, .int .i64 (s : Int)), (8, .ints .u64 v), (9, .sl 1 0 (m + n) true), (10, .sl 2 0 m true)]
abbrev loG (v : List Int) (s n m j : Nat) (d : Int) (b : Bool) : PV.Frame := [(14, .bool b), (13, .int .u64 d), (12, .sl 1 j (n + 1) true), (11, .int .i64 (j : Int)), (6, .int .i64 (n : Int)), (7, .int .i64 (s : Int)), (8, .ints .u64 v), (9, .sl 1 0 (m + n) true), (10, .sl 2 0 m true)]
abbrev loH (u q : List Int) : PV.Heap := ⟨3, [(1, .ints .u64 u), (2, .ints .u64 q)], [], []⟩
theorem PartS.trans {l l1 l2 : List Int} {off i : Nat} (h : PartS l l1 off i) (k : PartS l1 l2 off i) : PartS l l2 off i := ⟨by rw [k.len, h.len], k.lim, fun j hj => by rw [k.out j hj, h.out j hj]⟩
theorem quot_long (a b : List Int) (ha : Limbs a) (hb : Limbs b) (n m : Nat) (hbn : b.length = n) (hn : 2 ≤ n) (ham : a.length + 1 = m + n) (hm1 : 1 ≤ m) (hal : a.length ≤ 4096) (htop : 0 < b.getD (n - 1) 0) (A B : Nat) (hA : val a = A) (hB : val b = B) (hB0 : 0 < B) (hAm : A < 18446744073709551616 ^ a.length) (hQ : A / B < NMax) :
    Meets Tryz.prog 96 [.ints .u64 a, .ints .u64 b] (.tup [.ints .u64 (natL (A / B)), .ints .u64 (natL (A % B))]) := by
  have hbt := getD_limb hb (n - 1)
  obtain ⟨s, hs, hs1, hs2, hlead⟩ := leading (b.getD (n - 1) 0) ⟨htop, hbt.2⟩
  have hs64 : s < 64 := by omega
  -- the divisor, raised
  have hBn : B * 2 ^ s < 18446744073709551616 ^ n := by
    obtain ⟨lo, l1, l2, l3⟩ := vt_low hb (show 1 ≤ n by omega)
    have h1 : (B : Int) * 2 ^ s < B64 ^ n := by
      have hv : (B : Int) = vt b n := by rw [← hB]; unfold val; rw [hbn]
      have e : B64 ^ n = B64 ^ (n - 1) * B64 := by rw [← Int.pow_succ, show (n - 1).succ = n by omega]
      rw [hv, l3, e]
      have hP : (0 : Int) < 2 ^ s := Int.pow_pos (by decide)
      have h2 : (lo + 1) * 2 ^ s ≤ B64 ^ (n - 1) * 2 ^ s := Int.mul_le_mul_of_nonneg_right l2 (Int.le_of_lt hP)
      have h3 : B64 ^ (n - 1) * (b.getD (n - 1) 0 * 2 ^ s + 2 ^ s) ≤ B64 ^ (n - 1) * B64 := by
        refine Int.mul_le_mul_of_nonneg_left ?_ (Int.le_of_lt (pow_pos64 _))
        -- both are multiples of 2^s
        have e3 : (B64 : Int) = 2 ^ (64 - s) * 2 ^ s := by rw [← Int.pow_add, show 64 - s + s = 64 by omega]; rfl
        rw [show b.getD (n - 1) 0 * 2 ^ s + 2 ^ s = (b.getD (n - 1) 0 + 1) * 2 ^ s by rw [Int.add_mul, Int.one_mul], e3]
        refine Int.mul_le_mul_of_nonneg_right ?_ (Int.le_of_lt hP)
        rw [e3] at hs2
        have := Int.lt_of_mul_lt_mul_right hs2 (Int.le_of_lt hP)
        omega
      rw [Int.mul_add] at h3
      rw [Int.add_mul, Int.mul_assoc]
      rw [Int.add_mul, Int.one_mul] at h2
      have e4 : B64 ^ (n - 1) * 2 ^ s = B64 ^ (n - 1) * 2 ^ s := rfl
      generalize B64 ^ (n - 1) * (b.getD (n - 1) 0 * 2 ^ s) = x at *
      generalize B64 ^ (n - 1) * 2 ^ s = y at *
      generalize B64 ^ (n - 1) * B64 = z at *
      generalize lo * 2 ^ s = w at *
      omega
    have e : B64 ^ n = ((18446744073709551616 ^ n : Nat) : Int) := by rw [Int.natCast_pow]; rfl
    rw [e] at h1
    have h2 : ((B * 2 ^ s : Nat) : Int) < ((18446744073709551616 ^ n : Nat) : Int) := by rw [Int.natCast_mul, Int.natCast_pow]; exact h1
    exact Int.ofNat_lt.1 h2
  have hAn : A * 2 ^ s < 18446744073709551616 ^ (m + n) := by
    rw [← ham, Nat.pow_succ]
    exact Nat.mul_lt_mul_of_lt_of_le hAm (Nat.le_trans (Nat.pow_le_pow_right (by decide) (show s ≤ 63 by omega)) (by decide)) (by decide)
  have hrv := raised_h b hb s n hs64 (by omega) (by omega) (B * 2 ^ s) (by rw [hB, Int.natCast_mul, Int.natCast_pow]; rfl) hBn
  have hru := raised_h a ha s (m + n) hs64 (by omega) (by omega) (A * 2 ^ s) (by rw [hA, Int.natCast_mul, Int.natCast_pow]; rfl) hAn
  -- what the loops lead to
  have hPs : 0 < 2 ^ s := Nat.two_pow_pos s
  have hdiv : A * 2 ^ s / (B * 2 ^ s) = A / B := Nat.mul_div_mul_right _ _ hPs
  have hmod : A * 2 ^ s % (B * 2 ^ s) = A % B * 2 ^ s := Nat.mul_mod_mul_right ..
  have w1 : IntKind.wrap .i64 ((n : Int) - 1) = ((n - 1 : Nat) : Int) := by rw [wrap_i64 (by omega)]; omega
  have w2 : IntKind.wrap .i64 ((a.length : Int) + 1) = ((m + n : Nat) : Int) := by rw [wrap_i64 (by omega)]; omega
  have w3 : IntKind.wrap .i64 ((a.length : Int) - (n : Int)) = ((m - 1 : Nat) : Int) := by rw [wrap_i64 (by omega)]; omega
  have w4 : IntKind.wrap .i64 (((m - 1 : Nat) : Int) + 1) = (m : Int) := by rw [wrap_i64 (by omega)]; omega
  have w5 : IntKind.wrap .i64 ((m : Int) - 1) = (m : Int) - 1 := wrap_i64 (by omega)
  clear hAn hA hBn
  refine meets_by ttOk Tryz.func96 Tryz.ntmps96 Tryz.results96 (by kernel_rfl) (c := _) rfl rfl rfl fun E => ?_
  simp only [argsFrame]
  repeat' first
    | (with_reducible first | refine PW.seq ?_ | refine PW.block ?_ | refine PW.fork ?_ | refine PW.skip ?_ | refine PW.exit ?_ | refine PW.ret ?_ | refine PW.scope ?_ | refine PW.label ?_ | refine PW.goto ?_) | (simp only [hbn, w1, w2, w3, w4, w5, Int.toNat_natCast]) | ((with_reducible refine PW.region ttOk ?_ ?_); rfl) | ((with_reducible refine PW.regionD ttOk mixed ?_ ?_ ?_); rfl; rfl) | (with_reducible refine ifW_dec (fun g => ?_) (fun g => ?_) <;> first | (exfalso; omega) | (simp -dsimp only [g, wkI])) | ((with_reducible first | refine condE_dec (fun g => ?_) (fun g => ?_) | refine condE_not (fun g => ?_) (fun g => ?_)) <;> try (exfalso; omega)) | (simp -dsimp only [↓wkA, ↓wkE, ↓wkJ, wkB, ↓tt, Nat.reduceBEq, Nat.reduceEqDiff, ↓reduceIte, Nat.reduceLT, Array.toList, Nat.reduceAdd, Nat.reduceMul, Int.reduceToNat, Int.reducePow, UInt8.reduceToNat]) | (refine call_by (hlead) (views_data rfl) ⟨trivial, trivial⟩ rfl ?_) | (refine call_h (hrv _ _ _ _) ?_; rintro _ _ ⟨v, hvl, hvL, hvV, rfl, rfl⟩; refine ⟨_, _, rfl, ?_⟩) | (refine call_h (hru _ _ _ _) ?_; rintro _ _ ⟨u, hul, huL, huV, rfl, rfl⟩; refine ⟨_, _, rfl, ?_⟩) | (simp -dsimp (disch := first | assumption | omega) only [dec_t, dec_f])
    | (refine And.intro ?_ ?_
       · first | omega | decide | (simp (disch := omega) only [wkW, Int.reduceToNat, Int.reducePow] <;> omega) | (simp <;> omega)) | (simp (disch := omega) only [wkW, Int.reduceToNat, Int.reducePow])
  have hvv : vt v n = ((B * 2 ^ s : Nat) : Int) := by rw [← hvV]; unfold val; rw [hvl]
  have huu : vt u (m + n) = ((A * 2 ^ s : Nat) : Int) := by rw [← huV]; unfold val; rw [hul]
  have hVlow : B64 ^ (n - 1) * 9223372036854775808 ≤ vt v n := by
    obtain ⟨lo, l1, l2, l3⟩ := vt_low hb (show 1 ≤ n by omega)
    have hv : (B : Int) = vt b n := by rw [← hB]; unfold val; rw [hbn]
    have e : vt v n = (lo + B64 ^ (n - 1) * b.getD (n - 1) 0) * 2 ^ s := by rw [hvv, Int.natCast_mul, Int.natCast_pow, hv, l3]; rfl
    rw [e, Int.add_mul, Int.mul_assoc]
    have h1 := Int.mul_le_mul_of_nonneg_left hs1 (Int.le_of_lt (pow_pos64 (n - 1)))
    have h2 : 0 ≤ lo * 2 ^ s := Int.mul_nonneg l1 (Int.le_of_lt (Int.pow_pos (by decide)))
    omega
  have hVup := (vt_bound hvL n).2
  have hVpos : 0 < vt v n := by
    have := Int.mul_pos (pow_pos64 (n - 1)) (show (0 : Int) < 9223372036854775808 by decide)
    omega
  have hvtop : 0 < v.getD (n - 1) 0 := by
    obtain ⟨lo, l1, l2, l3⟩ := vt_low hvL (show 1 ≤ n by omega)
    refine Int.lt_of_not_ge fun h => ?_
    have h1 : B64 ^ (n - 1) * v.getD (n - 1) 0 ≤ 0 := Int.mul_nonpos_of_nonneg_of_nonpos (Int.le_of_lt (pow_pos64 _)) h
    have h2 : B64 ^ (n - 1) * 1 ≤ B64 ^ (n - 1) * 9223372036854775808 := Int.mul_le_mul_of_nonneg_left (by decide) (Int.le_of_lt (pow_pos64 _))
    omega
  have htop0 : vt (u.drop m) n < vt v n := by
    refine Int.lt_of_lt_of_le ?_ hVlow
    have h1 : B64 ^ m * vt (u.drop m) n ≤ vt u (m + n) := by
      rw [vt_split]
      have := (vt_bound huL m).1
      omega
    have h2 : vt u (m + n) < B64 ^ m * (B64 ^ (n - 1) * 9223372036854775808) := by
      rw [huu, ← Int.mul_assoc, ← Int.pow_add, show m + (n - 1) = a.length by omega, Int.natCast_mul, Int.natCast_pow]
      have hA1 : (A : Int) < B64 ^ a.length := by
        have e : B64 ^ a.length = ((18446744073709551616 ^ a.length : Nat) : Int) := by rw [Int.natCast_pow]; rfl
        rw [e]; exact Int.ofNat_lt.2 hAm
      have hP : (2 : Int) ^ s ≤ 2 ^ 63 := by exact_mod_cast Nat.pow_le_pow_right (by decide) hs
      have hP2 : (2 : Int) ^ 63 = 9223372036854775808 := by decide
      have hP0 : (0 : Int) < 2 ^ s := Int.pow_pos (by decide)
      have k1 : (A : Int) * 2 ^ s ≤ (A : Int) * 9223372036854775808 := Int.mul_le_mul_of_nonneg_left (by omega) (by omega)
      have k2 : (A : Int) * 9223372036854775808 < B64 ^ a.length * 9223372036854775808 := Int.mul_lt_mul_of_pos_right hA1 (by decide)
      have k3 : (A : Int) * ((2 : Nat) : Int) ^ s = (A : Int) * 2 ^ s := rfl
      omega
    exact Int.lt_of_mul_lt_mul_left (Int.lt_of_le_of_lt h1 h2) (Int.le_of_lt (pow_pos64 m))
  have hstart : LongS u (List.replicate m 0) (vt u (m + n)) (vt v n) n m m := ⟨hul, by simp, huL, limbs_zeros _, fun k _ => getD_zeros _ _, by rw [vt_zeros]; simp, htop0⟩
  have hend : ∀ u' q', LongS u' q' (vt u (m + n)) (vt v n) n m 0 → val q' = ((A / B : Nat) : Int) ∧ val (u'.take n) = ((A % B * 2 ^ s : Nat) : Int) := fun u' q' hS => by
    have he := hS.eq
    have ht := hS.top
    rw [List.drop_zero] at ht
    rw [Nat.zero_add, huu] at he
    have hl := (vt_bound hS.ulim n).1
    have hn2 : (u'.take n).length = n := by rw [List.length_take, hS.ul]; omega
    have e1 : vt q' m = ((A / B : Nat) : Int) := by
      rw [← hdiv, Int.natCast_ediv, he, ← hvv, Int.add_mul_ediv_right _ _ (by omega), Int.ediv_eq_zero_of_lt hl ht, Int.zero_add]
    have e2 : vt u' n = ((A % B * 2 ^ s : Nat) : Int) := by
      rw [← hmod, Int.natCast_emod, he, ← hvv, Int.add_mul_emod_self_right, Int.emod_eq_of_lt hl ht]
    refine ⟨by unfold val; rw [hS.ql]; exact e1, ?_⟩
    unfold val
    rw [hn2, ← e2]
    exact vt_same n fun k hk => getD_take' hk
  clear hVlow htop0 hvv huu huV hvV hdiv hmod hs1 hs2 hAm hrv hru hlead
  generalize vt u (m + n) = U at *
  refine PW.loopA (fun J F H => ∃ u q, LongS u q U (vt v n) n m J ∧ J ≤ m ∧ F = loF v s n m J ∧ H = loH u q) m (loF v s n m m) (loH u (List.replicate m 0)) (Sub.trans (toData 8 0 0 n true rfl (show 0 + n ≤ v.length by omega)) (Sub.norm ⟨rfl, rfl, rfl, ?_, rfl, rfl, trivial⟩ ⟨rfl, rfl, trivial⟩ (Nat.le_refl _) rfl rfl rfl rfl (tyOk_spec rfl))) ⟨u, _, hstart, Nat.le_refl _, rfl, rfl⟩ ?_
  · show PV.ints .u64 ((v.drop 0).take n) = _
    rw [List.take_of_length_le (by rw [List.drop_zero]; omega), List.drop_zero]
  clear hstart hul huL
  clear u
  rintro J F H ⟨u, q, hS, hJ, rfl, rfl⟩
  have hul := hS.ul
  have hql := hS.ql
  cases J with
  | zero =>
    obtain ⟨f1, f2⟩ := hend u q hS
    have hsh := nat_shr_l (l := u.take n) (n := s) (limbs_take hS.ulim n) (by rw [List.length_take]; omega) f2 (by omega)
    rw [Nat.mul_div_cancel _ hPs] at hsh
    have htr := nat_trim q (by omega)
    rw [trim_eq hS.qlim, f1, Int.toNat_natCast] at htr
    generalize decide (A % B * 2 ^ s % 2 ^ s ≠ 0) = lost at *
    generalize natL (A / B) = rq at *
    generalize natL (A % B) = rr at *
    clear hS hend f1 f2 hvtop hVpos hVup
    repeat' first
      | (with_reducible first | refine PW.seq ?_ | refine PW.block ?_ | refine PW.fork ?_ | refine PW.skip ?_ | refine PW.exit ?_ | refine PW.ret ?_ | refine PW.scope ?_ | refine PW.label ?_ | refine PW.goto ?_) | (simp only [Int.sub_zero, Int.toNat_natCast]) | ((with_reducible refine PW.region ttOk ?_ ?_); rfl) | ((with_reducible refine PW.regionD ttOk mixed ?_ ?_ ?_); rfl; rfl) | (with_reducible refine ifW_dec (fun g => ?_) (fun g => ?_) <;> first | (exfalso; omega) | (simp -dsimp only [g, wkI])) | ((with_reducible first | refine condE_dec (fun g => ?_) (fun g => ?_) | refine condE_not (fun g => ?_) (fun g => ?_)) <;> try (exfalso; omega)) | (simp -dsimp only [↓wkA, ↓wkE, ↓wkJ, wkB, ↓tt, Nat.reduceBEq, Nat.reduceEqDiff, ↓reduceIte, Nat.reduceLT, Array.toList, Nat.reduceAdd, Nat.reduceMul, Int.reduceToNat, Int.reducePow, UInt8.reduceToNat]) | (refine call_drop (args' := [.ints .u64 (u.take n), .int .i64 (s : Int)]) (by simp -dsimp only [↓wkA, ↓wkE, ↓wkJ, wkB, ↓tt, Nat.reduceBEq, Nat.reduceEqDiff, ↓reduceIte, Nat.reduceLT, Array.toList, Nat.reduceAdd, Nat.reduceMul, Int.reduceToNat, Int.reducePow, UInt8.reduceToNat]) hsh (by simp -dsimp only [okViews, ↓wkA, ↓wkE, ↓wkJ, wkB, ↓tt, Nat.reduceBEq, Nat.reduceEqDiff, ↓reduceIte, Nat.reduceLT, Array.toList, Nat.reduceAdd, Nat.reduceMul, Int.reduceToNat, Int.reducePow, UInt8.reduceToNat] <;> omega) rfl ?_; simp only [wkD, Nat.reduceBEq]) | (refine call_drop (args' := [.ints .u64 q]) (by simp -dsimp only [↓wkA, ↓wkE, ↓wkJ, wkB, ↓tt, Nat.reduceBEq, Nat.reduceEqDiff, ↓reduceIte, Nat.reduceLT, Array.toList, Nat.reduceAdd, Nat.reduceMul, Int.reduceToNat, Int.reducePow, UInt8.reduceToNat] <;> rw [List.take_of_length_le (by omega)]) htr (by simp -dsimp only [okViews, ↓wkA, ↓wkE, ↓wkJ, wkB, ↓tt, Nat.reduceBEq, Nat.reduceEqDiff, ↓reduceIte, Nat.reduceLT, Array.toList, Nat.reduceAdd, Nat.reduceMul, Int.reduceToNat, Int.reducePow, UInt8.reduceToNat] <;> omega) rfl ?_) | (simp -dsimp (disch := first | assumption | omega) only [dec_t, dec_f])
      | (refine And.intro ?_ ?_
         · first | omega | decide | (simp (disch := omega) only [wkW, Int.reduceToNat, Int.reducePow] <;> omega) | (simp <;> omega)) | (simp (disch := omega) only [wkW, Int.reduceToNat, Int.reducePow])
  | succ j =>
    have hpart := hS.part
    have hPs0 := (vt_bound (limbs_drop hS.ulim j) (n + 1)).1
    have hpl : ((u.drop j).take (n + 1)).length = n + 1 := by rw [List.length_take, List.length_drop, hul]; omega
    have hpvt : vt ((u.drop j).take (n + 1)) (n + 1) = vt (u.drop j) (n + 1) := vt_same _ fun k hk => getD_take' hk
    obtain ⟨X, hX⟩ : ∃ X, vt (u.drop j) (n + 1) = X := ⟨_, rfl⟩
    have hX0 := hX
    rw [hX] at hpart hPs0 hpvt
    have hqv : X / vt v n * vt v n ≤ X := Int.ediv_mul_le _ (by omega)
    have hq0 : 0 ≤ X / vt v n := Int.ediv_nonneg hPs0 (by omega)
    have hqlt : X < (X / vt v n + 1) * vt v n := by
      have := Int.lt_ediv_add_one_mul_self X hVpos
      exact this
    obtain ⟨qd, hqd⟩ : ∃ qd, X / vt v n = qd := ⟨_, rfl⟩
    rw [hqd] at hqv hq0 hqlt
    have hg := quot_guess ((u.drop j).take (n + 1)) v n (limbs_take (limbs_drop hS.ulim j) _) hvL hpl hvl (by omega) hvtop
    obtain ⟨g1, g2, g3⟩ := guess_ge (q := qd) (limbs_take (limbs_drop hS.ulim j) (n + 1)) hvL (show 1 ≤ n by omega) hvtop (by rw [hpvt]; exact hqv) (by rw [hpvt]; exact hpart)
    generalize guessV ((u.drop j).take (n + 1)) v n = d0 at *
    have hoff := take_off_h u v hS.ulim hvL d0 ⟨g2, g3⟩ j n hvl (by omega) (by omega) (by omega)
    have w6 : IntKind.wrap .i64 ((j : Int) + (n : Int)) = ((j + n : Nat) : Int) := wrap_i64 (by omega)
    have w7 : IntKind.wrap .i64 (((j + n : Nat) : Int) + 1) = ((j + n + 1 : Nat) : Int) := by rw [wrap_i64 (by omega)]; omega
    have w8 : IntKind.wrap .i64 ((j : Int) - 1) = (j : Int) - 1 := wrap_i64 (by omega)
    have e0 : (((j + 1 : Nat) : Int) - 1) = (j : Int) := by omega
    have e1 : (((j + n + 1 : Nat) : Int) - (j : Int)).toNat = n + 1 := by omega
    have hdig := fun u' d h1 h2 h3 h4 => hS.digit (u' := u') (d := d) (by omega) (by omega) hVup h1 h2 h3 h4
    rw [hX] at hoff hdig
    clear hend hpart hpl hpvt hX hqd
    repeat' first
      | (with_reducible first | refine PW.seq ?_ | refine PW.block ?_ | refine PW.fork ?_ | refine PW.skip ?_ | refine PW.exit ?_ | refine PW.ret ?_ | refine PW.scope ?_ | refine PW.label ?_ | refine PW.goto ?_) | (simp only [e0, e1, w6, w7, w8, Int.toNat_natCast, Nat.zero_add]) | ((with_reducible refine PW.region ttOk ?_ ?_); rfl) | ((with_reducible refine PW.regionD ttOk mixed ?_ ?_ ?_); rfl; rfl) | (with_reducible refine ifW_dec (fun g => ?_) (fun g => ?_) <;> first | (exfalso; omega) | (simp -dsimp only [g, wkI])) | ((with_reducible first | refine condE_dec (fun g => ?_) (fun g => ?_) | refine condE_not (fun g => ?_) (fun g => ?_)) <;> try (exfalso; omega)) | (simp -dsimp only [↓wkA, ↓wkE, ↓wkJ, wkB, ↓tt, Nat.reduceBEq, Nat.reduceEqDiff, ↓reduceIte, Nat.reduceLT, Array.toList, Nat.reduceAdd, Nat.reduceMul, Int.reduceToNat, Int.reducePow, UInt8.reduceToNat]) | (refine call_by' (args' := [.ints .u64 ((u.drop j).take (n + 1)), .ints .u64 v]) (by simp -dsimp only [↓wkA, ↓wkE, ↓wkJ, wkB, ↓tt, Nat.reduceBEq, Nat.reduceEqDiff, ↓reduceIte, Nat.reduceLT, Array.toList, Nat.reduceAdd, Nat.reduceMul, Int.reduceToNat, Int.reducePow, UInt8.reduceToNat]) hg (by simp -dsimp only [okViews, ↓wkA, ↓wkE, ↓wkJ, wkB, ↓tt, Nat.reduceBEq, Nat.reduceEqDiff, ↓reduceIte, Nat.reduceLT, Array.toList, Nat.reduceAdd, Nat.reduceMul, Int.reduceToNat, Int.reducePow, UInt8.reduceToNat] <;> omega) rfl ?_) | (refine call_h (hoff 1 _ _ _ _ rfl) ?_; rintro _ _ ⟨l', b, hp1, hb0, hb1, hv1, rfl, rfl⟩; refine ⟨_, _, rfl, ?_⟩) | (simp -dsimp (disch := first | assumption | omega) only [dec_t, dec_f])
      | (refine And.intro ?_ ?_
         · first | omega | decide | (simp (disch := omega) only [wkW, Int.reduceToNat, Int.reducePow] <;> omega) | (simp <;> omega)) | (simp (disch := omega) only [wkW, Int.reduceToNat, Int.reducePow])
    have hXlt : X < B64 ^ (n + 1) := by
      have h1 := (vt_bound (limbs_drop hS.ulim j) (n + 1)).2
      rw [hX0] at h1
      exact h1
    have hb1' : (decide (b = 1) = true ↔ X < d0 * vt v n) ∧ vt (l'.drop j) (n + 1) = X - d0 * vt v n + (if decide (b = 1) = true then B64 ^ (n + 1) else 0) := by
      have hl1 := vt_bound (limbs_drop hp1.lim j) (n + 1)
      rcases (show b = 0 ∨ b = 1 by omega) with rfl | rfl
      · simp only [Int.mul_zero, Int.add_zero] at hv1
        simp
        omega
      · simp only [Int.mul_one] at hv1
        simp
        omega
    refine PW.loopA (fun k F H => ∃ u' d bl, k = (d - qd).toNat ∧ qd ≤ d ∧ d < B64 ∧ PartS u u' j (n + 1) ∧ (bl = true ↔ X < d * vt v n) ∧ vt (u'.drop j) (n + 1) = X - d * vt v n + (if bl = true then B64 ^ (n + 1) else 0) ∧ F = loG v s n m j d bl ∧ H = loH u' q) (d0 - qd).toNat (loG v s n m j d0 (decide (b = 1))) (loH l' q) (Sub.norm ⟨rfl, rfl, rfl, congrArg (PV.int .i64) e0, rfl, rfl, rfl, rfl, rfl, trivial⟩ ⟨rfl, rfl, trivial⟩ (Nat.le_refl _) rfl rfl rfl rfl) ⟨l', d0, _, rfl, g1, g3, hp1, hb1'.1, hb1'.2, rfl, rfl⟩ ?_
    clear hb1' hv1 hb0 hb1 hp1 g1 g2 g3 hoff hg l' b
    rintro k F H ⟨u', d, bl, hk, hqd1, hd, hp, hbl, hvt, rfl, rfl⟩
    cases bl with
    | false =>
      have hle : ¬ X < d * vt v n := fun h => by have := hbl.2 h; cases this
      have hdq : d = qd := by
        refine Int.le_antisymm (Int.le_of_not_gt fun h => ?_) hqd1
        have h1 : (qd + 1) * vt v n ≤ d * vt v n := Int.mul_le_mul_of_nonneg_right h (by omega)
        omega
      have hvt2 : vt (u'.drop j) (n + 1) = X - d * vt v n := by rw [hvt]; simp
      have hlt2 : vt (u'.drop j) (n + 1) < vt v n := by
        rw [hvt2, hdq]
        rw [Int.add_mul, Int.one_mul] at hqlt
        omega
      have hfin := hdig u' d hp ⟨by omega, hd⟩ hvt2 hlt2
      have hul' := hp.len
      clear hvt hvt2 hlt2 hdig hbl hp hqv hqlt hle hS
      repeat' first
        | (with_reducible first | refine PW.seq ?_ | refine PW.block ?_ | refine PW.fork ?_ | refine PW.skip ?_ | refine PW.exit ?_ | refine PW.ret ?_ | refine PW.scope ?_ | refine PW.label ?_ | refine PW.goto ?_) | (simp only [w8, Int.toNat_natCast]) | ((with_reducible refine PW.region ttOk ?_ ?_); rfl) | ((with_reducible refine PW.regionD ttOk mixed ?_ ?_ ?_); rfl; rfl) | (with_reducible refine ifW_dec (fun g => ?_) (fun g => ?_) <;> first | (exfalso; omega) | (simp -dsimp only [g, wkI])) | ((with_reducible first | refine condE_dec (fun g => ?_) (fun g => ?_) | refine condE_not (fun g => ?_) (fun g => ?_)) <;> try (exfalso; omega)) | (simp -dsimp only [↓wkA, ↓wkE, ↓wkJ, wkB, ↓tt, Nat.reduceBEq, Nat.reduceEqDiff, ↓reduceIte, Nat.reduceLT, Array.toList, Nat.reduceAdd, Nat.reduceMul, Int.reduceToNat, Int.reducePow, UInt8.reduceToNat]) | (simp -dsimp (disch := first | assumption | omega) only [dec_t, dec_f])
        | (refine And.intro ?_ ?_
           · first | omega | decide | (simp (disch := omega) only [wkW, Int.reduceToNat, Int.reducePow] <;> omega) | (simp <;> omega)) | (simp (disch := omega) only [wkW, Int.reduceToNat, Int.reducePow])
      exact Again.mk j (loF v s n m j) (loH u' (q.set j d)) (by omega) (Sub.norm ⟨rfl, rfl, rfl, rfl, rfl, rfl, trivial⟩ ⟨rfl, rfl, trivial⟩ (Nat.le_refl _) rfl rfl rfl rfl) ⟨u', _, hfin, by omega, rfl, rfl⟩
    | true =>
      have hlt : X < d * vt v n := hbl.1 rfl
      have hd1 : qd + 1 ≤ d := by
        refine Int.lt_of_not_ge fun h => ?_
        have h1 : d * vt v n ≤ qd * vt v n := Int.mul_le_mul_of_nonneg_right h (by omega)
        omega
      have hw : IntKind.wrap .u64 (d - 1) = d - 1 := wrap_u64 (by simp only [B64] at hd; omega)
      have hul' := hp.len
      have hback := put_back_h u' v hp.lim hvL j n hvl (by omega) (by omega) (by omega)
      have hstep : ∀ l' c, PartS u' l' j (n + 1) → 0 ≤ c → c ≤ 1 → vt (l'.drop j) (n + 1) + B64 ^ (n + 1) * c = vt (u'.drop j) (n + 1) + vt v n → ((!decide (c = 1)) = true ↔ X < (d - 1) * vt v n) ∧ vt (l'.drop j) (n + 1) = X - (d - 1) * vt v n + (if (!decide (c = 1)) = true then B64 ^ (n + 1) else 0) := fun l' c hpl hc0 hc1 hv1 => by
        have hl1 := vt_bound (limbs_drop hpl.lim j) (n + 1)
        rw [hvt, if_pos rfl] at hv1
        have e : (d - 1) * vt v n = d * vt v n - vt v n := by rw [Int.sub_mul, Int.one_mul]
        rw [e]
        rcases (show c = 0 ∨ c = 1 by omega) with rfl | rfl
        · simp only [Int.mul_zero, Int.add_zero] at hv1
          simp
          omega
        · simp only [Int.mul_one] at hv1
          simp
          omega
      clear hdig hbl hvt hlt hqv hqlt hS
      repeat' first
        | (with_reducible first | refine PW.seq ?_ | refine PW.block ?_ | refine PW.fork ?_ | refine PW.skip ?_ | refine PW.exit ?_ | refine PW.ret ?_ | refine PW.scope ?_ | refine PW.label ?_ | refine PW.goto ?_) | (simp only [hw, Int.toNat_natCast]) | ((with_reducible refine PW.region ttOk ?_ ?_); rfl) | ((with_reducible refine PW.regionD ttOk mixed ?_ ?_ ?_); rfl; rfl) | (with_reducible refine ifW_dec (fun g => ?_) (fun g => ?_) <;> first | (exfalso; omega) | (simp -dsimp only [g, wkI])) | ((with_reducible first | refine condE_dec (fun g => ?_) (fun g => ?_) | refine condE_not (fun g => ?_) (fun g => ?_)) <;> try (exfalso; omega)) | (simp -dsimp only [↓wkA, ↓wkE, ↓wkJ, wkB, ↓tt, Nat.reduceBEq, Nat.reduceEqDiff, ↓reduceIte, Nat.reduceLT, Array.toList, Nat.reduceAdd, Nat.reduceMul, Int.reduceToNat, Int.reducePow, UInt8.reduceToNat]) | (refine call_h (hback 1 _ _ _ _ rfl) ?_; rintro _ _ ⟨l', c, hp1, hc0, hc1, hv1, rfl, rfl⟩; refine ⟨_, _, rfl, ?_⟩) | (simp -dsimp (disch := first | assumption | omega) only [dec_t, dec_f])
        | (refine And.intro ?_ ?_
           · first | omega | decide | (simp (disch := omega) only [wkW, Int.reduceToNat, Int.reducePow] <;> omega) | (simp <;> omega)) | (simp (disch := omega) only [wkW, Int.reduceToNat, Int.reducePow])
      obtain ⟨k1, k2⟩ := hstep l' c hp1 hc0 hc1 hv1
      exact Again.mk (d - 1 - qd).toNat (loG v s n m j (d - 1) (!decide (c = 1))) (loH l' q) (by omega) (Sub.norm ⟨rfl, rfl, rfl, rfl, rfl, rfl, rfl, rfl, rfl, trivial⟩ ⟨rfl, rfl, trivial⟩ (Nat.le_refl _) rfl rfl rfl rfl) ⟨l', _, _, rfl, by omega, by omega, hp.trans hp1, k1, k2, rfl, rfl⟩
theorem small_nat {u : Nat} (hu : u < NMax) : Meets Tryz.prog 93 [.ints .u64 (natL u), .int .i64 4096] (.tup [.ints .u64 (natL u), .bool true]) := by
  have hl := natL_small hu
  have h := nat_trim (natL u) (by omega)
  rw [trim_natL] at h
  have hd : decide (((natL u).length : Int) ≤ 4096) = true := decide_eq_true (by omega)
  generalize natL u = a at *
  refine meets_by ttOk Tryz.func93 Tryz.ntmps93 Tryz.results93 (by kernel_rfl) (c := _) rfl rfl rfl fun E => ?_
  simp only [argsFrame]
  repeat' first
    | (with_reducible first | refine PW.seq ?_ | refine PW.block ?_ | refine PW.fork ?_ | refine PW.skip ?_ | refine PW.exit ?_ | refine PW.ret ?_) | (simp only [hd]) | ((with_reducible refine PW.region ttOk ?_ ?_); rfl) | ((with_reducible refine PW.regionD ttOk mixed ?_ ?_ ?_); rfl; rfl) | (with_reducible refine ifW_dec (fun g => ?_) (fun g => ?_) <;> first | (exfalso; omega) | (simp -dsimp only [g, wkI])) | ((with_reducible first | refine condE_dec (fun g => ?_) (fun g => ?_) | refine condE_not (fun g => ?_) (fun g => ?_)) <;> try (exfalso; omega)) | (simp -dsimp only [↓wkA, ↓wkE, ↓wkJ, wkB, ↓tt, Nat.reduceBEq, Nat.reduceEqDiff, ↓reduceIte, Nat.reduceLT, Array.toList, Nat.reduceAdd, Nat.reduceMul, Int.reduceToNat, Int.reducePow, UInt8.reduceToNat]) | (refine call_by (h) (views_data rfl) ⟨trivial, trivial⟩ rfl ?_) | (simp -dsimp (disch := first | assumption | omega) only [dec_t, dec_f])
    | (refine And.intro ?_ ?_
       · first | omega | decide | (simp (disch := omega) only [wkW, Int.reduceToNat, Int.reducePow] <;> omega) | (simp <;> omega)) | (simp (disch := omega) only [wkW, Int.reduceToNat, Int.reducePow])
theorem div_mod {u v : Nat} (hu : u < NMax) (hv : v < NMax) (hv0 : v ≠ 0) : Meets Tryz.prog 56 [.ints .u64 (natL u), .ints .u64 (natL v)] (.tup [.ints .u64 (natL (u / v)), .ints .u64 (natL (u % v)), .int .i64 0]) := by
  have h1 := small_nat hu
  have h2 := small_nat hv
  have h3 := cmp_nat hu hv
  have hlu := natL_small hu
  have hlv := natL_small hv
  obtain ⟨hv1, hv2⟩ := natL_ge hv0
  have hl0 : decide (((natL v).length : Int) = 0) = false := decide_eq_false (by omega)
  by_cases hlt : u < v
  · rw [if_pos hlt] at h3
    rw [Nat.div_eq_of_lt hlt, Nat.mod_eq_of_lt hlt, natL_zero]
    refine Meets.nil_head .u64 ?_
    generalize natL u = a at *
    generalize natL v = b at *
    refine meets_by ttOk Tryz.func56 Tryz.ntmps56 Tryz.results56 (by kernel_rfl) (c := _) rfl rfl rfl fun E => ?_
    simp only [argsFrame]
    repeat' first
      | (with_reducible first | refine PW.seq ?_ | refine PW.block ?_ | refine PW.fork ?_ | refine PW.skip ?_ | refine PW.exit ?_ | refine PW.ret ?_) | (simp only [hl0]) | ((with_reducible refine PW.region ttOk ?_ ?_); rfl) | ((with_reducible refine PW.regionD ttOk mixed ?_ ?_ ?_); rfl; rfl) | (with_reducible refine ifW_dec (fun g => ?_) (fun g => ?_) <;> first | (exfalso; omega) | (simp -dsimp only [g, wkI])) | ((with_reducible first | refine condE_dec (fun g => ?_) (fun g => ?_) | refine condE_not (fun g => ?_) (fun g => ?_)) <;> try (exfalso; omega)) | (simp -dsimp only [↓wkA, ↓wkE, ↓wkJ, wkB, ↓tt, Nat.reduceBEq, Nat.reduceEqDiff, ↓reduceIte, Nat.reduceLT, Array.toList, Nat.reduceAdd, Nat.reduceMul, Int.reduceToNat, Int.reducePow, UInt8.reduceToNat]) | (refine call_by (h1) (views_data rfl) ⟨trivial, trivial, trivial⟩ rfl ?_) | (refine call_by (h2) (views_data rfl) ⟨trivial, trivial, trivial⟩ rfl ?_) | (refine call_by (h3) (views_data rfl) ⟨trivial, trivial, trivial⟩ rfl ?_) | (simp -dsimp (disch := first | assumption | omega) only [dec_t, dec_f])
      | (refine And.intro ?_ ?_
         · first | omega | decide | (simp (disch := omega) only [wkW, Int.reduceToNat, Int.reducePow] <;> omega) | (simp <;> omega)) | (simp (disch := omega) only [wkW, Int.reduceToNat, Int.reducePow])
  · rw [if_neg hlt] at h3
    have h3' : ∃ c : Int, 0 ≤ c ∧ Meets Tryz.prog 55 [.ints .u64 (natL u), .ints .u64 (natL v)] (.int .i64 c) := ⟨_, by split <;> decide, h3⟩
    clear h3
    obtain ⟨c, hc, h3⟩ := h3'
    have hcd : decide (c < 0) = false := decide_eq_false (by omega)
    by_cases hone : (natL v).length = 1
    · have hv64 : v < 18446744073709551616 := by have := natL_lt v; rw [hone, Nat.pow_one] at this; exact this
      have hd1 : decide (((natL v).length : Int) = 1) = true := decide_eq_true (by omega)
      have hds := div_small_nat hu ⟨by omega, hv64⟩
      have hfu := from_uint (u % v) (Nat.lt_trans (Nat.mod_lt u (by omega)) hv64)
      rw [natL_one v ⟨by omega, hv64⟩] at h2 h3 hl0 hd1 ⊢
      generalize natL (u % v) = rr at *
      generalize natL (u / v) = rq at *
      generalize natL u = a at *
      refine meets_by ttOk Tryz.func56 Tryz.ntmps56 Tryz.results56 (by kernel_rfl) (c := _) rfl rfl rfl fun E => ?_
      simp only [argsFrame]
      repeat' first
        | (with_reducible first | refine PW.seq ?_ | refine PW.block ?_ | refine PW.fork ?_ | refine PW.skip ?_ | refine PW.exit ?_ | refine PW.ret ?_) | (simp only [hcd]) | ((with_reducible refine PW.region ttOk ?_ ?_); rfl) | ((with_reducible refine PW.regionD ttOk mixed ?_ ?_ ?_); rfl; rfl) | (with_reducible refine ifW_dec (fun g => ?_) (fun g => ?_) <;> first | (exfalso; omega) | (simp -dsimp only [g, wkI])) | ((with_reducible first | refine condE_dec (fun g => ?_) (fun g => ?_) | refine condE_not (fun g => ?_) (fun g => ?_)) <;> try (exfalso; omega)) | (simp -dsimp only [↓wkA, ↓wkE, ↓wkJ, wkB, ↓tt, Nat.reduceBEq, Nat.reduceEqDiff, ↓reduceIte, Nat.reduceLT, Array.toList, Nat.reduceAdd, Nat.reduceMul, Int.reduceToNat, Int.reducePow, UInt8.reduceToNat]) | (refine call_by (h1) (views_data rfl) ⟨trivial, trivial, trivial⟩ rfl ?_) | (refine call_by (h2) (views_data rfl) ⟨trivial, trivial, trivial⟩ rfl ?_) | (refine call_by (h3) (views_data rfl) ⟨trivial, trivial, trivial⟩ rfl ?_) | (refine call_by (hds) (views_data rfl) ⟨trivial, trivial, trivial⟩ rfl ?_) | (refine call_by (hfu) (views_data rfl) ⟨trivial, trivial⟩ rfl ?_) | (simp -dsimp (disch := first | assumption | omega) only [dec_t, dec_f])
        | (refine And.intro ?_ ?_
           · first | omega | decide | (simp (disch := omega) only [wkW, Int.reduceToNat, Int.reducePow] <;> omega) | (simp <;> omega)) | (simp (disch := omega) only [wkW, Int.reduceToNat, Int.reducePow])
    · have hd1 : decide (((natL v).length : Int) = 1) = false := decide_eq_false (by omega)
      have hle : (natL v).length ≤ (natL u).length := natL_mono (by omega)
      have htop : 0 < (natL v).getD ((natL v).length - 1) 0 := by
        rw [natL_getD]
        have h1 := natL_lt v
        have h2 : 0 < v / 18446744073709551616 ^ ((natL v).length - 1) := Nat.div_pos hv2 (Nat.pow_pos (by decide))
        have h3 : v / 18446744073709551616 ^ ((natL v).length - 1) < 18446744073709551616 := by
          rw [Nat.div_lt_iff_lt_mul (Nat.pow_pos (by decide)), ← Nat.pow_succ', show ((natL v).length - 1).succ = (natL v).length by omega]
          exact h1
        rw [Nat.mod_eq_of_lt h3]
        omega
      have hlo := quot_long (natL u) (natL v) (natL_limbs u) (natL_limbs v) (natL v).length ((natL u).length + 1 - (natL v).length) rfl (by omega) (by omega) (by omega) (by omega) htop u v (val_natL u) (val_natL v) (by omega) (natL_lt u) (Nat.lt_of_le_of_lt (Nat.div_le_self _ _) hu)
      generalize natL (u % v) = rr at *
      generalize natL (u / v) = rq at *
      clear htop hv2 hle
      generalize natL u = a at *
      generalize natL v = b at *
      refine meets_by ttOk Tryz.func56 Tryz.ntmps56 Tryz.results56 (by kernel_rfl) (c := _) rfl rfl rfl fun E => ?_
      simp only [argsFrame]
      repeat' first
        | (with_reducible first | refine PW.seq ?_ | refine PW.block ?_ | refine PW.fork ?_ | refine PW.skip ?_ | refine PW.exit ?_ | refine PW.ret ?_) | (simp only [hcd, hl0, hd1]) | ((with_reducible refine PW.region ttOk ?_ ?_); rfl) | ((with_reducible refine PW.regionD ttOk mixed ?_ ?_ ?_); rfl; rfl) | (with_reducible refine ifW_dec (fun g => ?_) (fun g => ?_) <;> first | (exfalso; omega) | (simp -dsimp only [g, wkI])) | ((with_reducible first | refine condE_dec (fun g => ?_) (fun g => ?_) | refine condE_not (fun g => ?_) (fun g => ?_)) <;> try (exfalso; omega)) | (simp -dsimp only [↓wkA, ↓wkE, ↓wkJ, wkB, ↓tt, Nat.reduceBEq, Nat.reduceEqDiff, ↓reduceIte, Nat.reduceLT, Array.toList, Nat.reduceAdd, Nat.reduceMul, Int.reduceToNat, Int.reducePow, UInt8.reduceToNat]) | (refine call_by (h1) (views_data rfl) ⟨trivial, trivial, trivial⟩ rfl ?_) | (refine call_by (h2) (views_data rfl) ⟨trivial, trivial, trivial⟩ rfl ?_) | (refine call_by (h3) (views_data rfl) ⟨trivial, trivial, trivial⟩ rfl ?_) | (refine call_by (hlo) (views_data rfl) ⟨trivial, trivial, trivial⟩ rfl ?_) | (simp -dsimp (disch := first | assumption | omega) only [dec_t, dec_f])
        | (refine And.intro ?_ ?_
           · first | omega | decide | (simp (disch := omega) only [wkW, Int.reduceToNat, Int.reducePow] <;> omega) | (simp <;> omega)) | (simp (disch := omega) only [wkW, Int.reduceToNat, Int.reducePow])
def upS (e j : Int) : Nat := 2 ^ e.toNat * 10 ^ (-j).toNat
def beS (e j : Int) : Nat := 2 ^ (-e).toNat * 10 ^ j.toNat
theorem upS_pos (e j : Int) : 0 < upS e j := Nat.mul_pos (Nat.two_pow_pos _) (Nat.pow_pos (by decide))
theorem beS_pos (e j : Int) : 0 < beS e j := Nat.mul_pos (Nat.two_pow_pos _) (Nat.pow_pos (by decide))
def lowM (d : Nat) : Nat := if mantD d = 4503599627370496 ∧ -1074 < expD d then 4 * mantD d - 1 else 4 * mantD d - 2
def spE (d : Nat) : Int := expD d - 2
theorem pow_lt_of {a b k l n : Nat} (ha : a ≤ k) (hb : b ≤ l) (h : 2 ^ k * 10 ^ l < n) : 2 ^ a * 10 ^ b < n :=
  Nat.lt_of_le_of_lt (Nat.mul_le_mul (Nat.pow_le_pow_right (by decide) ha) (Nat.pow_le_pow_right (by decide) hb)) h
theorem upS_lt {e j : Int} (he : e ≤ 1000) (hj : -420 ≤ j) : upS e j < 2 ^ 2500 := pow_lt_of (k := 1000) (l := 420) (by omega) (by omega) (by decide +kernel)
theorem beS_lt {e j : Int} (he : -1100 ≤ e) (hj : j ≤ 420) : beS e j < 2 ^ 2500 := pow_lt_of (k := 1100) (l := 420) (by omega) (by omega) (by decide +kernel)
theorem short_around (d : Nat) (hd : d < 18446744073709551616) (hf : finD d) (h0 : absD d ≠ 0) : Meets Tryz.prog 38 [.int .u64 (d : Int)] (.tup [.int .u64 (lowM d : Int), .int .u64 ((4 * mantD d : Nat) : Int), .int .u64 ((4 * mantD d + 2 : Nat) : Int), .int .i64 (spE d)]) := by
  have h1 := ieee_decode d hd
  obtain ⟨p1, p2⟩ := parts_fin hf h0
  unfold partsP at h1
  rw [p1, p2] at h1
  have hm0 : mantD d ≠ 0 := fun e => h0 (mantD_zero.1 e)
  have hml := mantD_lt d
  have he1 := expD_ge d
  have he2 := expD_le hf
  unfold lowM spE
  generalize mantD d = M at *
  generalize expD d = E at *
  generalize classD d = cl at *
  have w1 : IntKind.wrap .u64 (4 * (M : Int)) = ((4 * M : Nat) : Int) := by rw [wrap_u64 (by omega)]; omega
  have w2 : IntKind.wrap .u64 (((4 * M : Nat) : Int) - 2) = ((4 * M - 2 : Nat) : Int) := by rw [wrap_u64 (by omega)]; omega
  have w3 : IntKind.wrap .u64 (((4 * M : Nat) : Int) - 1) = ((4 * M - 1 : Nat) : Int) := by rw [wrap_u64 (by omega)]; omega
  have w4 : IntKind.wrap .u64 (((4 * M : Nat) : Int) + 2) = ((4 * M + 2 : Nat) : Int) := wrap_u64 (by omega)
  have w5 : IntKind.wrap .i64 (E - 2) = E - 2 := wrap_i64 (by omega)
  have hc : (decide ((M : Int) = 4503599627370496) = true ∧ decide (-1074 < E) = true ∧ (M = 4503599627370496 ∧ -1074 < E)) ∨ (decide ((M : Int) = 4503599627370496) = true ∧ decide (-1074 < E) = false ∧ ¬ (M = 4503599627370496 ∧ -1074 < E)) ∨ (decide ((M : Int) = 4503599627370496) = false ∧ decide ((M : Int) = 4503599627370496) = false ∧ ¬ (M = 4503599627370496 ∧ -1074 < E)) := by
    by_cases c1 : M = 4503599627370496
    · by_cases c2 : -1074 < E
      · exact .inl ⟨decide_eq_true (by omega), decide_eq_true c2, c1, c2⟩
      · exact .inr (.inl ⟨decide_eq_true (by omega), decide_eq_false c2, fun h => c2 h.2⟩)
    · have := decide_eq_false (show ¬ (M : Int) = 4503599627370496 by omega)
      exact .inr (.inr ⟨this, this, fun h => c1 h.1⟩)
  rcases hc with ⟨d1, d2, hc⟩ | ⟨d1, d2, hc⟩ | ⟨d1, d2, hc⟩
  case' inl => rw [if_pos hc]
  case' inr.inl => rw [if_neg hc]
  case' inr.inr => rw [if_neg hc]
  all_goals (refine meets_by ttOk Tryz.func38 Tryz.ntmps38 Tryz.results38 (by kernel_rfl) (c := _) rfl rfl rfl fun E => ?_; simp only [argsFrame])
  all_goals
    repeat' first
      | (with_reducible first | refine PW.seq ?_ | refine PW.block ?_ | refine PW.fork ?_ | refine PW.skip ?_ | refine PW.exit ?_ | refine PW.ret ?_) | (simp only [w1, w2, w3, w4, w5, d1, d2]) | ((with_reducible refine PW.region ttOk ?_ ?_); rfl) | ((with_reducible refine PW.regionD ttOk mixed ?_ ?_ ?_); rfl; rfl) | (with_reducible refine ifW_dec (fun g => ?_) (fun g => ?_) <;> first | (exfalso; omega) | (simp -dsimp only [g, wkI])) | ((with_reducible first | refine condE_dec (fun g => ?_) (fun g => ?_) | refine condE_not (fun g => ?_) (fun g => ?_)) <;> try (exfalso; omega)) | (simp -dsimp only [↓wkA, ↓wkE, ↓wkJ, wkB, ↓tt, Nat.reduceBEq, Nat.reduceEqDiff, ↓reduceIte, Nat.reduceLT, Array.toList, Nat.reduceAdd, Nat.reduceMul, Int.reduceToNat, Int.reducePow, UInt8.reduceToNat]) | (refine call_by (h1) (views_data rfl) ⟨trivial, trivial⟩ rfl ?_) | (simp -dsimp (disch := first | assumption | omega) only [dec_t, dec_f])
      | (refine And.intro ?_ ?_
         · first | omega | decide | (simp (disch := omega) only [wkW, Int.reduceToNat, Int.reducePow] <;> omega) | (simp <;> omega)) | (simp (disch := omega) only [wkW, Int.reduceToNat, Int.reducePow])
theorem short_shl {u n : Nat} (hu : u < NMax) (hn : n ≤ 262144) (h : u * 2 ^ n < NMax) : Meets Tryz.prog 59 [.ints .u64 (natL u), .int .i64 (n : Int)] (.ints .u64 (natL (u * 2 ^ n))) := by
  have h1 := shl_nat (u := u) (n := n) hu hn h
  generalize natL (u * 2 ^ n) = r at *
  generalize natL u = a at *
  refine meets_by ttOk Tryz.func59 Tryz.ntmps59 Tryz.results59 (by kernel_rfl) (c := _) rfl rfl rfl fun E => ?_
  simp only [argsFrame]
  repeat' first
    | (with_reducible first | refine PW.seq ?_ | refine PW.block ?_ | refine PW.fork ?_ | refine PW.skip ?_ | refine PW.exit ?_ | refine PW.ret ?_) | ((with_reducible refine PW.region ttOk ?_ ?_); rfl) | ((with_reducible refine PW.regionD ttOk mixed ?_ ?_ ?_); rfl; rfl) | (with_reducible refine ifW_dec (fun g => ?_) (fun g => ?_) <;> first | (exfalso; omega) | (simp -dsimp only [g, wkI])) | ((with_reducible first | refine condE_dec (fun g => ?_) (fun g => ?_) | refine condE_not (fun g => ?_) (fun g => ?_)) <;> try (exfalso; omega)) | (simp -dsimp only [↓wkA, ↓wkE, ↓wkJ, wkB, ↓tt, Nat.reduceBEq, Nat.reduceEqDiff, ↓reduceIte, Nat.reduceLT, Array.toList, Nat.reduceAdd, Nat.reduceMul, Int.reduceToNat, Int.reducePow, UInt8.reduceToNat]) | (refine call_by (h1) (views_data rfl) ⟨trivial, trivial, trivial⟩ rfl ?_) | (simp -dsimp (disch := first | assumption | omega) only [dec_t, dec_f])
    | (refine And.intro ?_ ?_
       · first | omega | decide | (simp (disch := omega) only [wkW, Int.reduceToNat, Int.reducePow] <;> omega) | (simp <;> omega)) | (simp (disch := omega) only [wkW, Int.reduceToNat, Int.reducePow])
theorem short_mul {u v : Nat} (hu : u < NMax) (hv : v < NMax) (h : u * v < NMax) : Meets Tryz.prog 77 [.ints .u64 (natL u), .ints .u64 (natL v)] (.ints .u64 (natL (u * v))) := by
  have h1 := mul_nat0 hu hv h
  generalize natL (u * v) = r at *
  generalize natL u = a at *
  generalize natL v = b at *
  refine meets_by ttOk Tryz.func77 Tryz.ntmps77 Tryz.results77 (by kernel_rfl) (c := _) rfl rfl rfl fun E => ?_
  simp only [argsFrame]
  repeat' first
    | (with_reducible first | refine PW.seq ?_ | refine PW.block ?_ | refine PW.fork ?_ | refine PW.skip ?_ | refine PW.exit ?_ | refine PW.ret ?_) | ((with_reducible refine PW.region ttOk ?_ ?_); rfl) | ((with_reducible refine PW.regionD ttOk mixed ?_ ?_ ?_); rfl; rfl) | (with_reducible refine ifW_dec (fun g => ?_) (fun g => ?_) <;> first | (exfalso; omega) | (simp -dsimp only [g, wkI])) | ((with_reducible first | refine condE_dec (fun g => ?_) (fun g => ?_) | refine condE_not (fun g => ?_) (fun g => ?_)) <;> try (exfalso; omega)) | (simp -dsimp only [↓wkA, ↓wkE, ↓wkJ, wkB, ↓tt, Nat.reduceBEq, Nat.reduceEqDiff, ↓reduceIte, Nat.reduceLT, Array.toList, Nat.reduceAdd, Nat.reduceMul, Int.reduceToNat, Int.reducePow, UInt8.reduceToNat]) | (refine call_by (h1) (views_data rfl) ⟨trivial, trivial, trivial⟩ rfl ?_) | (simp -dsimp (disch := first | assumption | omega) only [dec_t, dec_f])
    | (refine And.intro ?_ ?_
       · first | omega | decide | (simp (disch := omega) only [wkW, Int.reduceToNat, Int.reducePow] <;> omega) | (simp <;> omega)) | (simp (disch := omega) only [wkW, Int.reduceToNat, Int.reducePow])
theorem scaled_walk (d : Int) (j e A : Int) (low m high : Int) (par : Int) (U0 B0 T U1 B1 L V Hh : List Int) (hA : A = if 0 - j > j then 0 - j else j) (hj : -420 ≤ j ∧ j ≤ 420) (he : -1100 ≤ e ∧ e ≤ 1000) (hp : Int.tmod d 2 = par)
    (h0 : Meets Tryz.prog 38 [.int .u64 d] (.tup [.int .u64 low, .int .u64 m, .int .u64 high, .int .i64 e]))
    (hT : Meets Tryz.prog 92 [.int .i64 A] (.tup [.ints .u64 T, .int .i64 0]))
    (hE : (0 ≤ e ∧ Meets Tryz.prog 59 [.ints .u64 [1], .int .i64 e] (.ints .u64 U0) ∧ B0 = [1]) ∨ (¬ 0 ≤ e ∧ Meets Tryz.prog 59 [.ints .u64 [1], .int .i64 (0 - e)] (.ints .u64 B0) ∧ U0 = [1]))
    (hJ : (0 ≤ j ∧ Meets Tryz.prog 77 [.ints .u64 B0, .ints .u64 T] (.ints .u64 B1) ∧ U1 = U0) ∨ (¬ 0 ≤ j ∧ Meets Tryz.prog 77 [.ints .u64 U0, .ints .u64 T] (.ints .u64 U1) ∧ B1 = B0))
    (hL : Meets Tryz.prog 77 [.ints .u64 [low], .ints .u64 U1] (.ints .u64 L)) (hV : Meets Tryz.prog 77 [.ints .u64 [m], .ints .u64 U1] (.ints .u64 V)) (hH : Meets Tryz.prog 77 [.ints .u64 [high], .ints .u64 U1] (.ints .u64 Hh)) :
    Meets Tryz.prog 54 [.int .u64 d, .int .i64 j] (.agg [.ints .u64 L, .ints .u64 V, .ints .u64 Hh, .ints .u64 B1, .bool (decide (par = 0))]) := by
  have w1 : IntKind.wrap .i64 (0 - e) = 0 - e := wrap_i64 (by omega)
  have w2 : IntKind.wrap .i64 (0 - j) = 0 - j := wrap_i64 (by omega)
  rcases hE with ⟨he0, hs, rfl⟩ | ⟨he0, hs, rfl⟩
  all_goals rcases hJ with ⟨hj0, hm, rfl⟩ | ⟨hj0, hm, rfl⟩
  all_goals first
    | (have d1 : decide (0 ≤ e) = true := decide_eq_true he0)
    | (have d1 : decide (0 ≤ e) = false := decide_eq_false he0)
  all_goals first
    | (have d2 : decide (0 ≤ j) = true := decide_eq_true hj0)
    | (have d2 : decide (0 ≤ j) = false := decide_eq_false hj0)
  all_goals (refine meets_by ttOk Tryz.func54 Tryz.ntmps54 Tryz.results54 (by kernel_rfl) (c := _) rfl rfl rfl fun E => ?_; simp only [argsFrame])
  all_goals
    repeat' first
      | (refine PW.sub (toData 10 3 0 1 true rfl (Nat.le_refl _)) ?_; simp only [wkD, Nat.reduceBEq]) | (with_reducible first | refine PW.seq ?_ | refine PW.block ?_ | refine PW.fork ?_ | refine PW.skip ?_ | refine PW.exit ?_ | refine PW.ret ?_) | (simp only [w1, w2, d1, d2, hp, ← hA]) | ((with_reducible refine PW.region ttOk ?_ ?_); rfl) | ((with_reducible refine PW.regionD ttOk mixed ?_ ?_ ?_); rfl; rfl) | (with_reducible refine ifW_dec (fun g => ?_) (fun g => ?_) <;> first | (exfalso; omega) | (simp -dsimp only [g, wkI])) | ((with_reducible first | refine condE_dec (fun g => ?_) (fun g => ?_) | refine condE_not (fun g => ?_) (fun g => ?_)) <;> try (exfalso; omega)) | (simp -dsimp only [↓wkA, ↓wkE, ↓wkJ, wkB, ↓tt, Nat.reduceBEq, Nat.reduceEqDiff, ↓reduceIte, Nat.reduceLT, Array.toList, Nat.reduceAdd, Nat.reduceMul, Int.reduceToNat, Int.reducePow, UInt8.reduceToNat]) | (refine call_by (h0) (views_data rfl) ⟨trivial, trivial⟩ rfl ?_) | (refine call_by (hT) (views_data rfl) ⟨trivial, trivial⟩ rfl ?_) | (refine call_by (hs) (views_data rfl) ⟨trivial, trivial, trivial⟩ rfl ?_) | (refine call_by (hm) (views_data rfl) ⟨trivial, trivial, trivial⟩ rfl ?_) | (refine call_drop (args' := [.ints .u64 [1], .int .i64 _]) rfl hs ⟨Nat.le_refl _, trivial, trivial⟩ rfl ?_; simp only [wkD, Nat.reduceBEq]) | (refine call_drop (args' := [.ints .u64 [1], .ints .u64 _]) rfl hm ⟨Nat.le_refl _, trivial, trivial⟩ rfl ?_; simp only [wkD, Nat.reduceBEq]) | (refine call_drop (args' := [.ints .u64 [low], .ints .u64 _]) rfl hL ⟨Nat.le_refl _, trivial, trivial⟩ rfl ?_; simp only [wkD, Nat.reduceBEq]) | (refine call_drop (args' := [.ints .u64 [m], .ints .u64 _]) rfl hV ⟨Nat.le_refl _, trivial, trivial⟩ rfl ?_; simp only [wkD, Nat.reduceBEq]) | (refine call_drop (args' := [.ints .u64 [high], .ints .u64 _]) rfl hH ⟨Nat.le_refl _, trivial, trivial⟩ rfl ?_; simp only [wkD, Nat.reduceBEq]) | (simp -dsimp (disch := first | assumption | omega) only [dec_t, dec_f])
      | (refine And.intro ?_ ?_
         · first | omega | decide | (simp (disch := omega) only [wkW, Int.reduceToNat, Int.reducePow] <;> omega) | (simp <;> omega)) | (simp (disch := omega) only [wkW, Int.reduceToNat, Int.reducePow])
  all_goals exact Nat.le_refl _
theorem cast_par {f : FuncId} {args l : List PV} {b c : Bool} (h : b = c) (hm : Meets Tryz.prog f args (.agg (l ++ [.bool b]))) : Meets Tryz.prog f args (.agg (l ++ [.bool c])) := h ▸ hm
theorem lowM_bounds (d : Nat) (h0 : mantD d ≠ 0) : 2 ≤ lowM d ∧ lowM d < 4 * mantD d := by
  unfold lowM
  split <;> omega
theorem nmax_mul {a b : Nat} (ha : a < 2 ^ 100) (hb : b < 2 ^ 2500) : a * b < NMax := nmax_of (k := 2600) (Nat.lt_of_lt_of_le (Nat.mul_lt_mul'' ha hb) (by decide +kernel)) (by decide)
theorem short_scaled (d : Nat) (hd : d < 18446744073709551616) (hf : finD d) (h0 : absD d ≠ 0) (j : Int) (hj : -420 ≤ j ∧ j ≤ 420) :
    Meets Tryz.prog 54 [.int .u64 (d : Int), .int .i64 j] (.agg [.ints .u64 (natL (lowM d * upS (spE d) j)), .ints .u64 (natL (4 * mantD d * upS (spE d) j)), .ints .u64 (natL ((4 * mantD d + 2) * upS (spE d) j)), .ints .u64 (natL (beS (spE d) j)), .bool (decide (d % 2 = 0))]) := by
  have ha := short_around d hd hf h0
  have hm0 : mantD d ≠ 0 := fun e => h0 (mantD_zero.1 e)
  have hml := mantD_lt d
  have he1 := expD_ge d
  have he2 := expD_le hf
  obtain ⟨l1, l2⟩ := lowM_bounds d hm0
  have he : -1100 ≤ spE d ∧ spE d ≤ 1000 := by unfold spE; omega
  generalize spE d = e at *
  generalize lowM d = lo at *
  generalize mantD d = M at *
  have hU := upS_lt he.2 hj.1
  have hB := beS_lt he.1 hj.2
  have hT := pow10_ok (if 0 - j > j then 0 - j else j).toNat (by split <;> omega) (nmax_of (k := 2500) (Nat.lt_of_le_of_lt (Nat.pow_le_pow_right (by decide) (show (if 0 - j > j then 0 - j else j).toNat ≤ 420 by split <;> omega)) (by decide +kernel)) (by decide))
  rw [show (((if 0 - j > j then 0 - j else j).toNat : Nat) : Int) = if 0 - j > j then 0 - j else j by split <;> omega] at hT
  have one : natL 1 = [1] := natL_oneL
  have n2 : ∀ k : Nat, k ≤ 1100 → 2 ^ k < NMax := fun k hk => nmax_of (k := 1101) (Nat.pow_lt_pow_right (by decide) (by omega)) (by decide)
  have n10 : ∀ k : Nat, k ≤ 420 → 10 ^ k < NMax := fun k hk => nmax_of (k := 2500) (Nat.lt_of_le_of_lt (Nat.pow_le_pow_right (by decide) hk) (by decide +kernel)) (by decide)
  have nU : upS e j < NMax := nmax_of hU (by decide)
  have nB : beS e j < NMax := nmax_of hB (by decide)
  have hpar : Int.tmod (d : Int) 2 = ((d % 2 : Nat) : Int) := by rw [tmod_pos (by omega)]; omega
  have hm : ∀ x : Nat, 0 < x → x < 2 ^ 60 → Meets Tryz.prog 77 [.ints .u64 [(x : Int)], .ints .u64 (natL (upS e j))] (.ints .u64 (natL (x * upS e j))) := fun x hx0 hx => by
    have hx64 : x < 18446744073709551616 := Nat.lt_trans hx (by decide)
    have h := short_mul (u := x) (v := upS e j) (nmax_of hx (by decide)) nU (nmax_mul (Nat.lt_trans hx (by decide)) hU)
    rw [natL_one x ⟨hx0, hx64⟩] at h
    exact h
  have e60 : (2 : Nat) ^ 60 = 1152921504606846976 := by decide
  refine cast_par (l := [_, _, _, _]) (b := decide (((d % 2 : Nat) : Int) = 0)) ?_ (scaled_walk d j e _ lo ((4 * M : Nat) : Int) ((4 * M + 2 : Nat) : Int) ((d % 2 : Nat) : Int) (natL (2 ^ e.toNat)) (natL (2 ^ (-e).toNat)) _ (natL (upS e j)) (natL (beS e j)) _ _ _ rfl hj he hpar ha hT ?_ ?_ (hm lo (by omega) (by rw [e60]; omega)) (hm (4 * M) (by omega) (by rw [e60]; omega)) (hm (4 * M + 2) (by omega) (by rw [e60]; omega)))
  · exact decide_eq_decide.2 (by omega)
  · by_cases h : 0 ≤ e
    · refine .inl ⟨h, ?_, by rw [show (-e).toNat = 0 by omega, Nat.pow_zero, one]⟩
      have hs := short_shl (u := 1) (n := e.toNat) (n2 0 (by decide)) (by omega) (by rw [Nat.one_mul]; exact n2 _ (by omega))
      rw [Nat.one_mul, one, Int.toNat_of_nonneg h] at hs
      exact hs
    · refine .inr ⟨h, ?_, by rw [show e.toNat = 0 by omega, Nat.pow_zero, one]⟩
      have hs := short_shl (u := 1) (n := (-e).toNat) (n2 0 (by decide)) (by omega) (by rw [Nat.one_mul]; exact n2 _ (by omega))
      rw [Nat.one_mul, one, show ((-e).toNat : Int) = 0 - e by omega] at hs
      exact hs
  · by_cases h : 0 ≤ j
    · refine .inl ⟨h, ?_, by unfold upS; rw [show (-j).toNat = 0 by omega, Nat.pow_zero, Nat.mul_one]⟩
      have hs := short_mul (u := 2 ^ (-e).toNat) (v := 10 ^ j.toNat) (n2 _ (by omega)) (n10 _ (by omega)) nB
      rw [show (if 0 - j > j then 0 - j else j).toNat = j.toNat by split <;> omega]
      exact hs
    · refine .inr ⟨h, ?_, by unfold beS; rw [show j.toNat = 0 by omega, Nat.pow_zero, Nat.mul_one]⟩
      have hs := short_mul (u := 2 ^ e.toNat) (v := 10 ^ (-j).toNat) (n2 _ (by omega)) (n10 _ (by omega)) nU
      rw [show (if 0 - j > j then 0 - j else j).toNat = (-j).toNat by split <;> omega]
      exact hs
def Words (l : List Int) : Prop := ∀ x ∈ l, 0 ≤ x ∧ x < 4294967296
abbrev B32 : Int := 4294967296
theorem getD_word {l : List Int} (hb : Words l) (i : Nat) : 0 ≤ l.getD i 0 ∧ l.getD i 0 < B32 := by
  rw [List.getD_eq_getElem?_getD]
  cases h : l[i]? with
  | none => simp [B32]
  | some x => exact hb x (List.mem_of_getElem? h)
def wt (l : List Int) : Nat → Int
  | 0 => 0
  | n + 1 => wt l n + B32 ^ n * l.getD n 0
def wal (l : List Int) : Int := wt l l.length
theorem pow_pos32 (n : Nat) : (0 : Int) < B32 ^ n := Int.pow_pos (by decide)
theorem wt_bound {l : List Int} (hb : Words l) : ∀ n, 0 ≤ wt l n ∧ wt l n < B32 ^ n
  | 0 => by simp [wt]
  | n + 1 => by
    have ih := wt_bound hb n
    have hd := getD_word hb n
    have hp := pow_pos32 n
    have h1 : 0 ≤ B32 ^ n * l.getD n 0 := Int.mul_nonneg (Int.le_of_lt hp) hd.1
    have h2 : B32 ^ n * l.getD n 0 ≤ B32 ^ n * (B32 - 1) := Int.mul_le_mul_of_nonneg_left (by omega) (Int.le_of_lt hp)
    have h3 : B32 ^ (n + 1) = B32 ^ n * (B32 - 1) + B32 ^ n := by rw [Int.pow_succ]; simp only [B32]; omega
    simp only [wt]
    rw [h3]
    constructor <;> omega
theorem wt_sizeN (l : List Int) : ∀ n, wt l (sizeN l n) = wt l n
  | 0 => rfl
  | n + 1 => by
    unfold sizeN
    split
    · rename_i h
      rw [wt_sizeN l n]; simp only [wt, h]; omega
    · rfl
theorem wt_size (l : List Int) : wt l (size l) = wal l := wt_sizeN l l.length
theorem wt_same {a b : List Int} : ∀ n, (∀ j, j < n → a.getD j 0 = b.getD j 0) → wt a n = wt b n
  | 0, _ => rfl
  | n + 1, h => by simp only [wt]; rw [wt_same n fun j hj => h j (by omega), h n (by omega)]
theorem wt_set_ge (l : List Int) (k n : Nat) (v : Int) (hk : k < l.length) (h : n ≤ k) : wt (l.set k v) n = wt l n :=
  wt_same n fun j hj => by rw [getD_set l k j v hk, if_neg (by omega)]
theorem words_set {l : List Int} (h : Words l) (k : Nat) {v : Int} (hv : 0 ≤ v ∧ v < B32) : Words (l.set k v) := fun x hx => by
  rcases List.mem_or_eq_of_mem_set hx with h1 | h1
  · exact h x h1
  · subst h1; exact hv
theorem words_take {l : List Int} (h : Words l) (n : Nat) : Words (l.take n) := fun x hx => h x (List.mem_of_mem_take hx)
theorem wt_beyond {b : List Int} : ∀ n, b.length ≤ n → wt b n = wal b := fun n h => by
  obtain ⟨d, rfl⟩ := Nat.exists_eq_add_of_le h
  clear h
  induction d with
  | zero => rfl
  | succ d ih =>
    rw [show b.length + (d + 1) = (b.length + d) + 1 by omega]
    simp only [wt]
    rw [ih, List.getD_eq_getElem?_getD, List.getElem?_eq_none (by omega)]
    simp
structure MulInW (a b o0 o : List Int) (i j : Nat) (c : Int) : Prop where
  len : o.length = a.length + b.length
  lim : Words o
  car : 0 ≤ c ∧ c < B32
  eq : wt o (i + j) + B32 ^ (i + j) * c = wt o0 (i + j) + B32 ^ i * (a.getD i 0 * wt b j)
  rest : ∀ k, i + j ≤ k → o.getD k 0 = o0.getD k 0
structure MulOutW (a b o : List Int) (i : Nat) : Prop where
  len : o.length = a.length + b.length
  lim : Words o
  eq : wt o (i + b.length) = wt a i * wt b b.length
  rest : ∀ k, i + b.length ≤ k → o.getD k 0 = 0
theorem MulInW.start {a b o : List Int} {i : Nat} (h : MulOutW a b o i) : MulInW a b o o i 0 0 :=
  ⟨h.len, h.lim, by decide, by simp [wt], fun _ _ => rfl⟩
theorem MulInW.step {a b o0 o : List Int} {i j : Nat} {c s : Int} (h : MulInW a b o0 o i j c) (hi : i < a.length) (hj : j < b.length) (hs : s = a.getD i 0 * b.getD j 0 + o.getD (i + j) 0 + c) (hr : 0 ≤ s / B32 ∧ s / B32 < B32) :
    MulInW a b o0 (o.set (i + j) (s % B32)) i (j + 1) (s / B32) := by
  have hlt : i + j < o.length := by rw [h.len]; omega
  have hmod : 0 ≤ s % B32 ∧ s % B32 < B32 := ⟨Int.emod_nonneg _ (by decide), Int.emod_lt_of_pos _ (by decide)⟩
  refine ⟨by rw [List.length_set, h.len], words_set h.lim _ hmod, hr, ?_, fun k hk => ?_⟩
  · have e0 : i + (j + 1) = (i + j) + 1 := by omega
    rw [e0]
    simp only [wt]
    rw [wt_set_ge _ _ _ _ hlt (Nat.le_refl _), getD_set _ _ _ _ hlt, if_pos rfl, Int.pow_succ]
    have hsum : B32 * (s / B32) + s % B32 = s := Int.mul_ediv_add_emod s B32
    have h1 := h.eq
    have h2 := h.rest (i + j) (Nat.le_refl _)
    have e1 : B32 ^ (i + j) = B32 ^ i * B32 ^ j := Int.pow_add _ _ _
    rw [← h2]
    generalize s / B32 = q at *
    generalize s % B32 = r at *
    generalize wt o (i + j) = A at *
    generalize wt o0 (i + j) = A0 at *
    generalize o.getD (i + j) 0 = d at *
    generalize a.getD i 0 = x at *
    generalize b.getD j 0 = y at *
    generalize wt b j = V at *
    rw [e1] at *
    generalize B32 ^ i = p at *
    generalize B32 ^ j = t at *
    generalize B32 = B at *
    grind
  · rw [getD_set _ _ _ _ hlt, if_neg (by omega)]
    exact h.rest k (by omega)
theorem MulInW.fin {a b o0 o : List Int} {i : Nat} {c : Int} (h0 : MulOutW a b o0 i) (h : MulInW a b o0 o i b.length c) (hi : i < a.length) : MulOutW a b (o.set (i + b.length) c) (i + 1) := by
  have hlt : i + b.length < o.length := by rw [h.len]; omega
  refine ⟨by rw [List.length_set, h.len], words_set h.lim _ h.car, ?_, fun k hk => ?_⟩
  · have e0 : i + 1 + b.length = (i + b.length) + 1 := by omega
    rw [e0]
    simp only [wt]
    rw [wt_set_ge _ _ _ _ hlt (Nat.le_refl _), getD_set _ _ _ _ hlt, if_pos rfl]
    have h1 := h.eq
    have h2 := h0.eq
    rw [h1, h2]
    generalize B32 ^ i = p at *
    generalize a.getD i 0 = x at *
    generalize wt a i = A at *
    generalize wt b b.length = V at *
    grind
  · rw [getD_set _ _ _ _ hlt, if_neg (by omega), h.rest k (by omega)]
    exact h0.rest k (by omega)
theorem wt_zeros (n : Nat) : ∀ k, wt (List.replicate n 0) k = 0
  | 0 => rfl
  | k + 1 => by
    simp only [wt]
    rw [wt_zeros n k]
    have : (List.replicate n (0 : Int)).getD k 0 = 0 := by simp [List.getD_eq_getElem?_getD, List.getElem?_replicate]; split <;> rfl
    rw [this]; simp
theorem mul_beginW (a b : List Int) : MulOutW a b (List.replicate (a.length + b.length) 0) 0 :=
  ⟨by simp, fun x hx => by have := List.eq_of_mem_replicate hx; subst this; decide, by rw [wt_zeros]; simp [wt], fun k _ => by simp [List.getD_eq_getElem?_getD, List.getElem?_replicate]; split <;> rfl⟩
theorem wt_left {s t : List Int} (n : Nat) (h : n ≤ s.length) : wt (s ++ t) n = wt s n := wt_same n fun j hj => by
  rw [List.getD_eq_getElem?_getD, List.getD_eq_getElem?_getD, List.getElem?_append_left (by omega)]
theorem getD_snoc (s : List Int) (d : Int) : (s ++ [d]).getD s.length 0 = d := by
  rw [List.getD_eq_getElem?_getD, List.getElem?_append_right (Nat.le_refl _)]; simp
theorem wal_snoc (s : List Int) (d : Int) : wal (s ++ [d]) = wal s + B32 ^ s.length * d := by
  unfold wal
  rw [List.length_append, List.length_singleton]
  simp only [wt]
  rw [wt_left _ (Nat.le_refl _), getD_snoc]
theorem words_snoc {s : List Int} (h : Words s) {d : Int} (hd : 0 ≤ d ∧ d < B32) : Words (s ++ [d]) := fun x hx => by
  rcases List.mem_append.1 hx with h1 | h1
  · exact h x h1
  · rw [List.mem_singleton] at h1; subst h1; exact hd
theorem vt_left {s t : List Int} (n : Nat) (h : n ≤ s.length) : vt (s ++ t) n = vt s n := vt_same n fun j hj => by
  rw [List.getD_eq_getElem?_getD, List.getD_eq_getElem?_getD, List.getElem?_append_left (by omega)]
theorem val_snoc (s : List Int) (d : Int) : val (s ++ [d]) = val s + B64 ^ s.length * d := by
  unfold val
  rw [List.length_append, List.length_singleton]
  simp only [vt]
  rw [vt_left _ (Nat.le_refl _), getD_snoc]
theorem limbs_snoc {s : List Int} (h : Limbs s) {d : Int} (hd : 0 ≤ d ∧ d < B64) : Limbs (s ++ [d]) := fun x hx => by
  rcases List.mem_append.1 hx with h1 | h1
  · exact h x h1
  · rw [List.mem_singleton] at h1; subst h1; exact hd
theorem wal_trim (a : List Int) : wal (trim a) = wal a := by
  unfold trim
  rw [← wt_size a, ← wt_beyond (b := a.take (size a)) (size a) (by rw [List.length_take]; omega)]
  exact wt_same _ fun j hj => by rw [List.getD_eq_getElem?_getD, List.getD_eq_getElem?_getD, List.getElem?_take, if_pos hj]
theorem b64_b32 (n : Nat) : B64 ^ n = B32 ^ (2 * n) := by rw [Int.pow_mul]; rfl
def spN (a : List Int) : Nat → List Int
  | 0 => []
  | n + 1 => spN a n ++ [a.getD n 0 % 4294967296] ++ [a.getD n 0 / 4294967296]
theorem spN_len (a : List Int) : ∀ n, (spN a n).length = 2 * n
  | 0 => rfl
  | n + 1 => by unfold spN; rw [List.length_append, List.length_append, spN_len a n]; simp; omega
theorem spN_words {a : List Int} (ha : Limbs a) : ∀ n, Words (spN a n)
  | 0 => fun x hx => by cases hx
  | n + 1 => by
    have hx := getD_limb ha n
    simp only [B64] at hx
    exact words_snoc (words_snoc (spN_words ha n) (by simp only [B32]; omega)) (by simp only [B32]; omega)
theorem spN_wal (a : List Int) : ∀ n, wal (spN a n) = vt a n
  | 0 => rfl
  | n + 1 => by
    unfold spN
    rw [wal_snoc, wal_snoc, spN_wal a n, List.length_append, spN_len]
    simp only [vt, List.length_singleton]
    rw [b64_b32, Int.pow_succ]
    have h := Int.mul_ediv_add_emod (a.getD n 0) 4294967296
    generalize B32 ^ (2 * n) = p at *
    generalize a.getD n 0 / 4294967296 = q at *
    generalize a.getD n 0 % 4294967296 = r at *
    rw [← h]
    simp only [B32]
    grind
def hv (a : List Int) : List Int := trim (spN a a.length)
theorem hv_words {a : List Int} (ha : Limbs a) : Words (hv a) := words_take (spN_words ha _) _
theorem hv_wal (a : List Int) : wal (hv a) = val a := by unfold hv; rw [wal_trim, spN_wal]; rfl
theorem hv_len (a : List Int) : (hv a).length ≤ 2 * a.length := by
  unfold hv trim
  rw [List.length_take, spN_len]
  omega
def jnN (h : List Int) : Nat → List Int
  | 0 => []
  | n + 1 => jnN h n ++ [h.getD (2 * n) 0 + h.getD (2 * n + 1) 0 * 4294967296]
theorem jnN_len (h : List Int) : ∀ n, (jnN h n).length = n
  | 0 => rfl
  | n + 1 => by unfold jnN; rw [List.length_append, jnN_len h n]; simp
theorem jnN_limbs {h : List Int} (hw : Words h) : ∀ n, Limbs (jnN h n)
  | 0 => fun x hx => by cases hx
  | n + 1 => by
    have h1 := getD_word hw (2 * n)
    have h2 := getD_word hw (2 * n + 1)
    simp only [B32] at h1 h2
    exact limbs_snoc (jnN_limbs hw n) (by simp only [B64]; omega)
theorem jnN_val (h : List Int) : ∀ n, val (jnN h n) = wt h (2 * n)
  | 0 => rfl
  | n + 1 => by
    unfold jnN
    rw [val_snoc, jnN_val h n, jnN_len, b64_b32, show 2 * (n + 1) = 2 * n + 1 + 1 by omega]
    simp only [wt]
    rw [Int.pow_succ]
    generalize B32 ^ (2 * n) = p at *
    simp only [B32]
    grind
theorem trim_natLv {a : List Int} (ha : Limbs a) {v : Nat} (hv : val a = v) : trim a = natL v := by
  rw [trim_eq ha, hv]; rfl
theorem limbs_one {x : Nat} (h : x < 18446744073709551616) : Limbs [(x : Int)] ∧ val [(x : Int)] = x := ⟨fun y hy => by rw [List.mem_singleton] at hy; subst hy; omega, val_one _⟩
theorem ref01_size (l : List Int) (hl : l.length ≤ 17592186043904) : Meets Tryz.prog 69 [.ints .u64 l] (.int .i64 (size l : Int)) := by
  refine meets_by ttOk Tryz.func69 Tryz.ntmps69 Tryz.results69 (by kernel_rfl) (c := _) rfl rfl rfl fun E => ?_
  simp only [argsFrame]
  repeat' first
    | (with_reducible first | refine PW.seq ?_ | refine PW.block ?_ | refine PW.fork ?_ | refine PW.skip ?_ | refine PW.exit ?_ | refine PW.ret ?_) | ((with_reducible refine PW.region ttOk ?_ ?_); rfl) | ((with_reducible refine PW.regionD ttOk mixed ?_ ?_ ?_); rfl; rfl) | (with_reducible refine ifW_dec (fun g => ?_) (fun g => ?_) <;> first | (exfalso; omega) | (simp -dsimp only [g, wkI])) | ((with_reducible first | refine condE_dec (fun g => ?_) (fun g => ?_) | refine condE_not (fun g => ?_) (fun g => ?_)) <;> try (exfalso; omega)) | (simp -dsimp only [↓wkA, ↓wkE, ↓wkJ, wkB, ↓tt, Nat.reduceBEq, Nat.reduceEqDiff, ↓reduceIte, Nat.reduceLT, Array.toList, Nat.reduceAdd, Nat.reduceMul, Int.reduceToNat, Int.reducePow, UInt8.reduceToNat]) | (simp -dsimp (disch := first | assumption | omega) only [dec_t, dec_f])
    | (refine And.intro ?_ ?_
       · first | omega | decide | (simp (disch := omega) only [wkW, Int.reduceToNat, Int.reducePow] <;> omega) | (simp <;> omega)) | (simp (disch := omega) only [wkW, Int.reduceToNat, Int.reducePow])
  refine PW.meetB (fun F H => F = [(3, .int .i64 (size l : Int))] ∧ H = ⟨0, [], [], []⟩) ?_ ?_
  · refine PW.loopA (fun m F H => m ≤ l.length ∧ sizeN l m = size l ∧ F = [(3, .int .i64 (m : Int)), (0, .ints .u64 l)] ∧ H = ⟨0, [], [], []⟩) l.length [(3, .int .i64 (l.length : Int)), (0, .ints .u64 l)] ⟨0, [], [], []⟩ (Sub.norm ⟨rfl, rfl, trivial⟩ trivial (Nat.le_refl _) rfl rfl rfl rfl) ⟨Nat.le_refl _, rfl, rfl, rfl⟩ ?_
    rintro m F H ⟨hm, hs, rfl, rfl⟩
    cases m with
    | zero =>
      repeat' first
        | (with_reducible first | refine PW.seq ?_ | refine PW.block ?_ | refine PW.fork ?_ | refine PW.skip ?_ | refine PW.exit ?_ | refine PW.ret ?_) | ((with_reducible refine PW.region ttOk ?_ ?_); rfl) | ((with_reducible refine PW.regionD ttOk mixed ?_ ?_ ?_); rfl; rfl) | (with_reducible refine ifW_dec (fun g => ?_) (fun g => ?_) <;> first | (exfalso; omega) | (simp -dsimp only [g, wkI])) | ((with_reducible first | refine condE_dec (fun g => ?_) (fun g => ?_) | refine condE_not (fun g => ?_) (fun g => ?_)) <;> try (exfalso; omega)) | (simp -dsimp only [↓wkA, ↓wkE, ↓wkJ, wkB, ↓tt, Nat.reduceBEq, Nat.reduceEqDiff, ↓reduceIte, Nat.reduceLT, Array.toList, Nat.reduceAdd, Nat.reduceMul, Int.reduceToNat, Int.reducePow, UInt8.reduceToNat]) | (simp -dsimp (disch := first | assumption | omega) only [dec_t, dec_f])
        | (refine And.intro ?_ ?_
           · first | omega | decide | (simp (disch := omega) only [wkW, Int.reduceToNat, Int.reducePow] <;> omega) | (simp <;> omega)) | (simp (disch := omega) only [wkW, Int.reduceToNat, Int.reducePow])
      exact Meet.mk [(3, .int .i64 (size l : Int))] ⟨0, [], [], []⟩ (Sub.norm ⟨by rw [← hs]; rfl, trivial⟩ trivial (Nat.le_refl _) rfl rfl rfl rfl) ⟨rfl, rfl⟩
    | succ m =>
      have e1 : (((m + 1 : Nat)) : Int) - 1 = (m : Int) := by omega
      repeat' first
        | (simp (disch := omega) only [e1, Int.toNat_natCast, wkW, Int.reduceToNat, Int.reducePow]) | (with_reducible first | refine PW.seq ?_ | refine PW.block ?_ | refine PW.fork ?_ | refine PW.skip ?_ | refine PW.exit ?_ | refine PW.ret ?_) | ((with_reducible refine PW.region ttOk ?_ ?_); rfl) | ((with_reducible refine PW.regionD ttOk mixed ?_ ?_ ?_); rfl; rfl) | (with_reducible refine ifW_dec (fun g => ?_) (fun g => ?_) <;> first | (exfalso; omega) | (simp -dsimp only [g, wkI])) | ((with_reducible first | refine condE_dec (fun g => ?_) (fun g => ?_) | refine condE_not (fun g => ?_) (fun g => ?_)) <;> try (exfalso; omega)) | (simp -dsimp only [↓wkA, ↓wkE, ↓wkJ, wkB, ↓tt, Nat.reduceBEq, Nat.reduceEqDiff, ↓reduceIte, Nat.reduceLT, Array.toList, Nat.reduceAdd, Nat.reduceMul, Int.reduceToNat, Int.reducePow, UInt8.reduceToNat]) | (simp -dsimp (disch := first | assumption | omega) only [dec_t, dec_f])
        | (refine And.intro ?_ ?_
           · first | omega | decide | (simp (disch := omega) only [wkW, Int.reduceToNat, Int.reducePow] <;> omega) | (simp <;> omega)) | (simp (disch := omega) only [wkW, Int.reduceToNat, Int.reducePow])
      · have h0 : l.getD m 0 = 0 := by assumption
        exact Again.mk m [(3, .int .i64 (m : Int)), (0, .ints .u64 l)] ⟨0, [], [], []⟩ (by omega) (Sub.norm ⟨rfl, rfl, trivial⟩ trivial (Nat.le_refl _) rfl rfl rfl rfl) ⟨by omega, by rw [← hs, sizeN, if_pos h0], rfl, rfl⟩
      · have h0 : ¬ l.getD m 0 = 0 := by assumption
        exact Meet.mk [(3, .int .i64 (size l : Int))] ⟨0, [], [], []⟩ (Sub.norm ⟨by rw [← hs, sizeN, if_neg h0]; rfl, trivial⟩ trivial (Nat.le_refl _) rfl rfl rfl rfl) ⟨rfl, rfl⟩
  rintro F H ⟨rfl, rfl⟩
  repeat' first
    | (with_reducible first | refine PW.seq ?_ | refine PW.block ?_ | refine PW.fork ?_ | refine PW.skip ?_ | refine PW.exit ?_ | refine PW.ret ?_) | ((with_reducible refine PW.region ttOk ?_ ?_); rfl) | ((with_reducible refine PW.regionD ttOk mixed ?_ ?_ ?_); rfl; rfl) | (with_reducible refine ifW_dec (fun g => ?_) (fun g => ?_) <;> first | (exfalso; omega) | (simp -dsimp only [g, wkI])) | ((with_reducible first | refine condE_dec (fun g => ?_) (fun g => ?_) | refine condE_not (fun g => ?_) (fun g => ?_)) <;> try (exfalso; omega)) | (simp -dsimp only [↓wkA, ↓wkE, ↓wkJ, wkB, ↓tt, Nat.reduceBEq, Nat.reduceEqDiff, ↓reduceIte, Nat.reduceLT, Array.toList, Nat.reduceAdd, Nat.reduceMul, Int.reduceToNat, Int.reducePow, UInt8.reduceToNat]) | (simp -dsimp (disch := first | assumption | omega) only [dec_t, dec_f])
    | (refine And.intro ?_ ?_
       · first | omega | decide | (simp (disch := omega) only [wkW, Int.reduceToNat, Int.reducePow] <;> omega) | (simp <;> omega)) | (simp (disch := omega) only [wkW, Int.reduceToNat, Int.reducePow])
theorem take_snoc (l : List Int) {i : Nat} (h : i < l.length) : l.take i ++ [l.getD i 0] = l.take (i + 1) := by
  rw [List.take_add_one, List.getElem?_eq_getElem h, List.getD_eq_getElem?_getD, List.getElem?_eq_getElem h]; rfl
theorem ref01_trim (l : List Int) (hl : l.length ≤ 100000000) : Meets Tryz.prog 146 [.ints .u64 l] (.ints .u64 (trim l)) := by
  refine meets_by ttOk Tryz.func146 Tryz.ntmps146 Tryz.results146 (by kernel_rfl) (c := _) rfl rfl rfl fun E => ?_
  simp only [argsFrame]
  repeat' first
    | (with_reducible first | refine PW.seq ?_ | refine PW.block ?_ | refine PW.fork ?_ | refine PW.skip ?_ | refine PW.exit ?_ | refine PW.ret ?_) | ((with_reducible refine PW.region ttOk ?_ ?_); rfl) | ((with_reducible refine PW.regionD ttOk mixed ?_ ?_ ?_); rfl; rfl) | (with_reducible refine ifW_dec (fun g => ?_) (fun g => ?_) <;> first | (exfalso; omega) | (simp -dsimp only [g, wkI])) | ((with_reducible first | refine condE_dec (fun g => ?_) (fun g => ?_) | refine condE_not (fun g => ?_) (fun g => ?_)) <;> try (exfalso; omega)) | (simp -dsimp only [↓wkA, ↓wkE, ↓wkJ, wkB, ↓tt, Nat.reduceBEq, Nat.reduceEqDiff, ↓reduceIte, Nat.reduceLT, Array.toList, Nat.reduceAdd, Nat.reduceMul, Int.reduceToNat, Int.reducePow, UInt8.reduceToNat]) | (simp -dsimp (disch := first | assumption | omega) only [dec_t, dec_f])
    | (refine And.intro ?_ ?_
       · first | omega | decide | (simp (disch := omega) only [wkW, Int.reduceToNat, Int.reducePow] <;> omega) | (simp <;> omega)) | (simp (disch := omega) only [wkW, Int.reduceToNat, Int.reducePow])
  refine PW.meetB (fun F H => F = [(3, .int .i64 (size l : Int)), (0, .ints .u64 l)] ∧ H = ⟨0, [], [], []⟩) ?_ ?_
  · refine PW.loopA (fun m F H => m ≤ l.length ∧ sizeN l m = size l ∧ F = [(3, .int .i64 (m : Int)), (0, .ints .u64 l)] ∧ H = ⟨0, [], [], []⟩) l.length [(3, .int .i64 (l.length : Int)), (0, .ints .u64 l)] ⟨0, [], [], []⟩ (Sub.norm ⟨rfl, rfl, trivial⟩ trivial (Nat.le_refl _) rfl rfl rfl rfl) ⟨Nat.le_refl _, rfl, rfl, rfl⟩ ?_
    rintro m F H ⟨hm, hs, rfl, rfl⟩
    cases m with
    | zero =>
      repeat' first
        | (with_reducible first | refine PW.seq ?_ | refine PW.block ?_ | refine PW.fork ?_ | refine PW.skip ?_ | refine PW.exit ?_ | refine PW.ret ?_) | ((with_reducible refine PW.region ttOk ?_ ?_); rfl) | ((with_reducible refine PW.regionD ttOk mixed ?_ ?_ ?_); rfl; rfl) | (with_reducible refine ifW_dec (fun g => ?_) (fun g => ?_) <;> first | (exfalso; omega) | (simp -dsimp only [g, wkI])) | ((with_reducible first | refine condE_dec (fun g => ?_) (fun g => ?_) | refine condE_not (fun g => ?_) (fun g => ?_)) <;> try (exfalso; omega)) | (simp -dsimp only [↓wkA, ↓wkE, ↓wkJ, wkB, ↓tt, Nat.reduceBEq, Nat.reduceEqDiff, ↓reduceIte, Nat.reduceLT, Array.toList, Nat.reduceAdd, Nat.reduceMul, Int.reduceToNat, Int.reducePow, UInt8.reduceToNat]) | (simp -dsimp (disch := first | assumption | omega) only [dec_t, dec_f])
        | (refine And.intro ?_ ?_
           · first | omega | decide | (simp (disch := omega) only [wkW, Int.reduceToNat, Int.reducePow] <;> omega) | (simp <;> omega)) | (simp (disch := omega) only [wkW, Int.reduceToNat, Int.reducePow])
      exact Meet.mk [(3, .int .i64 (size l : Int)), (0, .ints .u64 l)] ⟨0, [], [], []⟩ (Sub.norm ⟨by rw [← hs]; rfl, rfl, trivial⟩ trivial (Nat.le_refl _) rfl rfl rfl rfl) ⟨rfl, rfl⟩
    | succ m =>
      have e1 : (((m + 1 : Nat)) : Int) - 1 = (m : Int) := by omega
      repeat' first
        | (simp (disch := omega) only [e1, Int.toNat_natCast, wkW, Int.reduceToNat, Int.reducePow]) | (with_reducible first | refine PW.seq ?_ | refine PW.block ?_ | refine PW.fork ?_ | refine PW.skip ?_ | refine PW.exit ?_ | refine PW.ret ?_) | ((with_reducible refine PW.region ttOk ?_ ?_); rfl) | ((with_reducible refine PW.regionD ttOk mixed ?_ ?_ ?_); rfl; rfl) | (with_reducible refine ifW_dec (fun g => ?_) (fun g => ?_) <;> first | (exfalso; omega) | (simp -dsimp only [g, wkI])) | ((with_reducible first | refine condE_dec (fun g => ?_) (fun g => ?_) | refine condE_not (fun g => ?_) (fun g => ?_)) <;> try (exfalso; omega)) | (simp -dsimp only [↓wkA, ↓wkE, ↓wkJ, wkB, ↓tt, Nat.reduceBEq, Nat.reduceEqDiff, ↓reduceIte, Nat.reduceLT, Array.toList, Nat.reduceAdd, Nat.reduceMul, Int.reduceToNat, Int.reducePow, UInt8.reduceToNat]) | (simp -dsimp (disch := first | assumption | omega) only [dec_t, dec_f])
        | (refine And.intro ?_ ?_
           · first | omega | decide | (simp (disch := omega) only [wkW, Int.reduceToNat, Int.reducePow] <;> omega) | (simp <;> omega)) | (simp (disch := omega) only [wkW, Int.reduceToNat, Int.reducePow])
      · have h0 : l.getD m 0 = 0 := by assumption
        exact Again.mk m [(3, .int .i64 (m : Int)), (0, .ints .u64 l)] ⟨0, [], [], []⟩ (by omega) (Sub.norm ⟨rfl, rfl, trivial⟩ trivial (Nat.le_refl _) rfl rfl rfl rfl) ⟨by omega, by rw [← hs, sizeN, if_pos h0], rfl, rfl⟩
      · have h0 : ¬ l.getD m 0 = 0 := by assumption
        exact Meet.mk [(3, .int .i64 (size l : Int)), (0, .ints .u64 l)] ⟨0, [], [], []⟩ (Sub.norm ⟨by rw [← hs, sizeN, if_neg h0]; rfl, rfl, trivial⟩ trivial (Nat.le_refl _) rfl rfl rfl rfl) ⟨rfl, rfl⟩
  rintro F H ⟨rfl, rfl⟩
  have hsz := size_le l
  unfold trim
  repeat' first
    | (with_reducible first | refine PW.seq ?_ | refine PW.block ?_ | refine PW.fork ?_ | refine PW.skip ?_ | refine PW.exit ?_ | refine PW.ret ?_) | (simp only [Int.toNat_natCast]) | ((with_reducible refine PW.region ttOk ?_ ?_); rfl) | ((with_reducible refine PW.regionD ttOk mixed ?_ ?_ ?_); rfl; rfl) | (with_reducible refine ifW_dec (fun g => ?_) (fun g => ?_) <;> first | (exfalso; omega) | (simp -dsimp only [g, wkI])) | ((with_reducible first | refine condE_dec (fun g => ?_) (fun g => ?_) | refine condE_not (fun g => ?_) (fun g => ?_)) <;> try (exfalso; omega)) | (simp -dsimp only [↓wkA, ↓wkE, ↓wkJ, wkB, ↓tt, Nat.reduceBEq, Nat.reduceEqDiff, ↓reduceIte, Nat.reduceLT, Array.toList, Nat.reduceAdd, Nat.reduceMul, Int.reduceToNat, Int.reducePow, UInt8.reduceToNat]) | (simp -dsimp (disch := first | assumption | omega) only [dec_t, dec_f])
    | (refine And.intro ?_ ?_
       · first | omega | decide | (simp (disch := omega) only [wkW, Int.reduceToNat, Int.reducePow] <;> omega) | (simp <;> omega)) | (simp (disch := omega) only [wkW, Int.reduceToNat, Int.reducePow])
  refine PW.loopA (fun m F H => ∃ i : Nat, i + m = size l ∧ F = [(5, .int .i64 (i : Int)), (4, .sl 0 0 i true), (3, .int .i64 (size l : Int)), (0, .ints .u64 l)] ∧ H = ⟨1, [(0, .ints .u64 (l.take i))], [], []⟩) (size l) [(5, .int .i64 ((0 : Nat) : Int)), (4, .sl 0 0 0 true), (3, .int .i64 (size l : Int)), (0, .ints .u64 l)] ⟨1, [(0, .ints .u64 (l.take 0))], [], []⟩ (Sub.norm ⟨rfl, rfl, rfl, rfl, trivial⟩ ⟨rfl, trivial⟩ (Nat.le_refl _) rfl rfl rfl rfl) ⟨0, by omega, rfl, rfl⟩ ?_
  rintro m F H ⟨i, hi, rfl, rfl⟩
  have hlt : (l.take i).length = i := by rw [List.length_take]; omega
  cases m with
  | zero =>
    obtain rfl : i = size l := by omega
    generalize l.take (size l) = s at *
    repeat' first
      | (with_reducible first | refine PW.seq ?_ | refine PW.block ?_ | refine PW.fork ?_ | refine PW.skip ?_ | refine PW.exit ?_ | refine PW.ret ?_) | ((with_reducible refine PW.region ttOk ?_ ?_); rfl) | ((with_reducible refine PW.regionD ttOk mixed ?_ ?_ ?_); rfl; rfl) | (with_reducible refine ifW_dec (fun g => ?_) (fun g => ?_) <;> first | (exfalso; omega) | (simp -dsimp only [g, wkI])) | ((with_reducible first | refine condE_dec (fun g => ?_) (fun g => ?_) | refine condE_not (fun g => ?_) (fun g => ?_)) <;> try (exfalso; omega)) | (simp -dsimp only [↓wkA, ↓wkE, ↓wkJ, wkB, ↓tt, Nat.reduceBEq, Nat.reduceEqDiff, ↓reduceIte, Nat.reduceLT, Array.toList, Nat.reduceAdd, Nat.reduceMul, Int.reduceToNat, Int.reducePow, UInt8.reduceToNat]) | (simp -dsimp (disch := first | assumption | omega) only [dec_t, dec_f])
      | (refine And.intro ?_ ?_
         · first | omega | decide | (simp (disch := omega) only [wkW, Int.reduceToNat, Int.reducePow] <;> omega) | (simp <;> omega)) | (simp (disch := omega) only [wkW, Int.reduceToNat, Int.reducePow])
    rw [List.take_of_length_le (by omega)]
  | succ m =>
    have hs := take_snoc l (show i < l.length by omega)
    have w1 : IntKind.wrap .i64 ((i : Int) + 1) = ((i + 1 : Nat) : Int) := wrap_i64 (by omega)
    generalize l.take i = s at *
    repeat' first
      | (with_reducible first | refine PW.seq ?_ | refine PW.block ?_ | refine PW.fork ?_ | refine PW.skip ?_ | refine PW.exit ?_ | refine PW.ret ?_) | (simp only [w1, Int.toNat_natCast]) | ((with_reducible refine PW.region ttOk ?_ ?_); rfl) | ((with_reducible refine PW.regionD ttOk mixed ?_ ?_ ?_); rfl; rfl) | (with_reducible refine ifW_dec (fun g => ?_) (fun g => ?_) <;> first | (exfalso; omega) | (simp -dsimp only [g, wkI])) | ((with_reducible first | refine condE_dec (fun g => ?_) (fun g => ?_) | refine condE_not (fun g => ?_) (fun g => ?_)) <;> try (exfalso; omega)) | (simp -dsimp only [↓wkA, ↓wkE, ↓wkJ, wkB, ↓tt, Nat.reduceBEq, Nat.reduceEqDiff, ↓reduceIte, Nat.reduceLT, Array.toList, Nat.reduceAdd, Nat.reduceMul, Int.reduceToNat, Int.reducePow, UInt8.reduceToNat]) | (simp -dsimp (disch := first | assumption | omega) only [dec_t, dec_f])
      | (refine And.intro ?_ ?_
         · first | omega | decide | (simp (disch := omega) only [wkW, Int.reduceToNat, Int.reducePow] <;> omega) | (simp <;> omega)) | (simp (disch := omega) only [wkW, Int.reduceToNat, Int.reducePow])
    simp only [List.take_of_length_le (Nat.le_of_eq hlt), hlt, hs]
    exact Again.mk m [(5, .int .i64 ((i + 1 : Nat) : Int)), (4, .sl 0 0 (i + 1) true), (3, .int .i64 (size l : Int)), (0, .ints .u64 l)] ⟨1, [(0, .ints .u64 (l.take (i + 1)))], [], []⟩ (by omega) (Sub.norm ⟨rfl, rfl, rfl, rfl, trivial⟩ ⟨rfl, trivial⟩ (by simp) rfl rfl rfl rfl) ⟨i + 1, by omega, rfl, rfl⟩
end Go.Proofs.YtmoilbeomnapfaaGreatDoor

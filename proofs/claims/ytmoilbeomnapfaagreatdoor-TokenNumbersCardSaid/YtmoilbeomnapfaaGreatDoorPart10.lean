/- Contracts and laws that the row leans on, part 10: texts that were built one by one, laid together. -/
import Derived.Test.YtmoilbeomnapfaaGreatDoorPart9
import Derived.Test.YtmoilbeomnapfaaGreatDoorPart4
import Derived.Test.YtmoilbeomnapfaaGreatDoorPart5
import Derived.Test.YtmoilbeomnapfaaGreatDoorPart7
import Derived.Test.YtmoilbeomnapfaaGreatDoorPart6
set_option maxHeartbeats 4000000
set_option maxRecDepth 4000
set_option exponentiation.threshold 300000
set_option linter.unusedVariables false
set_option linter.unusedSimpArgs false
namespace Go.Proofs.YtmoilbeomnapfaaGreatDoor
open Go Go.PV
theorem group_ex (b : Nat) (hb : 2 ≤ b ∧ b ≤ 36) : ∃ k, 1 ≤ k ∧ k ≤ 31 ∧ b ^ k < 2147483648 ∧ 2147483648 ≤ b ^ (k + 1) ∧ ∀ m, m < k → b ^ (m + 1) < 2147483648 := by
  have h64 : 2147483648 ≤ b ^ (30 + 1) := Nat.le_trans (by decide : 2147483648 ≤ 2 ^ 31) (Nat.pow_le_pow_left hb.1 31)
  obtain ⟨k, hk, hmin⟩ := least_of (fun n => 2147483648 ≤ b ^ (n + 1)) 30 h64
  have hk63 : k ≤ 30 := by
    rcases Nat.lt_or_ge 30 k with h | h
    · exact absurd h64 (hmin 30 h)
    · exact h
  have hk0 : k ≠ 0 := by
    rintro rfl
    rw [Nat.zero_add, Nat.pow_one] at hk; omega
  refine ⟨k, by omega, by omega, ?_, hk, fun m hm => by have := hmin m hm; omega⟩
  have := hmin (k - 1) (by omega)
  rw [show k - 1 + 1 = k by omega] at this
  omega
def GrI (b k : Nat) (n : Nat) (F : PV.Frame) (H : PV.Heap) : Prop :=
  ∃ i : Nat, i + n = k ∧ F = [(5, .int .u64 ((b ^ i : Nat) : Int)), (4, .int .i64 (i : Int)), (0, .int .i64 (b : Int))] ∧ H = ⟨0, [], [], []⟩
theorem ref_group (b k : Nat) (hb : 2 ≤ b ∧ b ≤ 36) (h1 : 1 ≤ k) (h2 : k ≤ 31) (h3 : b ^ k < 2147483648) (h4 : 2147483648 ≤ b ^ (k + 1)) (h5 : ∀ m, m < k → b ^ (m + 1) < 2147483648) :
    Meets Tryz.prog 148 [.int .i64 (b : Int)] (.tup [.int .i64 (k : Int), .int .u64 ((b ^ k : Nat) : Int)]) := by
  refine meets_by ttOk Tryz.func148 Tryz.ntmps148 Tryz.results148 (by kernel_rfl) (c := _) rfl rfl rfl fun E => ?_
  simp only [argsFrame]
  repeat' first
    | (with_reducible first | refine PW.seq ?_ | refine PW.block ?_ | refine PW.fork ?_ | refine PW.skip ?_ | refine PW.exit ?_ | refine PW.ret ?_) | ((with_reducible refine PW.region ttOk ?_ ?_); rfl) | ((with_reducible refine PW.regionD ttOk mixed ?_ ?_ ?_); rfl; rfl) | (with_reducible refine ifW_dec (fun g => ?_) (fun g => ?_) <;> first | (exfalso; omega) | (simp -dsimp only [g, wkI])) | ((with_reducible first | refine condE_dec (fun g => ?_) (fun g => ?_) | refine condE_not (fun g => ?_) (fun g => ?_)) <;> try (exfalso; omega)) | (simp -dsimp only [↓wkA, ↓wkE, ↓wkJ, wkB, ↓tt, Nat.reduceBEq, Nat.reduceEqDiff, ↓reduceIte, Nat.reduceLT, Array.toList, Nat.reduceAdd, Nat.reduceMul, Int.reduceToNat, Int.reducePow, UInt8.reduceToNat]) | (simp -dsimp (disch := first | assumption | omega) only [dec_t, dec_f])
    | (refine And.intro ?_ ?_
       · first | omega | decide | (simp (disch := omega) only [wkW, Int.reduceToNat, Int.reducePow] <;> omega) | (simp <;> omega)) | (simp (disch := omega) only [wkW, Int.reduceToNat, Int.reducePow])
  refine PW.loopA (GrI b k) k [(5, .int .u64 ((b ^ 0 : Nat) : Int)), (4, .int .i64 ((0 : Nat) : Int)), (0, .int .i64 (b : Int))] ⟨0, [], [], []⟩ (Sub.norm ⟨rfl, rfl, rfl, trivial⟩ trivial (by simp) rfl rfl rfl rfl) ⟨0, by omega, rfl, rfl⟩ ?_
  rintro n F H ⟨i, hn, rfl, rfl⟩
  have hlt : b ^ i < 2147483648 := by
    by_cases e : i = k
    · subst e; exact h3
    · have := h5 i (by omega)
      refine Nat.lt_of_le_of_lt (Nat.pow_le_pow_right (by omega) (by omega : i ≤ i + 1)) this
  have hmul : ((b ^ i : Nat) : Int) * (b : Int) = ((b ^ (i + 1) : Nat) : Int) := by rw [Nat.pow_succ]; simp
  have hle : b ^ (i + 1) ≤ 2147483648 * 36 := by
    rw [Nat.pow_succ]; exact Nat.mul_le_mul (by omega) hb.2
  have hwb : IntKind.wrap .u64 (b : Int) = (b : Int) := wrap_u64 (by omega)
  have hwm : IntKind.wrap .u64 ((b ^ (i + 1) : Nat) : Int) = ((b ^ (i + 1) : Nat) : Int) := wrap_u64 (by omega)
  by_cases hk : i = k
  · subst hk
    repeat' first
      | (simp only [hwb, hmul, hwm]) | (with_reducible first | refine PW.seq ?_ | refine PW.block ?_ | refine PW.fork ?_ | refine PW.skip ?_ | refine PW.exit ?_ | refine PW.ret ?_) | ((with_reducible refine PW.region ttOk ?_ ?_); rfl) | ((with_reducible refine PW.regionD ttOk mixed ?_ ?_ ?_); rfl; rfl) | (with_reducible refine ifW_dec (fun g => ?_) (fun g => ?_) <;> first | (exfalso; omega) | (simp -dsimp only [g, wkI])) | ((with_reducible first | refine condE_dec (fun g => ?_) (fun g => ?_) | refine condE_not (fun g => ?_) (fun g => ?_)) <;> try (exfalso; omega)) | (simp -dsimp only [↓wkA, ↓wkE, ↓wkJ, wkB, ↓tt, Nat.reduceBEq, Nat.reduceEqDiff, ↓reduceIte, Nat.reduceLT, Array.toList, Nat.reduceAdd, Nat.reduceMul, Int.reduceToNat, Int.reducePow, UInt8.reduceToNat]) | (simp -dsimp (disch := first | assumption | omega) only [dec_t, dec_f])
      | (refine And.intro ?_ ?_
         · first | omega | decide | (simp (disch := omega) only [wkW, Int.reduceToNat, Int.reducePow] <;> omega) | (simp <;> omega)) | (simp (disch := omega) only [wkW, Int.reduceToNat, Int.reducePow])
  · have := h5 i (by omega)
    repeat' first
      | (simp only [hwb, hmul, hwm]) | (with_reducible first | refine PW.seq ?_ | refine PW.block ?_ | refine PW.fork ?_ | refine PW.skip ?_ | refine PW.exit ?_ | refine PW.ret ?_) | ((with_reducible refine PW.region ttOk ?_ ?_); rfl) | ((with_reducible refine PW.regionD ttOk mixed ?_ ?_ ?_); rfl; rfl) | (with_reducible refine ifW_dec (fun g => ?_) (fun g => ?_) <;> first | (exfalso; omega) | (simp -dsimp only [g, wkI])) | ((with_reducible first | refine condE_dec (fun g => ?_) (fun g => ?_) | refine condE_not (fun g => ?_) (fun g => ?_)) <;> try (exfalso; omega)) | (simp -dsimp only [↓wkA, ↓wkE, ↓wkJ, wkB, ↓tt, Nat.reduceBEq, Nat.reduceEqDiff, ↓reduceIte, Nat.reduceLT, Array.toList, Nat.reduceAdd, Nat.reduceMul, Int.reduceToNat, Int.reducePow, UInt8.reduceToNat]) | (simp -dsimp (disch := first | assumption | omega) only [dec_t, dec_f])
      | (refine And.intro ?_ ?_
         · first | omega | decide | (simp (disch := omega) only [wkW, Int.reduceToNat, Int.reducePow] <;> omega) | (simp <;> omega)) | (simp (disch := omega) only [wkW, Int.reduceToNat, Int.reducePow])
    refine Again.mk (n - 1) [(5, .int .u64 ((b ^ (i + 1) : Nat) : Int)), (4, .int .i64 ((i + 1 : Nat) : Int)), (0, .int .i64 (b : Int))] ⟨0, [], [], []⟩ (by omega) (Sub.norm ⟨rfl, rfl, rfl, trivial⟩ trivial (by simp) rfl rfl rfl rfl) ⟨i + 1, by omega, rfl, rfl⟩
theorem ref_limbs (l : List Int) (hl : l.length ≤ 17592186043904) : Meets Tryz.prog 147 [.ints .u64 l] (.int .i64 (size l : Int)) := by
  refine meets_by ttOk Tryz.func147 Tryz.ntmps147 Tryz.results147 (by kernel_rfl) (c := _) rfl rfl rfl fun E => ?_
  simp only [argsFrame]
  repeat' first
    | (with_reducible first | refine PW.seq ?_ | refine PW.block ?_ | refine PW.fork ?_ | refine PW.skip ?_ | refine PW.exit ?_ | refine PW.ret ?_) | ((with_reducible refine PW.region ttOk ?_ ?_); rfl) | ((with_reducible refine PW.regionD ttOk mixed ?_ ?_ ?_); rfl; rfl) | (with_reducible refine ifW_dec (fun g => ?_) (fun g => ?_) <;> first | (exfalso; omega) | (simp -dsimp only [g, wkI])) | ((with_reducible first | refine condE_dec (fun g => ?_) (fun g => ?_) | refine condE_not (fun g => ?_) (fun g => ?_)) <;> try (exfalso; omega)) | (simp -dsimp only [↓wkA, ↓wkE, ↓wkJ, wkB, ↓tt, Nat.reduceBEq, Nat.reduceEqDiff, ↓reduceIte, Nat.reduceLT, Array.toList, Nat.reduceAdd, Nat.reduceMul, Int.reduceToNat, Int.reducePow, UInt8.reduceToNat]) | (simp -dsimp (disch := first | assumption | omega) only [dec_t, dec_f])
    | (refine And.intro ?_ ?_
       · first | omega | decide | (simp (disch := omega) only [wkW, Int.reduceToNat, Int.reducePow] <;> omega) | (simp <;> omega)) | (simp (disch := omega) only [wkW, Int.reduceToNat, Int.reducePow])
  refine PW.meetB (fun F H => F = [(3, .int .i64 (size l : Int))] ∧ H = ⟨0, [], [], []⟩) ?_ ?_
  · refine PW.loopA (fun m F H => m ≤ l.length ∧ sizeN l m = size l ∧ F = [(3, .int .i64 (m : Int)), (0, .ints .u64 l)] ∧ H = ⟨0, [], [], []⟩) l.length [(3, .int .i64 (l.length : Int)), (0, .ints .u64 l)] ⟨0, [], [], []⟩ (Sub.norm ⟨rfl, rfl, trivial⟩ trivial (Nat.le_refl _) rfl rfl rfl rfl) ⟨Nat.le_refl _, rfl, rfl, rfl⟩ ?_
    rintro m F H ⟨hm, hs, rfl, rfl⟩
    cases m with
    | zero =>
      repeat' first
        | (with_reducible first | refine PW.seq ?_ | refine PW.block ?_ | refine PW.fork ?_ | refine PW.skip ?_ | refine PW.exit ?_ | refine PW.ret ?_) | ((with_reducible refine PW.region ttOk ?_ ?_); rfl) | ((with_reducible refine PW.regionD ttOk mixed ?_ ?_ ?_); rfl; rfl) | (with_reducible refine ifW_dec (fun g => ?_) (fun g => ?_) <;> first | (exfalso; omega) | (simp -dsimp only [g, wkI])) | ((with_reducible first | refine condE_dec (fun g => ?_) (fun g => ?_) | refine condE_not (fun g => ?_) (fun g => ?_)) <;> try (exfalso; omega)) | (simp -dsimp only [↓wkA, ↓wkE, ↓wkJ, wkB, ↓tt, Nat.reduceBEq, Nat.reduceEqDiff, ↓reduceIte, Nat.reduceLT, Array.toList, Nat.reduceAdd, Nat.reduceMul, Int.reduceToNat, Int.reducePow, UInt8.reduceToNat]) | (simp -dsimp (disch := first | assumption | omega) only [dec_t, dec_f])
        | (refine And.intro ?_ ?_
           · first | omega | decide | (simp (disch := omega) only [wkW, Int.reduceToNat, Int.reducePow] <;> omega) | (simp <;> omega)) | (simp (disch := omega) only [wkW, Int.reduceToNat, Int.reducePow])
      exact Meet.mk [(3, .int .i64 (size l : Int))] ⟨0, [], [], []⟩ (Sub.norm ⟨by rw [← hs]; rfl, trivial⟩ trivial (Nat.le_refl _) rfl rfl rfl rfl) ⟨rfl, rfl⟩
    | succ m =>
      have e1 : (((m + 1 : Nat)) : Int) - 1 = (m : Int) := by omega
      repeat' first
        | (simp (disch := omega) only [e1, Int.toNat_natCast, wkW, Int.reduceToNat, Int.reducePow]) | (with_reducible first | refine PW.seq ?_ | refine PW.block ?_ | refine PW.fork ?_ | refine PW.skip ?_ | refine PW.exit ?_ | refine PW.ret ?_) | ((with_reducible refine PW.region ttOk ?_ ?_); rfl) | ((with_reducible refine PW.regionD ttOk mixed ?_ ?_ ?_); rfl; rfl) | (with_reducible refine ifW_dec (fun g => ?_) (fun g => ?_) <;> first | (exfalso; omega) | (simp -dsimp only [g, wkI])) | ((with_reducible first | refine condE_dec (fun g => ?_) (fun g => ?_) | refine condE_not (fun g => ?_) (fun g => ?_)) <;> try (exfalso; omega)) | (simp -dsimp only [↓wkA, ↓wkE, ↓wkJ, wkB, ↓tt, Nat.reduceBEq, Nat.reduceEqDiff, ↓reduceIte, Nat.reduceLT, Array.toList, Nat.reduceAdd, Nat.reduceMul, Int.reduceToNat, Int.reducePow, UInt8.reduceToNat]) | (simp -dsimp (disch := first | assumption | omega) only [dec_t, dec_f])
        | (refine And.intro ?_ ?_
           · first | omega | decide | (simp (disch := omega) only [wkW, Int.reduceToNat, Int.reducePow] <;> omega) | (simp <;> omega)) | (simp (disch := omega) only [wkW, Int.reduceToNat, Int.reducePow])
      · have h0 : l.getD m 0 = 0 := by assumption
        exact Again.mk m [(3, .int .i64 (m : Int)), (0, .ints .u64 l)] ⟨0, [], [], []⟩ (by omega) (Sub.norm ⟨rfl, rfl, trivial⟩ trivial (Nat.le_refl _) rfl rfl rfl rfl) ⟨by omega, by rw [← hs, sizeN, if_pos h0], rfl, rfl⟩
      · have h0 : ¬ l.getD m 0 = 0 := by assumption
        exact Meet.mk [(3, .int .i64 (size l : Int))] ⟨0, [], [], []⟩ (Sub.norm ⟨by rw [← hs, sizeN, if_neg h0]; rfl, trivial⟩ trivial (Nat.le_refl _) rfl rfl rfl rfl) ⟨rfl, rfl⟩
  rintro F H ⟨rfl, rfl⟩
  repeat' first
    | (with_reducible first | refine PW.seq ?_ | refine PW.block ?_ | refine PW.fork ?_ | refine PW.skip ?_ | refine PW.exit ?_ | refine PW.ret ?_) | ((with_reducible refine PW.region ttOk ?_ ?_); rfl) | ((with_reducible refine PW.regionD ttOk mixed ?_ ?_ ?_); rfl; rfl) | (with_reducible refine ifW_dec (fun g => ?_) (fun g => ?_) <;> first | (exfalso; omega) | (simp -dsimp only [g, wkI])) | ((with_reducible first | refine condE_dec (fun g => ?_) (fun g => ?_) | refine condE_not (fun g => ?_) (fun g => ?_)) <;> try (exfalso; omega)) | (simp -dsimp only [↓wkA, ↓wkE, ↓wkJ, wkB, ↓tt, Nat.reduceBEq, Nat.reduceEqDiff, ↓reduceIte, Nat.reduceLT, Array.toList, Nat.reduceAdd, Nat.reduceMul, Int.reduceToNat, Int.reducePow, UInt8.reduceToNat]) | (simp -dsimp (disch := first | assumption | omega) only [dec_t, dec_f])
    | (refine And.intro ?_ ?_
       · first | omega | decide | (simp (disch := omega) only [wkW, Int.reduceToNat, Int.reducePow] <;> omega) | (simp <;> omega)) | (simp (disch := omega) only [wkW, Int.reduceToNat, Int.reducePow])
theorem letter_is (u : Bool) (d : Nat) (hd : d < 36) : letter u d = if d < 10 then 48 + (d : Int) else if u then 65 + (d : Int) - 10 else 97 + (d : Int) - 10 := by
  cases u
  · exact (by decide : ∀ d : Fin 36, letter false d.val = if d.val < 10 then 48 + (d.val : Int) else if false then 65 + (d.val : Int) - 10 else 97 + (d.val : Int) - 10) ⟨d, hd⟩
  · exact (by decide : ∀ d : Fin 36, letter true d.val = if d.val < 10 then 48 + (d.val : Int) else if true then 65 + (d.val : Int) - 10 else 97 + (d.val : Int) - 10) ⟨d, hd⟩
theorem ref_digit (d : Nat) (u : Bool) (hd : d < 36) : Meets Tryz.prog 150 [.int .i64 (d : Int), .bool u] (.int .u8 (letter u d)) := by
  have hl := letter_is u d hd
  refine meets_by ttOk Tryz.func150 Tryz.ntmps150 Tryz.results150 (by kernel_rfl) (c := _) rfl rfl rfl fun E => ?_
  simp only [argsFrame]
  by_cases h : d < 10
  · rw [if_pos h] at hl
    rw [hl]
    repeat' first
      | (with_reducible first | refine PW.seq ?_ | refine PW.block ?_ | refine PW.fork ?_ | refine PW.skip ?_ | refine PW.exit ?_ | refine PW.ret ?_) | ((with_reducible refine PW.region ttOk ?_ ?_); rfl) | ((with_reducible refine PW.regionD ttOk mixed ?_ ?_ ?_); rfl; rfl) | (with_reducible refine ifW_dec (fun g => ?_) (fun g => ?_) <;> first | (exfalso; omega) | (simp -dsimp only [g, wkI])) | ((with_reducible first | refine condE_dec (fun g => ?_) (fun g => ?_) | refine condE_not (fun g => ?_) (fun g => ?_)) <;> try (exfalso; omega)) | (simp -dsimp only [↓wkA, ↓wkE, ↓wkJ, wkB, ↓tt, Nat.reduceBEq, Nat.reduceEqDiff, ↓reduceIte, Nat.reduceLT, Array.toList, Nat.reduceAdd, Nat.reduceMul, Int.reduceToNat, Int.reducePow, UInt8.reduceToNat]) | (simp -dsimp (disch := first | assumption | omega) only [dec_t, dec_f])
      | (refine And.intro ?_ ?_
         · first | omega | decide | (simp (disch := omega) only [wkW, Int.reduceToNat, Int.reducePow] <;> omega) | (simp <;> omega)) | (simp (disch := omega) only [wkW, Int.reduceToNat, Int.reducePow])
  · rw [if_neg h] at hl
    cases u with
    | true =>
      rw [if_pos rfl] at hl
      rw [hl]
      repeat' first
        | (with_reducible first | refine PW.seq ?_ | refine PW.block ?_ | refine PW.fork ?_ | refine PW.skip ?_ | refine PW.exit ?_ | refine PW.ret ?_) | ((with_reducible refine PW.region ttOk ?_ ?_); rfl) | ((with_reducible refine PW.regionD ttOk mixed ?_ ?_ ?_); rfl; rfl) | (with_reducible refine ifW_dec (fun g => ?_) (fun g => ?_) <;> first | (exfalso; omega) | (simp -dsimp only [g, wkI])) | ((with_reducible first | refine condE_dec (fun g => ?_) (fun g => ?_) | refine condE_not (fun g => ?_) (fun g => ?_)) <;> try (exfalso; omega)) | (simp -dsimp only [↓wkA, ↓wkE, ↓wkJ, wkB, ↓tt, Nat.reduceBEq, Nat.reduceEqDiff, ↓reduceIte, Nat.reduceLT, Array.toList, Nat.reduceAdd, Nat.reduceMul, Int.reduceToNat, Int.reducePow, UInt8.reduceToNat]) | (simp -dsimp (disch := first | assumption | omega) only [dec_t, dec_f])
        | (refine And.intro ?_ ?_
           · first | omega | decide | (simp (disch := omega) only [wkW, Int.reduceToNat, Int.reducePow] <;> omega) | (simp <;> omega)) | (simp (disch := omega) only [wkW, Int.reduceToNat, Int.reducePow])
    | false =>
      rw [if_neg (by simp)] at hl
      rw [hl]
      repeat' first
        | (with_reducible first | refine PW.seq ?_ | refine PW.block ?_ | refine PW.fork ?_ | refine PW.skip ?_ | refine PW.exit ?_ | refine PW.ret ?_) | ((with_reducible refine PW.region ttOk ?_ ?_); rfl) | ((with_reducible refine PW.regionD ttOk mixed ?_ ?_ ?_); rfl; rfl) | (with_reducible refine ifW_dec (fun g => ?_) (fun g => ?_) <;> first | (exfalso; omega) | (simp -dsimp only [g, wkI])) | ((with_reducible first | refine condE_dec (fun g => ?_) (fun g => ?_) | refine condE_not (fun g => ?_) (fun g => ?_)) <;> try (exfalso; omega)) | (simp -dsimp only [↓wkA, ↓wkE, ↓wkJ, wkB, ↓tt, Nat.reduceBEq, Nat.reduceEqDiff, ↓reduceIte, Nat.reduceLT, Array.toList, Nat.reduceAdd, Nat.reduceMul, Int.reduceToNat, Int.reducePow, UInt8.reduceToNat]) | (simp -dsimp (disch := first | assumption | omega) only [dec_t, dec_f])
        | (refine And.intro ?_ ?_
           · first | omega | decide | (simp (disch := omega) only [wkW, Int.reduceToNat, Int.reducePow] <;> omega) | (simp <;> omega)) | (simp (disch := omega) only [wkW, Int.reduceToNat, Int.reducePow])
def toI (l : List Nat) : List Int := l.map fun d : Nat => (d : Int)
theorem toI_len (l : List Nat) : (toI l).length = l.length := List.length_map ..
theorem toI_cons (d : Nat) (l : List Nat) : toI (d :: l) = (d : Int) :: toI l := rfl
theorem times_step {p hi c : Nat} (hp : 2 ≤ p) (h : hi ≠ 0) : digs p (hi * 4294967296 + c) = ((hi % p * 4294967296 + c) % p) :: digs p (hi / p * 4294967296 + (hi % p * 4294967296 + c) / p) := by
  have e : hi * 4294967296 + c = (hi % p * 4294967296 + c) + p * (hi / p * 4294967296) := by
    have := Nat.mod_add_div hi p
    calc hi * 4294967296 + c = (hi % p + p * (hi / p)) * 4294967296 + c := by rw [this]
      _ = _ := by grind
  rw [digs_step hp (by omega), e, Nat.add_mul_mod_self_left, Nat.add_mul_div_left _ _ (by omega), Nat.add_comm (_ / p)]
theorem digs_mono {b : Nat} (hb : 2 ≤ b) : ∀ v u, v ≤ u → (digs b v).length ≤ (digs b u).length := by
  intro v
  induction v using Nat.strongRecOn with
  | _ v ih =>
    intro u hu
    by_cases h0 : v = 0
    · subst h0; simp [digs_zero]
    · rw [digs_step hb h0, digs_step hb (show u ≠ 0 by omega), List.length_cons, List.length_cons]
      have := ih (v / b) (Nat.div_lt_self (by omega) (by omega)) (u / b) (Nat.div_le_div_right hu)
      omega
theorem set_mid (a : List Int) (x y : Int) (b : List Int) : (a ++ x :: b).set a.length y = (a ++ [y]) ++ b := by
  rw [List.set_append]; simp
theorem get_mid (a : List Int) (x : Int) (b : List Int) : (a ++ x :: b).getD a.length 0 = x := by
  simp [List.getD_eq_getElem?_getD]
def TI (p : Nat) (R : List Int) (m : Nat) (F : PV.Frame) (H : PV.Heap) : Prop :=
  ∃ (done : List Int) (hi c : Nat), done ++ toI (digs p (hi * 4294967296 + c)) = R ∧ c < 4294967296 ∧ (digs p hi).length = m ∧
    F = [(7, .int .i64 (done.length : Int)), (0, .sl 0 0 (done ++ toI (digs p hi)).length true), (1, .int .u64 (c : Int)), (2, .int .u64 (p : Int))] ∧ H = ⟨1, [(0, .ints .u64 (done ++ toI (digs p hi)))], [], []⟩
def TJ (p : Nat) (R : List Int) (m : Nat) (F : PV.Frame) (H : PV.Heap) : Prop :=
  ∃ (done : List Int), done ++ toI (digs p m) = R ∧ m < 4294967296 ∧
    F = [(0, .sl 0 0 done.length true), (1, .int .u64 (m : Int)), (2, .int .u64 (p : Int))] ∧ H = ⟨1, [(0, .ints .u64 done)], [], []⟩
theorem ref_times (p V c : Nat) (hp : 2 ≤ p ∧ p ≤ 2147483648) (hc : c < 4294967296) (R : List Int) (hR : toI (digs p (V * 4294967296 + c)) = R) (hRl : R.length ≤ 1000000) :
    HMeets Tryz.prog 149 [.sl 0 0 (toI (digs p V)).length true, .int .u64 (c : Int), .int .u64 (p : Int)] ⟨1, [(0, .ints .u64 (toI (digs p V)))], [], []⟩ fun res H' => ∃ l', l' = R ∧ res = .sl 0 0 l'.length true ∧ H'.get 0 = some (.ints .u64 l') := by
  refine hmeets_by ttOk Tryz.func149 Tryz.ntmps149 Tryz.results149 (by kernel_rfl) (c := _) rfl rfl fun E => ?_
  simp only [argsFrame]
  have hp0 : (0 : Int) ≤ (p : Int) := by omega
  repeat' first
    | (with_reducible first | refine PW.seq ?_ | refine PW.block ?_ | refine PW.fork ?_ | refine PW.skip ?_ | refine PW.exit ?_ | refine PW.ret ?_) | ((with_reducible refine PW.region ttOk ?_ ?_); rfl) | ((with_reducible refine PW.regionD ttOk mixed ?_ ?_ ?_); rfl; rfl) | (with_reducible refine ifW_dec (fun g => ?_) (fun g => ?_) <;> first | (exfalso; omega) | (simp -dsimp only [g, wkI])) | ((with_reducible first | refine condE_dec (fun g => ?_) (fun g => ?_) | refine condE_not (fun g => ?_) (fun g => ?_)) <;> try (exfalso; omega)) | (simp -dsimp only [↓wkA, ↓wkE, ↓wkJ, wkB, ↓tt, Nat.reduceBEq, Nat.reduceEqDiff, ↓reduceIte, Nat.reduceLT, Array.toList, Nat.reduceAdd, Nat.reduceMul, Int.reduceToNat, Int.reducePow, UInt8.reduceToNat]) | (simp -dsimp (disch := first | assumption | omega) only [dec_t, dec_f])
    | (refine And.intro ?_ ?_
       · first | omega | decide | (simp (disch := omega) only [wkW, Int.reduceToNat, Int.reducePow] <;> omega) | (simp <;> omega)) | (simp (disch := omega) only [wkW, Int.reduceToNat, Int.reducePow])
  refine PW.meetB (fun F H => ∃ m, TJ p R m F H) ?_ ?_
  · have h0 : TI p R (digs p V).length [(7, .int .i64 (0 : Int)), (0, .sl 0 0 (toI (digs p V)).length true), (1, .int .u64 (c : Int)), (2, .int .u64 (p : Int))] ⟨1, [(0, .ints .u64 (toI (digs p V)))], [], []⟩ :=
      ⟨[], V, c, by rw [List.nil_append]; exact hR, hc, rfl, by rw [List.nil_append]; rfl, by rw [List.nil_append]⟩
    generalize toI (digs p V) = D at *
    refine PW.loopA (TI p R) (digs p V).length [(7, .int .i64 (0 : Int)), (0, .sl 0 0 D.length true), (1, .int .u64 (c : Int)), (2, .int .u64 (p : Int))] ⟨1, [(0, .ints .u64 D)], [], []⟩ (Sub.norm ⟨rfl, rfl, rfl, rfl, trivial⟩ ⟨rfl, trivial⟩ (Nat.le_refl _) rfl rfl rfl rfl) h0 ?_
    clear h0 hR hc
    rintro m F H ⟨done, hi, c, hR, hc, hm, rfl, rfl⟩
    have hdl : done.length ≤ 1000000 := by rw [← hR, List.length_append] at hRl; omega
    by_cases h0 : hi = 0
    · subst h0
      simp only [digs_zero, toI, List.map_nil, List.append_nil, Nat.zero_mul, Nat.zero_add] at hR ⊢
      repeat' first
        | (with_reducible first | refine PW.seq ?_ | refine PW.block ?_ | refine PW.fork ?_ | refine PW.skip ?_ | refine PW.exit ?_ | refine PW.ret ?_) | ((with_reducible refine PW.region ttOk ?_ ?_); rfl) | ((with_reducible refine PW.regionD ttOk mixed ?_ ?_ ?_); rfl; rfl) | (with_reducible refine ifW_dec (fun g => ?_) (fun g => ?_) <;> first | (exfalso; omega) | (simp -dsimp only [g, wkI])) | ((with_reducible first | refine condE_dec (fun g => ?_) (fun g => ?_) | refine condE_not (fun g => ?_) (fun g => ?_)) <;> try (exfalso; omega)) | (simp -dsimp only [↓wkA, ↓wkE, ↓wkJ, wkB, ↓tt, Nat.reduceBEq, Nat.reduceEqDiff, ↓reduceIte, Nat.reduceLT, Array.toList, Nat.reduceAdd, Nat.reduceMul, Int.reduceToNat, Int.reducePow, UInt8.reduceToNat]) | (simp -dsimp (disch := first | assumption | omega) only [dec_t, dec_f])
        | (refine And.intro ?_ ?_
           · first | omega | decide | (simp (disch := omega) only [wkW, Int.reduceToNat, Int.reducePow] <;> omega) | (simp <;> omega)) | (simp (disch := omega) only [wkW, Int.reduceToNat, Int.reducePow])
      exact Meet.mk [(0, .sl 0 0 done.length true), (1, .int .u64 (c : Int)), (2, .int .u64 (p : Int))] ⟨1, [(0, .ints .u64 done)], [], []⟩ (Sub.norm ⟨rfl, rfl, rfl, trivial⟩ ⟨rfl, trivial⟩ (Nat.le_refl _) rfl rfl rfl rfl) ⟨c, done, hR, hc, rfl, rfl⟩
    · rw [times_step hp.1 h0, toI_cons] at hR
      have hd := digs_step hp.1 h0
      rw [hd, List.length_cons] at hm
      rw [hd, toI_cons]
      have hmod := Nat.mod_lt hi (show p > 0 by omega)
      have htb : hi % p * 4294967296 + c < p * 4294967296 := by
        have : (hi % p + 1) * 4294967296 ≤ p * 4294967296 := Nat.mul_le_mul_right _ hmod
        omega
      have hcar : (hi % p * 4294967296 + c) / p < 4294967296 := Nat.div_lt_of_lt_mul htb
      have hx : ((hi % p : Nat) : Int) * 4294967296 + (c : Int) = ((hi % p * 4294967296 + c : Nat) : Int) := by simp
      have hx1 : ((hi % p * 4294967296 + c : Nat) : Int) % (p : Int) = (((hi % p * 4294967296 + c) % p : Nat) : Int) := (Int.natCast_emod _ _).symm
      have hq1 : ((hi % p * 4294967296 + c : Nat) : Int) / (p : Int) = (((hi % p * 4294967296 + c) / p : Nat) : Int) := (Int.natCast_ediv _ _).symm
      have hxlt := Nat.mod_lt (hi % p * 4294967296 + c) (show p > 0 by omega)
      obtain ⟨h2, hh2⟩ : ∃ h2, hi / p = h2 := ⟨_, rfl⟩
      obtain ⟨d, hd0⟩ : ∃ d, hi % p = d := ⟨_, rfl⟩
      obtain ⟨t, ht0⟩ : ∃ t, d * 4294967296 + c = t := ⟨_, rfl⟩
      simp only [hd0, hh2, ht0] at hR hmod htb hcar hx hx1 hq1 hxlt hm ⊢
      obtain ⟨q, hq0⟩ : ∃ q, t / p = q := ⟨_, rfl⟩
      obtain ⟨x, hx0⟩ : ∃ x, t % p = x := ⟨_, rfl⟩
      simp only [hq0, hx0] at hR hcar hx1 hq1 hxlt
      have hget := get_mid done (d : Int) (toI (digs p h2))
      have hset := set_mid done (d : Int) (x : Int) (toI (digs p h2))
      have hlen : (done ++ (d : Int) :: toI (digs p h2)).length = (done ++ [(x : Int)] ++ toI (digs p h2)).length := by simp
      have hpos : done.length < (done ++ (d : Int) :: toI (digs p h2)).length := by simp
      have hlast : ((done ++ [(x : Int)]).length : Int) = (done.length : Int) + 1 := by simp
      have hml := digs_mono hp.1 h2 (h2 * 4294967296 + q) (by omega)
      obtain ⟨D1, hD1⟩ : ∃ D, digs p (h2 * 4294967296 + q) = D := ⟨_, rfl⟩
      rw [hD1] at hR hml
      have hL2 : (done ++ (d : Int) :: toI (digs p h2)).length ≤ 2000000 := by
        have h2 := congrArg List.length hR
        simp only [List.length_append, List.length_cons, toI_len] at h2 ⊢
        omega
      have hw : IntKind.wrap .u64 (q : Int) = (q : Int) := wrap_u64 (by omega)
      have hpd : done ++ [(x : Int)] ++ toI (digs p (h2 * 4294967296 + q)) = R := by rw [hD1, ← hR]; simp
      obtain ⟨row', hrow'⟩ : ∃ row', done ++ [(x : Int)] ++ toI (digs p h2) = row' := ⟨_, rfl⟩
      rw [hrow'] at hset hlen
      generalize done ++ (d : Int) :: toI (digs p h2) = row at *
      repeat' first
        | (simp only [Int.toNat_natCast, hget, hx, hx1, hq1, hw, hset]) | (with_reducible first | refine PW.seq ?_ | refine PW.block ?_ | refine PW.fork ?_ | refine PW.skip ?_ | refine PW.exit ?_ | refine PW.ret ?_) | ((with_reducible refine PW.region ttOk ?_ ?_); rfl) | ((with_reducible refine PW.regionD ttOk mixed ?_ ?_ ?_); rfl; rfl) | (with_reducible refine ifW_dec (fun g => ?_) (fun g => ?_) <;> first | (exfalso; omega) | (simp -dsimp only [g, wkI])) | ((with_reducible first | refine condE_dec (fun g => ?_) (fun g => ?_) | refine condE_not (fun g => ?_) (fun g => ?_)) <;> try (exfalso; omega)) | (simp -dsimp only [↓wkA, ↓wkE, ↓wkJ, wkB, ↓tt, Nat.reduceBEq, Nat.reduceEqDiff, ↓reduceIte, Nat.reduceLT, Array.toList, Nat.reduceAdd, Nat.reduceMul, Int.reduceToNat, Int.reducePow, UInt8.reduceToNat]) | (simp -dsimp (disch := first | assumption | omega) only [dec_t, dec_f])
        | (refine And.intro ?_ ?_
           · first | omega | decide | (simp (disch := omega) only [wkW, Int.reduceToNat, Int.reducePow] <;> omega) | (simp <;> omega)) | (simp (disch := omega) only [wkW, Int.reduceToNat, Int.reducePow])
      exact Again.mk (m - 1) [(7, .int .i64 ((done ++ [(x : Int)]).length : Int)), (0, .sl 0 0 ((done ++ [(x : Int)]) ++ toI (digs p h2)).length true), (1, .int .u64 (q : Int)), (2, .int .u64 (p : Int))] ⟨1, [(0, .ints .u64 ((done ++ [(x : Int)]) ++ toI (digs p h2)))], [], []⟩ (by omega) (Sub.norm ⟨congrArg (PV.int .i64) hlast.symm, congrArg (fun n => PV.sl 0 0 n true) (by rw [hrow']; exact hlen), rfl, rfl, trivial⟩ ⟨congrArg (fun l => some (PV.Row.ints .u64 l)) hrow'.symm, trivial⟩ (Nat.le_refl _) rfl rfl rfl rfl) ⟨_, h2, q, hpd, hcar, by omega, rfl, rfl⟩
  · rintro F H ⟨m, done, hR, hm, rfl, rfl⟩
    repeat' first
      | (with_reducible first | refine PW.seq ?_ | refine PW.block ?_ | refine PW.fork ?_ | refine PW.skip ?_ | refine PW.exit ?_ | refine PW.ret ?_) | ((with_reducible refine PW.region ttOk ?_ ?_); rfl) | ((with_reducible refine PW.regionD ttOk mixed ?_ ?_ ?_); rfl; rfl) | (with_reducible refine ifW_dec (fun g => ?_) (fun g => ?_) <;> first | (exfalso; omega) | (simp -dsimp only [g, wkI])) | ((with_reducible first | refine condE_dec (fun g => ?_) (fun g => ?_) | refine condE_not (fun g => ?_) (fun g => ?_)) <;> try (exfalso; omega)) | (simp -dsimp only [↓wkA, ↓wkE, ↓wkJ, wkB, ↓tt, Nat.reduceBEq, Nat.reduceEqDiff, ↓reduceIte, Nat.reduceLT, Array.toList, Nat.reduceAdd, Nat.reduceMul, Int.reduceToNat, Int.reducePow, UInt8.reduceToNat]) | (simp -dsimp (disch := first | assumption | omega) only [dec_t, dec_f])
      | (refine And.intro ?_ ?_
         · first | omega | decide | (simp (disch := omega) only [wkW, Int.reduceToNat, Int.reducePow] <;> omega) | (simp <;> omega)) | (simp (disch := omega) only [wkW, Int.reduceToNat, Int.reducePow])
    refine PW.loopA (TJ p R) m [(0, .sl 0 0 done.length true), (1, .int .u64 (m : Int)), (2, .int .u64 (p : Int))] ⟨1, [(0, .ints .u64 done)], [], []⟩ (Sub.refl _ _ _ _) ⟨done, hR, hm, rfl, rfl⟩ ?_
    clear hR hm
    rintro m F H ⟨done, hR, hm, rfl, rfl⟩
    have hdl : done.length ≤ 1000000 := by rw [← hR, List.length_append] at hRl; omega
    by_cases h0 : m = 0
    · subst h0
      simp only [digs_zero, toI, List.map_nil, List.append_nil] at hR
      repeat' first
        | (with_reducible first | refine PW.seq ?_ | refine PW.block ?_ | refine PW.fork ?_ | refine PW.skip ?_ | refine PW.exit ?_ | refine PW.ret ?_) | ((with_reducible refine PW.region ttOk ?_ ?_); rfl) | ((with_reducible refine PW.regionD ttOk mixed ?_ ?_ ?_); rfl; rfl) | (with_reducible refine ifW_dec (fun g => ?_) (fun g => ?_) <;> first | (exfalso; omega) | (simp -dsimp only [g, wkI])) | ((with_reducible first | refine condE_dec (fun g => ?_) (fun g => ?_) | refine condE_not (fun g => ?_) (fun g => ?_)) <;> try (exfalso; omega)) | (simp -dsimp only [↓wkA, ↓wkE, ↓wkJ, wkB, ↓tt, Nat.reduceBEq, Nat.reduceEqDiff, ↓reduceIte, Nat.reduceLT, Array.toList, Nat.reduceAdd, Nat.reduceMul, Int.reduceToNat, Int.reducePow, UInt8.reduceToNat]) | (simp -dsimp (disch := first | assumption | omega) only [dec_t, dec_f])
        | (refine And.intro ?_ ?_
           · first | omega | decide | (simp (disch := omega) only [wkW, Int.reduceToNat, Int.reducePow] <;> omega) | (simp <;> omega)) | (simp (disch := omega) only [wkW, Int.reduceToNat, Int.reducePow])
      exact ⟨done, hR, rfl, rfl⟩
    · rw [digs_step hp.1 h0, toI_cons] at hR
      have hx1 : (m : Int) % (p : Int) = ((m % p : Nat) : Int) := (Int.natCast_emod _ _).symm
      have hq1 : (m : Int) / (p : Int) = ((m / p : Nat) : Int) := (Int.natCast_ediv _ _).symm
      have hlt := Nat.div_lt_self (show 0 < m by omega) (show 1 < p by omega)
      have hxlt := Nat.mod_lt m (show p > 0 by omega)
      obtain ⟨q, hq0⟩ : ∃ q, m / p = q := ⟨_, rfl⟩
      obtain ⟨x, hx0⟩ : ∃ x, m % p = x := ⟨_, rfl⟩
      simp only [hq0, hx0] at hR hx1 hq1 hxlt hlt
      have hw : IntKind.wrap .u64 (q : Int) = (q : Int) := wrap_u64 (by omega)
      have hpd : done ++ [(x : Int)] ++ toI (digs p q) = R := by rw [← hR]; simp
      have hl1 : (done ++ [(x : Int)]).length = done.length + 1 := by simp
      repeat' first
        | (simp only [hx1, hq1, hw]) | (with_reducible first | refine PW.seq ?_ | refine PW.block ?_ | refine PW.fork ?_ | refine PW.skip ?_ | refine PW.exit ?_ | refine PW.ret ?_) | ((with_reducible refine PW.region ttOk ?_ ?_); rfl) | ((with_reducible refine PW.regionD ttOk mixed ?_ ?_ ?_); rfl; rfl) | (with_reducible refine ifW_dec (fun g => ?_) (fun g => ?_) <;> first | (exfalso; omega) | (simp -dsimp only [g, wkI])) | ((with_reducible first | refine condE_dec (fun g => ?_) (fun g => ?_) | refine condE_not (fun g => ?_) (fun g => ?_)) <;> try (exfalso; omega)) | (simp -dsimp only [↓wkA, ↓wkE, ↓wkJ, wkB, ↓tt, Nat.reduceBEq, Nat.reduceEqDiff, ↓reduceIte, Nat.reduceLT, Array.toList, Nat.reduceAdd, Nat.reduceMul, Int.reduceToNat, Int.reducePow, UInt8.reduceToNat]) | (simp -dsimp (disch := first | assumption | omega) only [dec_t, dec_f])
        | (refine And.intro ?_ ?_
           · first | omega | decide | (simp (disch := omega) only [wkW, Int.reduceToNat, Int.reducePow] <;> omega) | (simp <;> omega)) | (simp (disch := omega) only [wkW, Int.reduceToNat, Int.reducePow])
      exact Again.mk q [(0, .sl 0 0 (done ++ [(x : Int)]).length true), (1, .int .u64 (q : Int)), (2, .int .u64 (p : Int))] ⟨1, [(0, .ints .u64 (done ++ [(x : Int)]))], [], []⟩ hlt (Sub.norm ⟨congrArg (fun n => PV.sl 0 0 n true) hl1.symm, rfl, rfl, trivial⟩ ⟨rfl, trivial⟩ (by simp) rfl rfl rfl rfl) ⟨_, hpd, by omega, rfl, rfl⟩
theorem and_low32 (x : Nat) (h : x < 18446744073709551616) : ibits .and .u64 (x : Int) 4294967295 = ((x % 4294967296 : Nat) : Int) := by
  have e1 : (BitVec.ofInt 64 (x : Int)).toNat = x := by
    rw [BitVec.toNat_ofInt]; omega
  have e2 : (BitVec.ofInt 64 (4294967295 : Int)).toNat = 2 ^ 32 - 1 := by decide
  have e : (BitVec.ofInt 64 (x : Int) &&& BitVec.ofInt 64 (4294967295 : Int)).toNat = x % 2 ^ 32 := by
    rw [BitVec.toNat_and, e1, e2, Nat.and_two_pow_sub_one_eq_mod]
  show IntKind.wrap .u64 ((BitVec.ofInt 64 (x : Int) &&& BitVec.ofInt 64 (4294967295 : Int)).toNat : Int) = _
  rw [e]
  have := Nat.mod_lt x (show 2 ^ 32 > 0 by decide)
  exact wrap_u64 (by omega)
def inBaseA (a : List Int) (base : Int) (u : Bool) : PV :=
  if 4096 < size a then .tup [.str [], .int .i64 2] else if base < 2 ∨ 36 < base then .tup [.str [], .int .i64 32] else .tup [.str (written base.toNat u (val a).toNat), .int .i64 0]
theorem low_le {V y z A : Nat} (h : (V * 4294967296 + y) * 4294967296 + z ≤ A) : V * 4294967296 + y ≤ A ∧ V ≤ A := by omega
abbrev gfA (a : List Int) (b k : Nat) (u : Bool) (m : Nat) (D : List Int) : PV.Frame := [(12, .int .i64 ((m : Int) - 1)), (11, .sl 0 0 D.length true), (10, .int .u64 ((b ^ k : Nat) : Int)), (9, .int .i64 (k : Int)), (0, .ints .u64 a), (1, .int .i64 (b : Int)), (2, .bool u)]
def GA (a : List Int) (b k n : Nat) (u : Bool) (m : Nat) (F : PV.Frame) (H : PV.Heap) : Prop :=
  ∃ (V : Nat) (D : List Int), m ≤ n ∧ vt a n = vt a m + B64 ^ m * (V : Int) ∧ D = toI (digs (b ^ k) V) ∧ F = gfA a b k u m D ∧ H = ⟨1, [(0, .ints .u64 D)], [], []⟩
abbrev gfB (b k : Nat) (u : Bool) (i : Nat) (D back : List Int) : PV.Frame := [(14, .int .i64 (i : Int)), (13, .sl 1 0 back.length true), (11, .sl 0 0 D.length true), (9, .int .i64 (k : Int)), (1, .int .i64 (b : Int)), (2, .bool u)]
abbrev ghB (D back : List Int) : PV.Heap := ⟨2, [(0, .ints .u64 D), (1, .ints .u8 back)], [], []⟩
def GB (b k : Nat) (u : Bool) (G : List Nat) (D RB : List Int) (m : Nat) (F : PV.Frame) (H : PV.Heap) : Prop :=
  ∃ (i : Nat) (back : List Int), i + m = G.length ∧ back ++ lets u (flat b k (G.drop i)) = RB ∧ F = gfB b k u i D back ∧ H = ghB D back
def GC (b k : Nat) (u : Bool) (i : Nat) (T D RB : List Int) (m : Nat) (F : PV.Frame) (H : PV.Heap) : Prop :=
  ∃ (j g : Nat) (back : List Int), j + m = k ∧ g < 2147483648 ∧ back ++ (lets u (pad b m g) ++ T) = RB ∧ F = (16, .int .i64 (j : Int)) :: (15, .int .u64 (g : Int)) :: gfB b k u i D back ∧ H = ghB D back
def GD (L z : Nat) (RB : List Int) (m : Nat) (F : PV.Frame) (H : PV.Heap) : Prop :=
  m ≤ z ∧ F = [(17, .int .i64 ((L + m : Nat) : Int)), (13, .sl 1 0 RB.length true)] ∧ H = ⟨2, [(1, .ints .u8 RB)], [], []⟩
abbrev gfE (RB : List Int) (m : Nat) (out : List Int) : PV.Frame := [(19, .int .i64 ((m : Int) - 1)), (18, .sl 2 0 out.length true), (13, .sl 1 0 RB.length true)]
abbrev ghE (RB out : List Int) : PV.Heap := ⟨3, [(1, .ints .u8 RB), (2, .ints .u8 out)], [], []⟩
def GE (L : Nat) (RB T : List Int) (m : Nat) (F : PV.Frame) (H : PV.Heap) : Prop :=
  ∃ out : List Int, m ≤ L ∧ out ++ (T.take m).reverse = T.reverse ∧ F = gfE RB m out ∧ H = ghE RB out
set_option exponentiation.threshold 300000 in
set_option maxHeartbeats 2000000 in
theorem ref_in_base_main (a : List Int) (ha : Limbs a) (hla : a.length ≤ 17592186043904) (b : Nat) (hb : 2 ≤ b ∧ b ≤ 36) (u : Bool) (h1 : size a ≤ 4096) :
    Meets Tryz.prog 114 [.ints .u64 a, .int .i64 (b : Int), .bool u] (.tup [.str (written b u (val a).toNat), .int .i64 0]) := by
  obtain ⟨k, hk1, hk2, hk3, hk4, hk5⟩ := group_ex b hb
  have hgr := ref_group b k hb hk1 hk2 hk3 hk4 hk5
  have hlm := ref_limbs a hla
  have hp2 : 2 ≤ b ^ k := Nat.le_trans hb.1 (by simpa using Nat.pow_le_pow_right (show 0 < b by omega) hk1)
  have hsa := size_le a
  have hvn := val_nonneg ha
  have hvl := val_small ha h1
  rw [pow4096] at hvl
  have hVlt : (val a).toNat < 2 ^ 262144 := by omega
  have hvs := vt_size a
  refine meets_by ttOk Tryz.func114 Tryz.ntmps114 Tryz.results114 (by kernel_rfl) (c := _) rfl rfl rfl fun E => ?_
  simp only [argsFrame]
  repeat' first
    | (with_reducible first | refine PW.seq ?_ | refine PW.block ?_ | refine PW.fork ?_ | refine PW.skip ?_ | refine PW.exit ?_ | refine PW.ret ?_) | ((with_reducible refine PW.region ttOk ?_ ?_); rfl) | ((with_reducible refine PW.regionD ttOk mixed ?_ ?_ ?_); rfl; rfl) | (with_reducible refine ifW_dec (fun g => ?_) (fun g => ?_) <;> first | (exfalso; omega) | (simp -dsimp only [g, wkI])) | ((with_reducible first | refine condE_dec (fun g => ?_) (fun g => ?_) | refine condE_not (fun g => ?_) (fun g => ?_)) <;> try (exfalso; omega)) | (simp -dsimp only [↓wkA, ↓wkE, ↓wkJ, wkB, ↓tt, Nat.reduceBEq, Nat.reduceEqDiff, ↓reduceIte, Nat.reduceLT, Array.toList, Nat.reduceAdd, Nat.reduceMul, Int.reduceToNat, Int.reducePow, UInt8.reduceToNat]) | (refine call_by hlm (views_data rfl) ⟨trivial, trivial⟩ rfl ?_) | (refine call_by hgr (views_data rfl) ⟨trivial, trivial⟩ rfl ?_) | (simp -dsimp (disch := first | assumption | omega) only [dec_t, dec_f])
    | (refine And.intro ?_ ?_
       · first | omega | decide | (simp (disch := omega) only [wkW, Int.reduceToNat, Int.reducePow] <;> omega) | (simp <;> omega)) | (simp (disch := omega) only [wkW, Int.reduceToNat, Int.reducePow])
  obtain ⟨A, hA⟩ : ∃ A, (val a).toNat = A := ⟨_, rfl⟩
  rw [hA] at hVlt ⊢
  obtain ⟨G, hG⟩ : ∃ G, digs (b ^ k) A = G := ⟨_, rfl⟩
  have hlenle : ∀ v, v ≤ A → (digs (b ^ k) v).length ≤ 262144 := fun v hv => digs_len hp2 262144 v (Nat.lt_of_le_of_lt hv hVlt)
  have hGl : G.length ≤ 262144 := by rw [← hG]; exact hlenle A (Nat.le_refl _)
  have hbl : (digs b A).length ≤ 262144 := digs_len hb.1 262144 A hVlt
  clear hVlt hvl
  refine PW.meetB (fun F H => F = [(11, .sl 0 0 (toI G).length true), (9, .int .i64 (k : Int)), (1, .int .i64 (b : Int)), (2, .bool u)] ∧ H = ⟨1, [(0, .ints .u64 (toI G))], [], []⟩) ?_ ?_
  · refine PW.loopA (GA a b k (size a) u) (size a) (gfA a b k u (size a) []) ⟨1, [(0, .ints .u64 [])], [], []⟩ (Sub.norm ⟨rfl, rfl, rfl, rfl, rfl, rfl, rfl, trivial⟩ ⟨rfl, trivial⟩ (Nat.le_refl _) rfl rfl rfl rfl) ⟨0, [], Nat.le_refl _, by simp, by rw [digs_zero]; rfl, rfl, rfl⟩ ?_
    rintro m F H ⟨V, D, hm, hV, hD, rfl, rfl⟩
    cases m with
    | zero =>
      have hVA : V = A := by
        have h0 : vt a 0 = 0 := rfl
        rw [h0, hvs] at hV
        simp at hV
        omega
      have hDG : D = toI G := by rw [hD, hVA, hG]
      repeat' first
        | (with_reducible first | refine PW.seq ?_ | refine PW.block ?_ | refine PW.fork ?_ | refine PW.skip ?_ | refine PW.exit ?_ | refine PW.ret ?_) | ((with_reducible refine PW.region ttOk ?_ ?_); rfl) | ((with_reducible refine PW.regionD ttOk mixed ?_ ?_ ?_); rfl; rfl) | (with_reducible refine ifW_dec (fun g => ?_) (fun g => ?_) <;> first | (exfalso; omega) | (simp -dsimp only [g, wkI])) | ((with_reducible first | refine condE_dec (fun g => ?_) (fun g => ?_) | refine condE_not (fun g => ?_) (fun g => ?_)) <;> try (exfalso; omega)) | (simp -dsimp only [↓wkA, ↓wkE, ↓wkJ, wkB, ↓tt, Nat.reduceBEq, Nat.reduceEqDiff, ↓reduceIte, Nat.reduceLT, Array.toList, Nat.reduceAdd, Nat.reduceMul, Int.reduceToNat, Int.reducePow, UInt8.reduceToNat]) | (simp -dsimp (disch := first | assumption | omega) only [dec_t, dec_f])
        | (refine And.intro ?_ ?_
           · first | omega | decide | (simp (disch := omega) only [wkW, Int.reduceToNat, Int.reducePow] <;> omega) | (simp <;> omega)) | (simp (disch := omega) only [wkW, Int.reduceToNat, Int.reducePow])
      exact Meet.mk [(11, .sl 0 0 (toI G).length true), (9, .int .i64 (k : Int)), (1, .int .i64 (b : Int)), (2, .bool u)] ⟨1, [(0, .ints .u64 (toI G))], [], []⟩ (Sub.norm ⟨by rw [← hDG]; rfl, rfl, rfl, rfl, trivial⟩ ⟨by rw [← hDG]; rfl, trivial⟩ (Nat.le_refl _) rfl rfl rfl rfl) ⟨rfl, rfl⟩
    | succ m =>
      have e : (((m + 1 : Nat)) : Int) - 1 = (m : Int) := by omega
      obtain ⟨hx0, hx1⟩ := getD_limb ha m
      obtain ⟨x, hx⟩ := Int.eq_ofNat_of_zero_le hx0
      rw [hx] at hx1
      simp only [B64] at hx1
      have hV2 : vt a (size a) = vt a m + B64 ^ m * (((V * 4294967296 + x / 4294967296) * 4294967296 + x % 4294967296 : Nat) : Int) := by
        have e1 : (V * 4294967296 + x / 4294967296) * 4294967296 + x % 4294967296 = V * 18446744073709551616 + x := by omega
        rw [e1, hV]
        simp only [vt, hx, Int.pow_succ]
        simp only [Int.natCast_add, Int.natCast_mul]
        rw [show ((18446744073709551616 : Nat) : Int) = B64 from rfl]
        grind
      have hbound : (V * 4294967296 + x / 4294967296) * 4294967296 + x % 4294967296 ≤ A := by
        have h3 := vt_bound ha m
        have h4 := pow_pos64 m
        rw [hvs] at hV2
        generalize (V * 4294967296 + x / 4294967296) * 4294967296 + x % 4294967296 = W at *
        have : (W : Int) ≤ B64 ^ m * (W : Int) := by
          have := Int.mul_le_mul_of_nonneg_right (show 1 ≤ B64 ^ m by omega) (show (0 : Int) ≤ (W : Int) by omega)
          omega
        omega
      clear hV
      obtain ⟨hb1, hb0⟩ := low_le hbound
      have hh : x / 4294967296 < 4294967296 := by omega
      have hl : x % 4294967296 < 4294967296 := by omega
      have hshr0 : ((x : Int)).fdiv 4294967296 = ((x / 4294967296 : Nat) : Int) := by rw [fdiv_pos (by decide)]; omega
      have hshr : (x : Int) / 4294967296 = ((x / 4294967296 : Nat) : Int) := by omega
      have hand := and_low32 x (by omega)
      obtain ⟨xh, hxh⟩ : ∃ h, x / 4294967296 = h := ⟨_, rfl⟩
      obtain ⟨xl, hxl⟩ : ∃ h, x % 4294967296 = h := ⟨_, rfl⟩
      simp only [hxh, hxl] at *
      have t1 := fun D1 hD1 hl1 => ref_times (b ^ k) V xh ⟨hp2, by omega⟩ hh D1 hD1 hl1
      have t2 := fun D1 hD1 hl1 => ref_times (b ^ k) (V * 4294967296 + xh) xl ⟨hp2, by omega⟩ hl D1 hD1 hl1
      obtain ⟨W1, hW1⟩ : ∃ W1, V * 4294967296 + xh = W1 := ⟨_, rfl⟩
      simp only [hW1] at t1 t2 hb1 hbound hV2
      obtain ⟨W2, hW2⟩ : ∃ W2, W1 * 4294967296 + xl = W2 := ⟨_, rfl⟩
      simp only [hW2] at t2 hbound hV2
      clear hW1 hW2
      obtain ⟨D1, hD1⟩ : ∃ D1, toI (digs (b ^ k) W1) = D1 := ⟨_, rfl⟩
      obtain ⟨D2, hD2⟩ : ∃ D2, toI (digs (b ^ k) W2) = D2 := ⟨_, rfl⟩
      have hD1l : D1.length ≤ 1000000 := by
        rw [← hD1, toI_len]
        have := hlenle W1 hb1
        omega
      have hD2l : D2.length ≤ 1000000 := by
        rw [← hD2, toI_len]
        have := hlenle W2 hbound
        omega
      have t1 := t1 D1 hD1 hD1l
      have t2 := t2 D2 hD2 hD2l
      rw [← hD] at t1
      rw [hD1] at t2
      have hDl : D.length ≤ 1000000 := by
        rw [hD, toI_len]
        have := hlenle V hb0
        omega
      repeat' first
        | (simp only [e, Int.toNat_natCast, hx, hshr0, hshr, hand]) | (with_reducible first | refine PW.seq ?_ | refine PW.block ?_ | refine PW.fork ?_ | refine PW.skip ?_ | refine PW.exit ?_ | refine PW.ret ?_) | ((with_reducible refine PW.region ttOk ?_ ?_); rfl) | ((with_reducible refine PW.regionD ttOk mixed ?_ ?_ ?_); rfl; rfl) | (with_reducible refine ifW_dec (fun g => ?_) (fun g => ?_) <;> first | (exfalso; omega) | (simp -dsimp only [g, wkI])) | ((with_reducible first | refine condE_dec (fun g => ?_) (fun g => ?_) | refine condE_not (fun g => ?_) (fun g => ?_)) <;> try (exfalso; omega)) | (simp -dsimp only [↓wkA, ↓wkE, ↓wkJ, wkB, ↓tt, Nat.reduceBEq, Nat.reduceEqDiff, ↓reduceIte, Nat.reduceLT, Array.toList, Nat.reduceAdd, Nat.reduceMul, Int.reduceToNat, Int.reducePow, UInt8.reduceToNat]) | (refine call_h (row_call t1 rfl rfl rfl) (fun res H' hR => ?_); obtain ⟨l', rfl, rfl, rfl⟩ := hR; refine ⟨_, _, rfl, ?_⟩) | (refine call_h (row_call t2 rfl rfl rfl) (fun res H' hR => ?_); obtain ⟨l', rfl, rfl, rfl⟩ := hR; refine ⟨_, _, rfl, ?_⟩) | (simp -dsimp (disch := first | assumption | omega) only [dec_t, dec_f])
        | (refine And.intro ?_ ?_
           · first | omega | decide | (simp (disch := omega) only [wkW, Int.reduceToNat, Int.reducePow] <;> omega) | (simp <;> omega)) | (simp (disch := omega) only [wkW, Int.reduceToNat, Int.reducePow])
      exact Again.mk m (gfA a b k u m l') ⟨1, [(0, .ints .u64 l')], [], []⟩ (by omega) (Sub.norm ⟨rfl, rfl, rfl, rfl, rfl, rfl, rfl, trivial⟩ ⟨rfl, trivial⟩ (Nat.le_refl _) rfl rfl rfl rfl) ⟨W2, l', by omega, hV2, hD2.symm, rfl, rfl⟩
  · rintro F H ⟨rfl, rfl⟩
    have hGp : ∀ g ∈ G, g < b ^ k := by rw [← hG]; exact digs_lt hp2 A
    obtain ⟨z, hz⟩ := flat_digs hb.1 hk1 A
    rw [hG] at hz
    have hfl := flat_len b k G
    have hfb := flat_lt hb.1 k G
    obtain ⟨D, hD⟩ : ∃ D, toI G = D := ⟨_, rfl⟩
    have hDl : D.length = G.length := by rw [← hD, toI_len]
    have hDg : ∀ i, i < G.length → D.getD i 0 = ((G.getD i 0 : Nat) : Int) := by
      intro i hi
      rw [← hD, toI, List.getD_eq_getElem?_getD, List.getElem?_map, List.getElem?_eq_getElem hi, List.getD_eq_getElem?_getD, List.getElem?_eq_getElem hi]
      rfl
    rw [hD]
    obtain ⟨RB, hRB⟩ : ∃ RB, lets u (flat b k G) = RB := ⟨_, rfl⟩
    have hRBl : RB.length ≤ 8400000 := by
      rw [← hRB, lets_len, hfl]
      have := Nat.mul_le_mul hGl hk2
      omega
    repeat' first
      | (with_reducible first | refine PW.seq ?_ | refine PW.block ?_ | refine PW.fork ?_ | refine PW.skip ?_ | refine PW.exit ?_ | refine PW.ret ?_) | ((with_reducible refine PW.region ttOk ?_ ?_); rfl) | ((with_reducible refine PW.regionD ttOk mixed ?_ ?_ ?_); rfl; rfl) | (with_reducible refine ifW_dec (fun g => ?_) (fun g => ?_) <;> first | (exfalso; omega) | (simp -dsimp only [g, wkI])) | ((with_reducible first | refine condE_dec (fun g => ?_) (fun g => ?_) | refine condE_not (fun g => ?_) (fun g => ?_)) <;> try (exfalso; omega)) | (simp -dsimp only [↓wkA, ↓wkE, ↓wkJ, wkB, ↓tt, Nat.reduceBEq, Nat.reduceEqDiff, ↓reduceIte, Nat.reduceLT, Array.toList, Nat.reduceAdd, Nat.reduceMul, Int.reduceToNat, Int.reducePow, UInt8.reduceToNat]) | (simp -dsimp (disch := first | assumption | omega) only [dec_t, dec_f])
      | (refine And.intro ?_ ?_
         · first | omega | decide | (simp (disch := omega) only [wkW, Int.reduceToNat, Int.reducePow] <;> omega) | (simp <;> omega)) | (simp (disch := omega) only [wkW, Int.reduceToNat, Int.reducePow])
    refine PW.meetB (fun F H => F = [(13, .sl 1 0 RB.length true)] ∧ H = ⟨2, [(1, .ints .u8 RB)], [], []⟩) ?_ ?_
    · refine PW.loopA (GB b k u G D RB) G.length (gfB b k u 0 D []) (ghB D []) (Sub.norm ⟨rfl, rfl, rfl, rfl, rfl, rfl, trivial⟩ ⟨rfl, rfl, trivial⟩ (Nat.le_refl _) rfl rfl rfl rfl) ⟨0, [], by omega, by rw [List.drop_zero, List.nil_append]; exact hRB, rfl, rfl⟩ ?_
      rintro m F H ⟨i, back, him, hbk, rfl, rfl⟩
      have hbl2 : back.length ≤ 8400000 := by rw [← hbk, List.length_append] at hRBl; omega
      by_cases hend : i = G.length
      · subst hend
        rw [List.drop_length] at hbk
        simp only [flat, List.flatMap_nil, lets, List.map_nil, List.append_nil] at hbk
        repeat' first
          | (with_reducible first | refine PW.seq ?_ | refine PW.block ?_ | refine PW.fork ?_ | refine PW.skip ?_ | refine PW.exit ?_ | refine PW.ret ?_) | ((with_reducible refine PW.region ttOk ?_ ?_); rfl) | ((with_reducible refine PW.regionD ttOk mixed ?_ ?_ ?_); rfl; rfl) | (with_reducible refine ifW_dec (fun g => ?_) (fun g => ?_) <;> first | (exfalso; omega) | (simp -dsimp only [g, wkI])) | ((with_reducible first | refine condE_dec (fun g => ?_) (fun g => ?_) | refine condE_not (fun g => ?_) (fun g => ?_)) <;> try (exfalso; omega)) | (simp -dsimp only [↓wkA, ↓wkE, ↓wkJ, wkB, ↓tt, Nat.reduceBEq, Nat.reduceEqDiff, ↓reduceIte, Nat.reduceLT, Array.toList, Nat.reduceAdd, Nat.reduceMul, Int.reduceToNat, Int.reducePow, UInt8.reduceToNat]) | (simp -dsimp (disch := first | assumption | omega) only [dec_t, dec_f])
          | (refine And.intro ?_ ?_
             · first | omega | decide | (simp (disch := omega) only [wkW, Int.reduceToNat, Int.reducePow] <;> omega) | (simp <;> omega)) | (simp (disch := omega) only [wkW, Int.reduceToNat, Int.reducePow])
        exact Meet.mk [(13, .sl 1 0 RB.length true)] ⟨2, [(1, .ints .u8 RB)], [], []⟩ (Sub.norm ⟨by rw [← hbk]; rfl, trivial⟩ ⟨by rw [← hbk]; rfl, trivial⟩ (Nat.le_refl _) rfl rfl rfl rfl) ⟨rfl, rfl⟩
      · have hlt : i < G.length := by omega
        have hget := hDg i hlt
        have hgp := hGp (G.getD i 0) (by rw [List.getD_eq_getElem?_getD, List.getElem?_eq_getElem hlt]; exact List.getElem_mem hlt)
        have hdrop : G.drop i = G.getD i 0 :: G.drop (i + 1) := by
          rw [List.drop_eq_getElem_cons hlt, List.getD_eq_getElem?_getD, List.getElem?_eq_getElem hlt]; rfl
        rw [hdrop] at hbk
        obtain ⟨g, hg⟩ : ∃ g, G.getD i 0 = g := ⟨_, rfl⟩
        obtain ⟨T, hT⟩ : ∃ T, lets u (flat b k (G.drop (i + 1))) = T := ⟨_, rfl⟩
        rw [hg] at hget hgp hbk
        rw [show flat b k (g :: G.drop (i + 1)) = pad b k g ++ flat b k (G.drop (i + 1)) from rfl, lets_append, hT] at hbk
        repeat' first
          | (simp only [Int.toNat_natCast, hget]) | (with_reducible first | refine PW.seq ?_ | refine PW.block ?_ | refine PW.fork ?_ | refine PW.skip ?_ | refine PW.exit ?_ | refine PW.ret ?_) | ((with_reducible refine PW.region ttOk ?_ ?_); rfl) | ((with_reducible refine PW.regionD ttOk mixed ?_ ?_ ?_); rfl; rfl) | (with_reducible refine ifW_dec (fun g => ?_) (fun g => ?_) <;> first | (exfalso; omega) | (simp -dsimp only [g, wkI])) | ((with_reducible first | refine condE_dec (fun g => ?_) (fun g => ?_) | refine condE_not (fun g => ?_) (fun g => ?_)) <;> try (exfalso; omega)) | (simp -dsimp only [↓wkA, ↓wkE, ↓wkJ, wkB, ↓tt, Nat.reduceBEq, Nat.reduceEqDiff, ↓reduceIte, Nat.reduceLT, Array.toList, Nat.reduceAdd, Nat.reduceMul, Int.reduceToNat, Int.reducePow, UInt8.reduceToNat]) | (simp -dsimp (disch := first | assumption | omega) only [dec_t, dec_f])
          | (refine And.intro ?_ ?_
             · first | omega | decide | (simp (disch := omega) only [wkW, Int.reduceToNat, Int.reducePow] <;> omega) | (simp <;> omega)) | (simp (disch := omega) only [wkW, Int.reduceToNat, Int.reducePow])
        refine PW.loopA (GC b k u i T D RB) k ((16, .int .i64 ((0 : Nat) : Int)) :: (15, .int .u64 (g : Int)) :: gfB b k u i D back) (ghB D back) (Sub.norm ⟨rfl, rfl, rfl, rfl, rfl, rfl, rfl, rfl, trivial⟩ ⟨rfl, rfl, trivial⟩ (Nat.le_refl _) rfl rfl rfl rfl) ⟨0, g, back, by omega, by omega, hbk, rfl, rfl⟩ ?_
        clear hg hget hgp hbk hbl2 hdrop
        rintro n F H ⟨j, g, back, hj, hg31, hbk, rfl, rfl⟩
        have hbl2 : back.length ≤ 8400000 := by rw [← hbk, List.length_append] at hRBl; omega
        cases n with
        | zero =>
          have hbk2 : back ++ lets u (flat b k (G.drop (i + 1))) = RB := by rw [hT]; exact hbk
          repeat' first
            | (with_reducible first | refine PW.seq ?_ | refine PW.block ?_ | refine PW.fork ?_ | refine PW.skip ?_ | refine PW.exit ?_ | refine PW.ret ?_) | ((with_reducible refine PW.region ttOk ?_ ?_); rfl) | ((with_reducible refine PW.regionD ttOk mixed ?_ ?_ ?_); rfl; rfl) | (with_reducible refine ifW_dec (fun g => ?_) (fun g => ?_) <;> first | (exfalso; omega) | (simp -dsimp only [g, wkI])) | ((with_reducible first | refine condE_dec (fun g => ?_) (fun g => ?_) | refine condE_not (fun g => ?_) (fun g => ?_)) <;> try (exfalso; omega)) | (simp -dsimp only [↓wkA, ↓wkE, ↓wkJ, wkB, ↓tt, Nat.reduceBEq, Nat.reduceEqDiff, ↓reduceIte, Nat.reduceLT, Array.toList, Nat.reduceAdd, Nat.reduceMul, Int.reduceToNat, Int.reducePow, UInt8.reduceToNat]) | (simp -dsimp (disch := first | assumption | omega) only [dec_t, dec_f])
            | (refine And.intro ?_ ?_
               · first | omega | decide | (simp (disch := omega) only [wkW, Int.reduceToNat, Int.reducePow] <;> omega) | (simp <;> omega)) | (simp (disch := omega) only [wkW, Int.reduceToNat, Int.reducePow])
          exact Again.mk (m - 1) (gfB b k u (i + 1) D back) (ghB D back) (by omega) (Sub.norm ⟨rfl, rfl, rfl, rfl, rfl, rfl, trivial⟩ ⟨rfl, rfl, trivial⟩ (Nat.le_refl _) rfl rfl rfl rfl) ⟨i + 1, back, by omega, hbk2, rfl, rfl⟩
        | succ n =>
          have hwb : IntKind.wrap .u64 (b : Int) = (b : Int) := wrap_u64 (by omega)
          have hmod : (g : Int) % (b : Int) = ((g % b : Nat) : Int) := (Int.natCast_emod _ _).symm
          have hdiv : (g : Int) / (b : Int) = ((g / b : Nat) : Int) := (Int.natCast_ediv _ _).symm
          have hml := Nat.mod_lt g (show b > 0 by omega)
          have hdl := Nat.div_le_self g b
          have hdg := ref_digit (g % b) u (by omega)
          have hbk2 : (back ++ [letter u (g % b)]) ++ (lets u (pad b n (g / b)) ++ T) = RB := by
            rw [← hbk, pad]
            simp [lets]
          obtain ⟨x, hx⟩ : ∃ x, g % b = x := ⟨_, rfl⟩
          obtain ⟨q, hq⟩ : ∃ q, g / b = q := ⟨_, rfl⟩
          simp only [hx, hq] at hmod hdiv hml hdl hdg hbk2
          clear hx hq
          have hwq : IntKind.wrap .u64 (q : Int) = (q : Int) := wrap_u64 (by omega)
          have hwx : IntKind.wrap .i64 (x : Int) = (x : Int) := wrap_i64 (by omega)
          have hl1 : (back ++ [letter u x]).length = back.length + 1 := by simp
          repeat' first
            | (simp only [hwb, hmod, hdiv, hwq, hwx]) | (with_reducible first | refine PW.seq ?_ | refine PW.block ?_ | refine PW.fork ?_ | refine PW.skip ?_ | refine PW.exit ?_ | refine PW.ret ?_) | ((with_reducible refine PW.region ttOk ?_ ?_); rfl) | ((with_reducible refine PW.regionD ttOk mixed ?_ ?_ ?_); rfl; rfl) | (with_reducible refine ifW_dec (fun g => ?_) (fun g => ?_) <;> first | (exfalso; omega) | (simp -dsimp only [g, wkI])) | ((with_reducible first | refine condE_dec (fun g => ?_) (fun g => ?_) | refine condE_not (fun g => ?_) (fun g => ?_)) <;> try (exfalso; omega)) | (simp -dsimp only [↓wkA, ↓wkE, ↓wkJ, wkB, ↓tt, Nat.reduceBEq, Nat.reduceEqDiff, ↓reduceIte, Nat.reduceLT, Array.toList, Nat.reduceAdd, Nat.reduceMul, Int.reduceToNat, Int.reducePow, UInt8.reduceToNat]) | (refine call_by hdg (views_data rfl) ⟨trivial, trivial, trivial⟩ rfl ?_) | (simp -dsimp (disch := first | assumption | omega) only [dec_t, dec_f])
            | (refine And.intro ?_ ?_
               · first | omega | decide | (simp (disch := omega) only [wkW, Int.reduceToNat, Int.reducePow] <;> omega) | (simp <;> omega)) | (simp (disch := omega) only [wkW, Int.reduceToNat, Int.reducePow])
          exact Again.mk n ((16, .int .i64 ((j + 1 : Nat) : Int)) :: (15, .int .u64 (q : Int)) :: gfB b k u i D (back ++ [letter u x])) (ghB D (back ++ [letter u x])) (by omega) (Sub.norm ⟨rfl, rfl, rfl, congrArg (fun n => PV.sl 1 0 n true) hl1.symm, rfl, rfl, rfl, rfl, trivial⟩ ⟨rfl, rfl, trivial⟩ (by simp) rfl rfl rfl rfl) ⟨j + 1, q, _, by omega, by omega, hbk2, rfl, rfl⟩
    rintro F H ⟨rfl, rfl⟩
    obtain ⟨T, hT⟩ : ∃ T, lets u (digs b A) = T := ⟨_, rfl⟩
    obtain ⟨L, hL⟩ : ∃ L, T.length = L := ⟨_, rfl⟩
    have hLd : (digs b A).length = L := by rw [← hL, ← hT, lets_len]
    have hRBd : RB = T ++ List.replicate z 48 := by
      rw [← hRB, hz, lets_append, hT]; simp [lets, letter_zero]
    have hRBL : RB.length = L + z := by rw [hRBd, List.length_append, List.length_replicate, hL]
    have hLA : L = 0 → A = 0 := by
      intro h
      by_cases hA0 : A = 0
      · exact hA0
      · rw [digs_step hb.1 hA0, List.length_cons] at hLd; omega
    have hz0 : A = 0 → z = 0 := by
      rintro rfl
      have : G = [] := by rw [← hG, digs_zero]
      rw [this, digs_zero] at hz
      have := congrArg List.length hz
      simp [flat] at this
      omega
    have hT48 : ∀ i, i < L → RB.getD i 0 = T.getD i 0 := by
      intro i hi
      rw [hRBd, List.getD_eq_getElem?_getD, List.getElem?_append_left (by omega), List.getD_eq_getElem?_getD]
    have hz48 : ∀ i, L ≤ i → i < L + z → RB.getD i 0 = 48 := by
      intro i hi hi2
      rw [hRBd, List.getD_eq_getElem?_getD, List.getElem?_append_right (by omega), List.getElem?_replicate, if_pos (by omega)]; rfl
    have htop : 1 < L → RB.getD (L - 1) 0 ≠ 48 := by
      intro h1L
      have hA0 : A ≠ 0 := by rintro rfl; rw [digs_zero] at hLd; simp at hLd; omega
      have h1 := digs_top hb.1 A hA0
      rw [hLd] at h1
      rw [hT48 (L - 1) (by omega), ← hT, lets, List.getD_eq_getElem?_getD, List.getElem?_map, List.getElem?_eq_getElem (by omega)]
      rw [List.getD_eq_getElem?_getD, List.getElem?_eq_getElem (by omega)] at h1
      intro h2
      have h3 := digs_lt hb.1 A _ (List.getElem_mem (show L - 1 < (digs b A).length by omega))
      exact h1 (letter_48 u (Nat.lt_of_lt_of_le h3 hb.2) h2)
    have hwr : written b u A = if A = 0 then [48] else T.reverse := by rw [written, text_lets, hT]
    clear hGp hRB hz hfl hDg hlenle
    repeat' first
      | (with_reducible first | refine PW.seq ?_ | refine PW.block ?_ | refine PW.fork ?_ | refine PW.skip ?_ | refine PW.exit ?_ | refine PW.ret ?_) | ((with_reducible refine PW.region ttOk ?_ ?_); rfl) | ((with_reducible refine PW.regionD ttOk mixed ?_ ?_ ?_); rfl; rfl) | (with_reducible refine ifW_dec (fun g => ?_) (fun g => ?_) <;> first | (exfalso; omega) | (simp -dsimp only [g, wkI])) | ((with_reducible first | refine condE_dec (fun g => ?_) (fun g => ?_) | refine condE_not (fun g => ?_) (fun g => ?_)) <;> try (exfalso; omega)) | (simp -dsimp only [↓wkA, ↓wkE, ↓wkJ, wkB, ↓tt, Nat.reduceBEq, Nat.reduceEqDiff, ↓reduceIte, Nat.reduceLT, Array.toList, Nat.reduceAdd, Nat.reduceMul, Int.reduceToNat, Int.reducePow, UInt8.reduceToNat]) | (simp -dsimp (disch := first | assumption | omega) only [dec_t, dec_f])
      | (refine And.intro ?_ ?_
         · first | omega | decide | (simp (disch := omega) only [wkW, Int.reduceToNat, Int.reducePow] <;> omega) | (simp <;> omega)) | (simp (disch := omega) only [wkW, Int.reduceToNat, Int.reducePow])
    refine PW.meetB (fun F H => F = [(17, .int .i64 (L : Int)), (13, .sl 1 0 RB.length true)] ∧ H = ⟨2, [(1, .ints .u8 RB)], [], []⟩) ?_ ?_
    · refine PW.loopA (GD L z RB) z [(17, .int .i64 ((L + z : Nat) : Int)), (13, .sl 1 0 RB.length true)] ⟨2, [(1, .ints .u8 RB)], [], []⟩ (Sub.norm ⟨congrArg (fun n : Nat => PV.int .i64 (n : Int)) hRBL, rfl, trivial⟩ ⟨rfl, trivial⟩ (Nat.le_refl _) rfl rfl rfl rfl) ⟨Nat.le_refl _, rfl, rfl⟩ ?_
      rintro m F H ⟨hm, rfl, rfl⟩
      cases m with
      | zero =>
        by_cases hL1 : 1 < L
        · have ht := htop hL1
          have e : ((L + 0 : Nat) : Int) - 1 = ((L - 1 : Nat) : Int) := by omega
          have hwm : IntKind.wrap .i64 ((L - 1 : Nat) : Int) = ((L - 1 : Nat) : Int) := wrap_i64 (by omega)
          repeat' first
            | (simp only [e, hwm, Int.toNat_natCast]) | (with_reducible first | refine PW.seq ?_ | refine PW.block ?_ | refine PW.fork ?_ | refine PW.skip ?_ | refine PW.exit ?_ | refine PW.ret ?_) | ((with_reducible refine PW.region ttOk ?_ ?_); rfl) | ((with_reducible refine PW.regionD ttOk mixed ?_ ?_ ?_); rfl; rfl) | (with_reducible refine ifW_dec (fun g => ?_) (fun g => ?_) <;> first | (exfalso; omega) | (simp -dsimp only [g, wkI])) | ((with_reducible first | refine condE_dec (fun g => ?_) (fun g => ?_) | refine condE_not (fun g => ?_) (fun g => ?_)) <;> try (exfalso; omega)) | (simp -dsimp only [↓wkA, ↓wkE, ↓wkJ, wkB, ↓tt, Nat.reduceBEq, Nat.reduceEqDiff, ↓reduceIte, Nat.reduceLT, Array.toList, Nat.reduceAdd, Nat.reduceMul, Int.reduceToNat, Int.reducePow, UInt8.reduceToNat]) | (simp -dsimp (disch := first | assumption | omega) only [dec_t, dec_f])
            | (refine And.intro ?_ ?_
               · first | omega | decide | (simp (disch := omega) only [wkW, Int.reduceToNat, Int.reducePow] <;> omega) | (simp <;> omega)) | (simp (disch := omega) only [wkW, Int.reduceToNat, Int.reducePow])
          exact Meet.mk [(17, .int .i64 (L : Int)), (13, .sl 1 0 RB.length true)] ⟨2, [(1, .ints .u8 RB)], [], []⟩ (Sub.norm ⟨rfl, rfl, trivial⟩ ⟨rfl, trivial⟩ (Nat.le_refl _) rfl rfl rfl rfl) ⟨rfl, rfl⟩
        · have hL1' : ¬ (1 < ((L + 0 : Nat) : Int)) := by omega
          repeat' first
            | (with_reducible first | refine PW.seq ?_ | refine PW.block ?_ | refine PW.fork ?_ | refine PW.skip ?_ | refine PW.exit ?_ | refine PW.ret ?_) | ((with_reducible refine PW.region ttOk ?_ ?_); rfl) | ((with_reducible refine PW.regionD ttOk mixed ?_ ?_ ?_); rfl; rfl) | (with_reducible refine ifW_dec (fun g => ?_) (fun g => ?_) <;> first | (exfalso; omega) | (simp -dsimp only [g, wkI])) | ((with_reducible first | refine condE_dec (fun g => ?_) (fun g => ?_) | refine condE_not (fun g => ?_) (fun g => ?_)) <;> try (exfalso; omega)) | (simp -dsimp only [↓wkA, ↓wkE, ↓wkJ, wkB, ↓tt, Nat.reduceBEq, Nat.reduceEqDiff, ↓reduceIte, Nat.reduceLT, Array.toList, Nat.reduceAdd, Nat.reduceMul, Int.reduceToNat, Int.reducePow, UInt8.reduceToNat]) | (simp -dsimp (disch := first | assumption | omega) only [dec_t, dec_f])
            | (refine And.intro ?_ ?_
               · first | omega | decide | (simp (disch := omega) only [wkW, Int.reduceToNat, Int.reducePow] <;> omega) | (simp <;> omega)) | (simp (disch := omega) only [wkW, Int.reduceToNat, Int.reducePow])
          exact Meet.mk [(17, .int .i64 (L : Int)), (13, .sl 1 0 RB.length true)] ⟨2, [(1, .ints .u8 RB)], [], []⟩ (Sub.norm ⟨rfl, rfl, trivial⟩ ⟨rfl, trivial⟩ (Nat.le_refl _) rfl rfl rfl rfl) ⟨rfl, rfl⟩
      | succ m =>
        have hL1 : 1 < L + (m + 1) := by
          rcases Nat.eq_zero_or_pos L with h | h
          · have := hz0 (hLA h); omega
          · omega
        have ht := hz48 (L + m) (by omega) (by omega)
        have e : ((L + (m + 1) : Nat) : Int) - 1 = ((L + m : Nat) : Int) := by omega
        have hwm : IntKind.wrap .i64 ((L + m : Nat) : Int) = ((L + m : Nat) : Int) := wrap_i64 (by omega)
        repeat' first
          | (simp only [e, hwm, Int.toNat_natCast, ht]) | (with_reducible first | refine PW.seq ?_ | refine PW.block ?_ | refine PW.fork ?_ | refine PW.skip ?_ | refine PW.exit ?_ | refine PW.ret ?_) | ((with_reducible refine PW.region ttOk ?_ ?_); rfl) | ((with_reducible refine PW.regionD ttOk mixed ?_ ?_ ?_); rfl; rfl) | (with_reducible refine ifW_dec (fun g => ?_) (fun g => ?_) <;> first | (exfalso; omega) | (simp -dsimp only [g, wkI])) | ((with_reducible first | refine condE_dec (fun g => ?_) (fun g => ?_) | refine condE_not (fun g => ?_) (fun g => ?_)) <;> try (exfalso; omega)) | (simp -dsimp only [↓wkA, ↓wkE, ↓wkJ, wkB, ↓tt, Nat.reduceBEq, Nat.reduceEqDiff, ↓reduceIte, Nat.reduceLT, Array.toList, Nat.reduceAdd, Nat.reduceMul, Int.reduceToNat, Int.reducePow, UInt8.reduceToNat]) | (simp -dsimp (disch := first | assumption | omega) only [dec_t, dec_f])
          | (refine And.intro ?_ ?_
             · first | omega | decide | (simp (disch := omega) only [wkW, Int.reduceToNat, Int.reducePow] <;> omega) | (simp <;> omega)) | (simp (disch := omega) only [wkW, Int.reduceToNat, Int.reducePow])
        exact Again.mk m [(17, .int .i64 ((L + m : Nat) : Int)), (13, .sl 1 0 RB.length true)] ⟨2, [(1, .ints .u8 RB)], [], []⟩ (by omega) (Sub.norm ⟨rfl, rfl, trivial⟩ ⟨rfl, trivial⟩ (Nat.le_refl _) rfl rfl rfl rfl) ⟨by omega, rfl, rfl⟩
    rintro F H ⟨rfl, rfl⟩
    by_cases hA0 : A = 0
    · have hL0 : L = 0 := by
        subst hA0; rw [digs_zero] at hLd; simpa using hLd.symm
      subst hL0
      rw [hwr, if_pos hA0]
      repeat' first
        | (with_reducible first | refine PW.seq ?_ | refine PW.block ?_ | refine PW.fork ?_ | refine PW.skip ?_ | refine PW.exit ?_ | refine PW.ret ?_) | ((with_reducible refine PW.region ttOk ?_ ?_); rfl) | ((with_reducible refine PW.regionD ttOk mixed ?_ ?_ ?_); rfl; rfl) | (with_reducible refine ifW_dec (fun g => ?_) (fun g => ?_) <;> first | (exfalso; omega) | (simp -dsimp only [g, wkI])) | ((with_reducible first | refine condE_dec (fun g => ?_) (fun g => ?_) | refine condE_not (fun g => ?_) (fun g => ?_)) <;> try (exfalso; omega)) | (simp -dsimp only [↓wkA, ↓wkE, ↓wkJ, wkB, ↓tt, Nat.reduceBEq, Nat.reduceEqDiff, ↓reduceIte, Nat.reduceLT, Array.toList, Nat.reduceAdd, Nat.reduceMul, Int.reduceToNat, Int.reducePow, UInt8.reduceToNat]) | (simp -dsimp (disch := first | assumption | omega) only [dec_t, dec_f])
        | (refine And.intro ?_ ?_
           · first | omega | decide | (simp (disch := omega) only [wkW, Int.reduceToNat, Int.reducePow] <;> omega) | (simp <;> omega)) | (simp (disch := omega) only [wkW, Int.reduceToNat, Int.reducePow])
    have hTb : Bytes' T.reverse := by have := written_bytes hb u A; rw [hwr, if_neg hA0] at this; exact this
    rw [hwr, if_neg hA0]
    have hL0 : L ≠ 0 := fun h => hA0 (hLA h)
    repeat' first
      | (with_reducible first | refine PW.seq ?_ | refine PW.block ?_ | refine PW.fork ?_ | refine PW.skip ?_ | refine PW.exit ?_ | refine PW.ret ?_) | ((with_reducible refine PW.region ttOk ?_ ?_); rfl) | ((with_reducible refine PW.regionD ttOk mixed ?_ ?_ ?_); rfl; rfl) | (with_reducible refine ifW_dec (fun g => ?_) (fun g => ?_) <;> first | (exfalso; omega) | (simp -dsimp only [g, wkI])) | ((with_reducible first | refine condE_dec (fun g => ?_) (fun g => ?_) | refine condE_not (fun g => ?_) (fun g => ?_)) <;> try (exfalso; omega)) | (simp -dsimp only [↓wkA, ↓wkE, ↓wkJ, wkB, ↓tt, Nat.reduceBEq, Nat.reduceEqDiff, ↓reduceIte, Nat.reduceLT, Array.toList, Nat.reduceAdd, Nat.reduceMul, Int.reduceToNat, Int.reducePow, UInt8.reduceToNat]) | (simp -dsimp (disch := first | assumption | omega) only [dec_t, dec_f])
      | (refine And.intro ?_ ?_
         · first | omega | decide | (simp (disch := omega) only [wkW, Int.reduceToNat, Int.reducePow] <;> omega) | (simp <;> omega)) | (simp (disch := omega) only [wkW, Int.reduceToNat, Int.reducePow])
    refine PW.meetB (fun F H => F = [(18, .sl 2 0 T.reverse.length true)] ∧ H = ⟨3, [(2, .ints .u8 T.reverse)], [], []⟩) ?_ ?_
    · refine PW.loopA (GE L RB T) L (gfE RB L []) (ghE RB []) (Sub.norm ⟨rfl, rfl, rfl, trivial⟩ ⟨rfl, rfl, trivial⟩ (Nat.le_refl _) rfl rfl rfl rfl) ⟨[], Nat.le_refl _, by rw [← hL, List.take_length]; rfl, rfl, rfl⟩ ?_
      rintro m F H ⟨out, hm, ho, rfl, rfl⟩
      have hol : out.length ≤ 8400000 := by
        have := congrArg List.length ho
        simp at this; omega
      cases m with
      | zero =>
        have ho2 : out = T.reverse := by simpa using ho
        subst ho2
        repeat' first
          | (with_reducible first | refine PW.seq ?_ | refine PW.block ?_ | refine PW.fork ?_ | refine PW.skip ?_ | refine PW.exit ?_ | refine PW.ret ?_) | ((with_reducible refine PW.region ttOk ?_ ?_); rfl) | ((with_reducible refine PW.regionD ttOk mixed ?_ ?_ ?_); rfl; rfl) | (with_reducible refine ifW_dec (fun g => ?_) (fun g => ?_) <;> first | (exfalso; omega) | (simp -dsimp only [g, wkI])) | ((with_reducible first | refine condE_dec (fun g => ?_) (fun g => ?_) | refine condE_not (fun g => ?_) (fun g => ?_)) <;> try (exfalso; omega)) | (simp -dsimp only [↓wkA, ↓wkE, ↓wkJ, wkB, ↓tt, Nat.reduceBEq, Nat.reduceEqDiff, ↓reduceIte, Nat.reduceLT, Array.toList, Nat.reduceAdd, Nat.reduceMul, Int.reduceToNat, Int.reducePow, UInt8.reduceToNat]) | (simp -dsimp (disch := first | assumption | omega) only [dec_t, dec_f])
          | (refine And.intro ?_ ?_
             · first | omega | decide | (simp (disch := omega) only [wkW, Int.reduceToNat, Int.reducePow] <;> omega) | (simp <;> omega)) | (simp (disch := omega) only [wkW, Int.reduceToNat, Int.reducePow])
        exact Meet.mk [(18, .sl 2 0 T.reverse.length true)] ⟨3, [(2, .ints .u8 T.reverse)], [], []⟩ (Sub.norm ⟨rfl, trivial⟩ ⟨rfl, trivial⟩ (Nat.le_refl _) rfl rfl rfl rfl) ⟨rfl, rfl⟩
      | succ m =>
        have ht := hT48 m (by omega)
        have e : ((m + 1 : Nat) : Int) - 1 = (m : Int) := by omega
        have ho2 : (out ++ [T.getD m 0]) ++ (T.take m).reverse = T.reverse := by
          rw [← ho, List.take_add_one, List.reverse_append, List.getD_eq_getElem?_getD, List.getElem?_eq_getElem (by omega)]
          simp
        have hl1 : (out ++ [T.getD m 0]).length = out.length + 1 := by simp
        repeat' first
          | (simp only [e, Int.toNat_natCast, ht]) | (with_reducible first | refine PW.seq ?_ | refine PW.block ?_ | refine PW.fork ?_ | refine PW.skip ?_ | refine PW.exit ?_ | refine PW.ret ?_) | ((with_reducible refine PW.region ttOk ?_ ?_); rfl) | ((with_reducible refine PW.regionD ttOk mixed ?_ ?_ ?_); rfl; rfl) | (with_reducible refine ifW_dec (fun g => ?_) (fun g => ?_) <;> first | (exfalso; omega) | (simp -dsimp only [g, wkI])) | ((with_reducible first | refine condE_dec (fun g => ?_) (fun g => ?_) | refine condE_not (fun g => ?_) (fun g => ?_)) <;> try (exfalso; omega)) | (simp -dsimp only [↓wkA, ↓wkE, ↓wkJ, wkB, ↓tt, Nat.reduceBEq, Nat.reduceEqDiff, ↓reduceIte, Nat.reduceLT, Array.toList, Nat.reduceAdd, Nat.reduceMul, Int.reduceToNat, Int.reducePow, UInt8.reduceToNat]) | (simp -dsimp (disch := first | assumption | omega) only [dec_t, dec_f])
          | (refine And.intro ?_ ?_
             · first | omega | decide | (simp (disch := omega) only [wkW, Int.reduceToNat, Int.reducePow] <;> omega) | (simp <;> omega)) | (simp (disch := omega) only [wkW, Int.reduceToNat, Int.reducePow])
        exact Again.mk m (gfE RB m (out ++ [T.getD m 0])) (ghE RB (out ++ [T.getD m 0])) (by omega) (Sub.norm ⟨rfl, congrArg (fun n => PV.sl 2 0 n true) hl1.symm, rfl, trivial⟩ ⟨rfl, rfl, trivial⟩ (by simp) rfl rfl rfl rfl) ⟨_, by omega, ho2, rfl, rfl⟩
    rintro F H ⟨rfl, rfl⟩
    repeat' first
      | (with_reducible first | refine PW.seq ?_ | refine PW.block ?_ | refine PW.fork ?_ | refine PW.skip ?_ | refine PW.exit ?_ | refine PW.ret ?_) | ((with_reducible refine PW.region ttOk ?_ ?_); rfl) | ((with_reducible refine PW.regionD ttOk mixed ?_ ?_ ?_); rfl; rfl) | (with_reducible refine ifW_dec (fun g => ?_) (fun g => ?_) <;> first | (exfalso; omega) | (simp -dsimp only [g, wkI])) | ((with_reducible first | refine condE_dec (fun g => ?_) (fun g => ?_) | refine condE_not (fun g => ?_) (fun g => ?_)) <;> try (exfalso; omega)) | (simp -dsimp only [↓wkA, ↓wkE, ↓wkJ, wkB, ↓tt, Nat.reduceBEq, Nat.reduceEqDiff, ↓reduceIte, Nat.reduceLT, Array.toList, Nat.reduceAdd, Nat.reduceMul, Int.reduceToNat, Int.reducePow, UInt8.reduceToNat]) | (simp -dsimp (disch := first | assumption | omega) only [dec_t, dec_f])
      | (refine And.intro ?_ ?_
         · first | omega | decide | (simp (disch := omega) only [wkW, Int.reduceToNat, Int.reducePow] <;> omega) | (simp <;> omega)) | (simp (disch := omega) only [wkW, Int.reduceToNat, Int.reducePow])
    rw [byteOf_list hTb]
theorem ref_in_base (a : List Int) (ha : Limbs a) (hla : a.length ≤ 17592186043904) (base : Int) (hbase : -9223372036854775808 ≤ base ∧ base ≤ 9223372036854775807) (u : Bool) :
    Meets Tryz.prog 114 [.ints .u64 a, .int .i64 base, .bool u] (inBaseA a base u) := by
  have hlm := ref_limbs a hla
  have hsa := size_le a
  unfold inBaseA
  by_cases h1 : 4096 < size a
  · rw [if_pos h1]
    refine meets_by ttOk Tryz.func114 Tryz.ntmps114 Tryz.results114 (by kernel_rfl) (c := _) rfl rfl rfl fun E => ?_
    simp only [argsFrame]
    repeat' first
      | (with_reducible first | refine PW.seq ?_ | refine PW.block ?_ | refine PW.fork ?_ | refine PW.skip ?_ | refine PW.exit ?_ | refine PW.ret ?_) | ((with_reducible refine PW.region ttOk ?_ ?_); rfl) | ((with_reducible refine PW.regionD ttOk mixed ?_ ?_ ?_); rfl; rfl) | (with_reducible refine ifW_dec (fun g => ?_) (fun g => ?_) <;> first | (exfalso; omega) | (simp -dsimp only [g, wkI])) | ((with_reducible first | refine condE_dec (fun g => ?_) (fun g => ?_) | refine condE_not (fun g => ?_) (fun g => ?_)) <;> try (exfalso; omega)) | (simp -dsimp only [↓wkA, ↓wkE, ↓wkJ, wkB, ↓tt, Nat.reduceBEq, Nat.reduceEqDiff, ↓reduceIte, Nat.reduceLT, Array.toList, Nat.reduceAdd, Nat.reduceMul, Int.reduceToNat, Int.reducePow, UInt8.reduceToNat]) | (refine call_by hlm (views_data rfl) ⟨trivial, trivial⟩ rfl ?_) | (simp -dsimp (disch := first | assumption | omega) only [dec_t, dec_f])
      | (refine And.intro ?_ ?_
         · first | omega | decide | (simp (disch := omega) only [wkW, Int.reduceToNat, Int.reducePow] <;> omega) | (simp <;> omega)) | (simp (disch := omega) only [wkW, Int.reduceToNat, Int.reducePow])
  rw [if_neg h1]
  by_cases h2 : base < 2 ∨ 36 < base
  · rw [if_pos h2]
    refine meets_by ttOk Tryz.func114 Tryz.ntmps114 Tryz.results114 (by kernel_rfl) (c := _) rfl rfl rfl fun E => ?_
    simp only [argsFrame]
    repeat' first
      | (with_reducible first | refine PW.seq ?_ | refine PW.block ?_ | refine PW.fork ?_ | refine PW.skip ?_ | refine PW.exit ?_ | refine PW.ret ?_) | ((with_reducible refine PW.region ttOk ?_ ?_); rfl) | ((with_reducible refine PW.regionD ttOk mixed ?_ ?_ ?_); rfl; rfl) | (with_reducible refine ifW_dec (fun g => ?_) (fun g => ?_) <;> first | (exfalso; omega) | (simp -dsimp only [g, wkI])) | ((with_reducible first | refine condE_dec (fun g => ?_) (fun g => ?_) | refine condE_not (fun g => ?_) (fun g => ?_)) <;> try (exfalso; omega)) | (simp -dsimp only [↓wkA, ↓wkE, ↓wkJ, wkB, ↓tt, Nat.reduceBEq, Nat.reduceEqDiff, ↓reduceIte, Nat.reduceLT, Array.toList, Nat.reduceAdd, Nat.reduceMul, Int.reduceToNat, Int.reducePow, UInt8.reduceToNat]) | (refine call_by hlm (views_data rfl) ⟨trivial, trivial⟩ rfl ?_) | (simp -dsimp (disch := first | assumption | omega) only [dec_t, dec_f])
      | (refine And.intro ?_ ?_
         · first | omega | decide | (simp (disch := omega) only [wkW, Int.reduceToNat, Int.reducePow] <;> omega) | (simp <;> omega)) | (simp (disch := omega) only [wkW, Int.reduceToNat, Int.reducePow])
  rw [if_neg h2]
  obtain ⟨b, rfl⟩ : ∃ b : Nat, base = (b : Int) := ⟨base.toNat, by omega⟩
  exact ref_in_base_main a ha hla b (by omega) u (by omega)
theorem in_base_same {a : List Int} (ha : Limbs a) (base : Int) (u : Bool) : inBaseR a base u = inBaseA a base u := by
  unfold inBaseR inBaseA
  split
  · rfl
  · split
    · rfl
    · split
      · rename_i h
        rw [(size_zero ha).1 h]; rfl
      · rename_i h
        have h2 : (val a).toNat ≠ 0 := by
          have := val_nonneg ha
          have h3 : val a ≠ 0 := fun h4 => h ((size_zero ha).2 h4)
          omega
        rw [written, if_neg h2]
theorem in_base_any (a : List Int) (ha : Limbs a) (hla : a.length ≤ 17592186043904) (base : Int) (hb : -9223372036854775808 ≤ base ∧ base ≤ 9223372036854775807) (u : Bool) :
    Meets Tryz.prog 101 [.ints .u64 a, .int .i64 base, .bool u] (inBaseA a base u) := by
  rw [← in_base_same ha]; exact in_base a ha hla base hb u
def decA (a : List Int) : PV := if 4096 < size a then .tup [.str [], .int .i64 2] else .tup [.str (written 10 false (val a).toNat), .int .i64 0]
theorem decA_eq (a : List Int) : inBaseA a 10 false = decA a := by
  unfold inBaseA decA
  split
  · rfl
  · rw [if_neg (by decide)]; rfl
theorem decA_tup (a : List Int) : ∃ s e, decA a = .tup [.str s, .int .i64 e] := by
  unfold decA
  split <;> exact ⟨_, _, rfl⟩
theorem digits (a : List Int) (ha : Limbs a) (hla : a.length ≤ 17592186043904) : Meets Tryz.prog 61 [.ints .u64 a] (decA a) := by
  have h := in_base_any a ha hla 10 (by decide) false
  rw [decA_eq] at h
  obtain ⟨s, e, hse⟩ := decA_tup a
  rw [hse] at h ⊢
  refine meets_by ttOk Tryz.func61 Tryz.ntmps61 Tryz.results61 (by kernel_rfl) (c := _) rfl rfl rfl fun E => ?_
  simp only [argsFrame]
  repeat' first
    | (with_reducible first | refine PW.seq ?_ | refine PW.block ?_ | refine PW.fork ?_ | refine PW.skip ?_ | refine PW.exit ?_ | refine PW.ret ?_) | ((with_reducible refine PW.region ttOk ?_ ?_); rfl) | ((with_reducible refine PW.regionD ttOk mixed ?_ ?_ ?_); rfl; rfl) | (with_reducible refine ifW_dec (fun g => ?_) (fun g => ?_) <;> first | (exfalso; omega) | (simp -dsimp only [g, wkI])) | ((with_reducible first | refine condE_dec (fun g => ?_) (fun g => ?_) | refine condE_not (fun g => ?_) (fun g => ?_)) <;> try (exfalso; omega)) | (simp -dsimp only [↓wkA, ↓wkE, ↓wkJ, wkB, ↓tt, Nat.reduceBEq, Nat.reduceEqDiff, ↓reduceIte, Nat.reduceLT, Array.toList, Nat.reduceAdd, Nat.reduceMul, Int.reduceToNat, Int.reducePow, UInt8.reduceToNat]) | (refine call_by h (views_data rfl) ⟨trivial, trivial, trivial, trivial⟩ rfl ?_) | (simp -dsimp (disch := first | assumption | omega) only [dec_t, dec_f])
    | (refine And.intro ?_ ?_
       · first | omega | decide | (simp (disch := omega) only [wkW, Int.reduceToNat, Int.reducePow] <;> omega) | (simp <;> omega)) | (simp (disch := omega) only [wkW, Int.reduceToNat, Int.reducePow])
theorem ref_digits (a : List Int) (ha : Limbs a) (hla : a.length ≤ 17592186043904) : Meets Tryz.prog 75 [.ints .u64 a] (decA a) := by
  have h := ref_in_base a ha hla 10 (by decide) false
  rw [decA_eq] at h
  obtain ⟨s, e, hse⟩ := decA_tup a
  rw [hse] at h ⊢
  refine meets_by ttOk Tryz.func75 Tryz.ntmps75 Tryz.results75 (by kernel_rfl) (c := _) rfl rfl rfl fun E => ?_
  simp only [argsFrame]
  repeat' first
    | (with_reducible first | refine PW.seq ?_ | refine PW.block ?_ | refine PW.fork ?_ | refine PW.skip ?_ | refine PW.exit ?_ | refine PW.ret ?_) | ((with_reducible refine PW.region ttOk ?_ ?_); rfl) | ((with_reducible refine PW.regionD ttOk mixed ?_ ?_ ?_); rfl; rfl) | (with_reducible refine ifW_dec (fun g => ?_) (fun g => ?_) <;> first | (exfalso; omega) | (simp -dsimp only [g, wkI])) | ((with_reducible first | refine condE_dec (fun g => ?_) (fun g => ?_) | refine condE_not (fun g => ?_) (fun g => ?_)) <;> try (exfalso; omega)) | (simp -dsimp only [↓wkA, ↓wkE, ↓wkJ, wkB, ↓tt, Nat.reduceBEq, Nat.reduceEqDiff, ↓reduceIte, Nat.reduceLT, Array.toList, Nat.reduceAdd, Nat.reduceMul, Int.reduceToNat, Int.reducePow, UInt8.reduceToNat]) | (refine call_by h (views_data rfl) ⟨trivial, trivial, trivial, trivial⟩ rfl ?_) | (simp -dsimp (disch := first | assumption | omega) only [dec_t, dec_f])
    | (refine And.intro ?_ ?_
       · first | omega | decide | (simp (disch := omega) only [wkW, Int.reduceToNat, Int.reducePow] <;> omega) | (simp <;> omega)) | (simp (disch := omega) only [wkW, Int.reduceToNat, Int.reducePow])
theorem part_valD {l l' : List Int} {off n : Nat} (h : PartS l l' off n) (hn : off + n ≤ l.length) : val l' = val l + B64 ^ off * (vt (l'.drop off) n - vt (l.drop off) n) := by
  obtain ⟨m, hm⟩ : ∃ m, l.length = off + n + m := ⟨l.length - (off + n), by omega⟩
  unfold val
  rw [h.len, hm, vt_split l (off + n) m, vt_split l' (off + n) m, vt_split l off n, vt_split l' off n]
  have e5 : vt (l'.drop (off + n)) m = vt (l.drop (off + n)) m := vt_same _ fun j hj => by rw [getD_drop', getD_drop', h.out _ (.inr (by omega))]
  have e6 : vt l' off = vt l off := vt_same _ fun j hj => h.out _ (.inl hj)
  rw [e5, e6]
  generalize B64 ^ off = p
  generalize B64 ^ (off + n) = p2
  grind
theorem limbsOf_take (m v d : Nat) : (limbsOf (m + d) v).take m = limbsOf m v := by
  unfold limbsOf
  rw [← List.map_take, List.take_range, Nat.min_eq_left (by omega)]
def mvs (L Y k : Nat) : List PV := (List.range k).map fun i => PV.ints .u64 (limbsOf (L + 1) (Y * 2 ^ i))
theorem mvs_len (L Y k : Nat) : (mvs L Y k).length = k := by simp [mvs]
theorem mvs_succ (L Y k : Nat) : mvs L Y k ++ [PV.ints .u64 (limbsOf (L + 1) (Y * 2 ^ k))] = mvs L Y (k + 1) := by simp [mvs, List.range_succ]
theorem mvs_get (L Y : Nat) {k n : Nat} (h : k < n) : (mvs L Y n).getD k .undef = PV.ints .u64 (limbsOf (L + 1) (Y * 2 ^ k)) := by
  simp [mvs, List.getD_eq_getElem?_getD, h]
abbrev dvF (x y a b : List Int) (k : Nat) (m : List Int) : PV.Frame := [(10, .int .i64 (k : Int)), (9, .ints .u64 m), (8, .sl 2 0 k true), (7, .ints .u64 y), (6, .ints .u64 x), (0, .ints .u64 a), (1, .ints .u64 b)]
abbrev dvG (n N J : Nat) : PV.Frame := [(13, .int .i64 ((J : Int) - 1)), (12, .sl 5 0 N true), (11, .sl 3 0 (n + 1) true), (8, .sl 2 0 64 true)]
abbrev dvI (n N j K : Nat) : PV.Frame := [(14, .int .i64 ((K : Int) - 1)), (13, .int .i64 (j : Int)), (12, .sl 5 0 N true), (11, .sl 3 0 (n + 1) true), (8, .sl 2 0 64 true)]
abbrev dvH (mv : List PV) (r q : List Int) : PV.Heap := ⟨6, [(2, .list 1 mv), (3, .ints .u64 r), (5, .ints .u64 q)], [], []⟩
theorem take_snoc_n {s : List Int} {n : Nat} (h : s.length = n) (x : Int) : List.take (n + 1) (s ++ [x]) = s ++ [x] := by subst h; exact take_snoc_all s x
theorem parts_one (i : Nat) (l : List Int) : partsOk 1 [(i, .ints .u64 l)] := by simp [partsOk, known, dataB, dataB0, cellsOf]
theorem divide_walk (a b x y : List Int) (n L N X Y : Nat) (h1 : Meets Tryz.prog 107 [.ints .u64 a] (.ints .u64 x)) (h2 : Meets Tryz.prog 107 [.ints .u64 b] (.ints .u64 y)) (h3 : Meets Tryz.prog 108 [.ints .u64 x, .ints .u64 y] (.int .i64 (cmpN x y))) (hc : ¬ cmpN x y < 0)
    (g1 : ∀ nx rows gg ty, HMeets Tryz.prog 107 [.ints .u64 a] ⟨nx, rows, gg, ty⟩ fun res H' => res = .sl nx 0 n true ∧ H' = ⟨nx + 1, setRow rows nx (.ints .u64 x), gg, (nx, 25) :: ty⟩)
    (g2 : ∀ nx rows gg ty, HMeets Tryz.prog 107 [.ints .u64 b] ⟨nx, rows, gg, ty⟩ fun res H' => res = .sl nx 0 L true ∧ H' = ⟨nx + 1, setRow rows nx (.ints .u64 y), gg, (nx, 25) :: ty⟩)
    (hx : Limbs x) (hy : Limbs y) (hxn : x.length = n) (hyL : y.length = L) (hL : 1 ≤ L) (hN : N + L = n + 1) (hN0 : 1 ≤ N) (hn : n ≤ 20000) (hX : val x = X) (hY : val y = Y) (hlow : B64 ^ (L - 1) ≤ (Y : Int)) :
    Meets Tryz.prog 68 [.ints .u64 a, .ints .u64 b] (.tup [.ints .u64 (natL (X / Y)), .ints .u64 (natL (X % Y))]) := by
  have hYL : (Y : Int) < B64 ^ L := by rw [← hY, ← hyL]; exact (vt_bound hy y.length).2
  have hY0 : (0 : Int) < Y := Int.lt_of_lt_of_le (pow_pos64 _) hlow
  have hYn : Y < 18446744073709551616 ^ L := by
    have e : B64 ^ L = ((18446744073709551616 ^ L : Nat) : Int) := by rw [Int.natCast_pow]; rfl
    rw [e] at hYL
    exact Int.ofNat_lt.1 hYL
  have hmk : ∀ k, k ≤ 64 → Y * 2 ^ k < 18446744073709551616 ^ (L + 1) := fun k hk => by
    rw [Nat.pow_succ]
    exact Nat.mul_lt_mul_of_lt_of_le hYn (Nat.le_trans (Nat.pow_le_pow_right (by decide) hk) (by decide)) (by decide)
  have hmv : ∀ k, k ≤ 64 → vt (limbsOf (L + 1) (Y * 2 ^ k)) (L + 1) = (Y : Int) * 2 ^ k := fun k hk => by
    rw [limbsOf_vt _ _ _ (Nat.le_refl _), Nat.mod_eq_of_lt (hmk k hk), Int.natCast_mul, Int.natCast_pow]; rfl
  have hdb : ∀ k, k < 64 → Meets Tryz.prog 109 [.ints .u64 (limbsOf (L + 1) (Y * 2 ^ k)), .int .u64 0] (.ints .u64 (limbsOf (L + 1 + 1) (Y * 2 ^ (k + 1)))) := fun k hk => by
    have h := ref02_doubled (limbsOf (L + 1) (Y * 2 ^ k)) (limbsOf_limbs _ _) (by rw [limbsOf_length]; omega) 0 (by decide)
    rw [limbsOf_length, limbsOf_val (hmk k (by omega)), Int.add_zero, show (2 * ((Y * 2 ^ k : Nat) : Int)).toNat = Y * 2 ^ (k + 1) by rw [Nat.pow_succ, ← Nat.mul_assoc]; generalize Y * 2 ^ k = z; omega] at h
    exact h
  have hm0 : y ++ [0] = limbsOf (L + 1) (Y * 2 ^ 0) := by
    refine val_inj (limbs_snoc hy (by decide)) (limbsOf_limbs _ _) (by rw [len_snoc, limbsOf_length, hyL]) ?_
    rw [limbsOf_val (hmk 0 (by decide)), val_snoc, hY]; simp
  have hfin : ∀ q r, DvS q r (X : Int) (Y : Int) N (n + 1) 0 0 → Meets Tryz.prog 107 [.ints .u64 q] (.ints .u64 (natL (X / Y))) ∧ Meets Tryz.prog 107 [.ints .u64 r] (.ints .u64 (natL (X % Y))) := fun q r hS => by
    obtain ⟨f1, f2⟩ := hS.fin
    have k1 := ref02_short q (by rw [hS.ql]; omega)
    have k2 := ref02_short r (by rw [hS.rl]; omega)
    rw [trim_natLv hS.qlim f1] at k1
    rw [trim_natLv hS.rlim f2] at k2
    exact ⟨k1, k2⟩
  have hst := DvS.start (N := N) (Y := (Y : Int)) hx hxn hlow hL hN
  rw [hX] at hst
  have d0 : decide (cmpN x y < 0) = false := decide_eq_false hc
  have w0 : IntKind.wrap .i64 ((L : Int) + 1) = ((L + 1 : Nat) : Int) := wrap_i64 (by omega)
  have w1 : IntKind.wrap .i64 ((n : Int) - (L : Int)) = (N : Int) - 1 := by rw [wrap_i64 (by omega)]; omega
  have w2 : IntKind.wrap .i64 ((N : Int) - 1 + 1) = (N : Int) := by rw [wrap_i64 (by omega)]; omega
  have hxt : List.take n x = x := List.take_of_length_le (by omega)
  have hyt : List.take L y = y := List.take_of_length_le (by omega)
  generalize natL (X / Y) = rq at *
  generalize natL (X % Y) = rr at *
  clear hc hlow hX hY hYn
  refine meets_by ttOk Tryz.func68 Tryz.ntmps68 Tryz.results68 (by kernel_rfl) (c := _) rfl rfl rfl fun E => ?_
  simp only [argsFrame]
  repeat' first
    | (with_reducible first | refine PW.seq ?_ | refine PW.block ?_ | refine PW.fork ?_ | refine PW.skip ?_ | refine PW.exit ?_ | refine PW.ret ?_) | (simp only [d0, w0, w1, w2, hxn, hyL, hxt, hyt, Int.toNat_natCast]) | ((with_reducible refine PW.region ttOk ?_ ?_); rfl) | ((with_reducible refine PW.regionD ttOk mixed ?_ ?_ ?_); rfl; rfl) | (with_reducible refine ifW_dec (fun g => ?_) (fun g => ?_) <;> first | (exfalso; omega) | (simp -dsimp only [g, wkI])) | ((with_reducible first | refine condE_dec (fun g => ?_) (fun g => ?_) | refine condE_not (fun g => ?_) (fun g => ?_)) <;> try (exfalso; omega)) | (simp -dsimp only [↓wkA, ↓wkE, ↓wkJ, wkB, ↓tt, Nat.reduceBEq, Nat.reduceEqDiff, ↓reduceIte, Nat.reduceLT, Array.toList, Nat.reduceAdd, Nat.reduceMul, Int.reduceToNat, Int.reducePow, UInt8.reduceToNat]) | (refine call_by h1 (views_data rfl) ⟨trivial, trivial⟩ rfl ?_; clear h1) | (refine call_by h2 (views_data rfl) ⟨trivial, trivial⟩ rfl ?_; clear h2) | (refine call_by (h3) (views_data rfl) ⟨trivial, trivial, trivial⟩ rfl ?_) | (refine call_h (g2 _ _ _ _) ?_; rintro _ _ ⟨rfl, rfl⟩; refine ⟨_, _, rfl, ?_⟩) | (simp -dsimp (disch := first | assumption | omega) only [dec_t, dec_f])
    | (refine And.intro ?_ ?_
       · first | omega | decide | (simp (disch := omega) only [wkW, Int.reduceToNat, Int.reducePow] <;> omega) | (simp <;> omega)) | (simp (disch := omega) only [wkW, Int.reduceToNat, Int.reducePow])
  refine PW.loopA (fun m F H => ∃ k : Nat, k + m = 64 ∧ F = dvF x y a b k (limbsOf (L + 1) (Y * 2 ^ k)) ∧ H = ⟨3, [(2, .list 1 (mvs L Y k))], [], []⟩) 64 (dvF x y a b 0 (limbsOf (L + 1) (Y * 2 ^ 0))) ⟨3, [(2, .list 1 [])], [], []⟩ (Sub.trans (toData 9 0 0 (L + 1) true rfl (show 0 + (L + 1) ≤ (y ++ [0]).length by rw [len_snoc]; omega)) (Sub.trans (Sub.nilVarL 8 58 1 rfl) (Sub.norm ⟨rfl, ?_, rfl, rfl, rfl, rfl, rfl, trivial⟩ ⟨rfl, trivial⟩ (Nat.le_refl _) rfl rfl rfl rfl))) ⟨0, by omega, rfl, rfl⟩ ?_
  · show PV.ints .u64 (((y ++ [0]).drop 0).take (L + 1)) = _
    rw [List.drop_zero, take_snoc_n hyL, hm0]
  rintro m F H ⟨k, hk, rfl, rfl⟩
  have hml := mvs_len L Y k
  cases m with
  | succ m =>
    have hd := hdb k (by omega)
    have hms := mvs_succ L Y k
    have htk := limbsOf_take (L + 1) (Y * 2 ^ (k + 1)) 1
    have hll := limbsOf_length (L + 1 + 1) (Y * 2 ^ (k + 1))
    have w3 : IntKind.wrap .i64 ((k : Int) + 1) = ((k + 1 : Nat) : Int) := wrap_i64 (by omega)
    have hmt : List.take k (mvs L Y k) = mvs L Y k := List.take_of_length_le (by omega)
    generalize mvs L Y k = mv at *
    generalize limbsOf (L + 1 + 1) (Y * 2 ^ (k + 1)) = dd at *
    repeat' first
      | (with_reducible first | refine PW.seq ?_ | refine PW.block ?_ | refine PW.fork ?_ | refine PW.skip ?_ | refine PW.exit ?_ | refine PW.ret ?_) | (simp only [w0, w3, hyL, hmt, htk, Int.toNat_natCast]) | ((with_reducible refine PW.region ttOk ?_ ?_); rfl) | ((with_reducible refine PW.regionD ttOk mixed ?_ ?_ ?_); rfl; rfl) | (with_reducible refine ifW_dec (fun g => ?_) (fun g => ?_) <;> first | (exfalso; omega) | (simp -dsimp only [g, wkI])) | ((with_reducible first | refine condE_dec (fun g => ?_) (fun g => ?_) | refine condE_not (fun g => ?_) (fun g => ?_)) <;> try (exfalso; omega)) | (simp -dsimp only [↓wkA, ↓wkE, ↓wkJ, wkB, ↓tt, Nat.reduceBEq, Nat.reduceEqDiff, ↓reduceIte, Nat.reduceLT, Array.toList, Nat.reduceAdd, Nat.reduceMul, Int.reduceToNat, Int.reducePow, UInt8.reduceToNat])
      | (refine And.intro (parts_one _ _) ?_) | (refine call_by (hd) (views_data rfl) ⟨trivial, trivial, trivial⟩ rfl ?_) | (simp -dsimp (disch := first | assumption | omega) only [dec_t, dec_f])
      | (refine And.intro ?_ ?_
         · first | omega | decide | (simp (disch := omega) only [wkW, Int.reduceToNat, Int.reducePow] <;> omega) | (simp <;> omega)) | (simp (disch := omega) only [wkW, Int.reduceToNat, Int.reducePow])
    exact Again.mk m (dvF x y a b (k + 1) (limbsOf (L + 1) (Y * 2 ^ (k + 1)))) ⟨3, [(2, .list 1 (mvs L Y (k + 1)))], [], []⟩ (by omega) (Sub.norm ⟨rfl, rfl, congrArg (fun z => PV.sl 2 0 (z + 1) true) hml, rfl, rfl, rfl, rfl, trivial⟩ ⟨congrArg (fun z => some (PV.Row.list 1 z)) hms, trivial⟩ (by simp) rfl rfl rfl rfl) ⟨k + 1, by omega, rfl, rfl⟩
  | zero =>
    obtain rfl : k = 64 := by omega
    have hmg := fun k (hk : k < 64) => mvs_get L Y hk
    generalize mvs L Y 64 = mv at *
    repeat' first
      | (with_reducible first | refine PW.seq ?_ | refine PW.block ?_ | refine PW.fork ?_ | refine PW.skip ?_ | refine PW.exit ?_ | refine PW.ret ?_) | (simp only [w1, w2, hxn, hyL, hxt, Int.toNat_natCast]) | ((with_reducible refine PW.region ttOk ?_ ?_); rfl) | ((with_reducible refine PW.regionD ttOk mixed ?_ ?_ ?_); rfl; rfl) | (with_reducible refine ifW_dec (fun g => ?_) (fun g => ?_) <;> first | (exfalso; omega) | (simp -dsimp only [g, wkI])) | ((with_reducible first | refine condE_dec (fun g => ?_) (fun g => ?_) | refine condE_not (fun g => ?_) (fun g => ?_)) <;> try (exfalso; omega)) | (simp -dsimp only [↓wkA, ↓wkE, ↓wkJ, wkB, ↓tt, Nat.reduceBEq, Nat.reduceEqDiff, ↓reduceIte, Nat.reduceLT, Array.toList, Nat.reduceAdd, Nat.reduceMul, Int.reduceToNat, Int.reducePow, UInt8.reduceToNat]) | (refine call_h (g1 _ _ _ _) ?_; rintro _ _ ⟨rfl, rfl⟩; refine ⟨_, _, rfl, ?_⟩) | (simp -dsimp (disch := first | assumption | omega) only [dec_t, dec_f])
      | (refine And.intro ?_ ?_
         · first | omega | decide | (simp (disch := omega) only [wkW, Int.reduceToNat, Int.reducePow] <;> omega) | (simp <;> omega)) | (simp (disch := omega) only [wkW, Int.reduceToNat, Int.reducePow])
    refine PW.loopA (fun J F H => ∃ q r, J ≤ N ∧ DvS q r X Y N (n + 1) J 0 ∧ F = dvG n N J ∧ H = dvH mv r q) N (dvG n N N) (dvH mv (x ++ [0]) (List.replicate N 0)) (Sub.norm ⟨rfl, rfl, rfl, rfl, trivial⟩ ⟨rfl, rfl, rfl, trivial⟩ (Nat.le_refl _) rfl rfl rfl rfl) ⟨_, _, Nat.le_refl _, hst, rfl, rfl⟩ ?_
    clear hst
    rintro J F H ⟨q, r, hJ, hS, rfl, rfl⟩
    have hql := hS.ql
    have hrl := hS.rl
    cases J with
    | zero =>
      obtain ⟨f1, f2⟩ := hfin q r hS
      have hqt : List.take N q = q := List.take_of_length_le (by omega)
      have hrt : List.take (n + 1) r = r := List.take_of_length_le (by omega)
      repeat' first
        | (with_reducible first | refine PW.seq ?_ | refine PW.block ?_ | refine PW.fork ?_ | refine PW.skip ?_ | refine PW.exit ?_ | refine PW.ret ?_) | (simp only [hqt, hrt]) | ((with_reducible refine PW.region ttOk ?_ ?_); rfl) | ((with_reducible refine PW.regionD ttOk mixed ?_ ?_ ?_); rfl; rfl) | (with_reducible refine ifW_dec (fun g => ?_) (fun g => ?_) <;> first | (exfalso; omega) | (simp -dsimp only [g, wkI])) | ((with_reducible first | refine condE_dec (fun g => ?_) (fun g => ?_) | refine condE_not (fun g => ?_) (fun g => ?_)) <;> try (exfalso; omega)) | (simp -dsimp only [↓wkA, ↓wkE, ↓wkJ, wkB, ↓tt, Nat.reduceBEq, Nat.reduceEqDiff, ↓reduceIte, Nat.reduceLT, Array.toList, Nat.reduceAdd, Nat.reduceMul, Int.reduceToNat, Int.reducePow, UInt8.reduceToNat]) | (refine call_drop (args' := [.ints .u64 q]) (by simp -dsimp only [↓wkA, ↓wkE, ↓wkJ, wkB, ↓tt, Nat.reduceBEq, Nat.reduceEqDiff, ↓reduceIte, Nat.reduceLT, Array.toList, Nat.reduceAdd, Nat.reduceMul, Int.reduceToNat, Int.reducePow, UInt8.reduceToNat] <;> rw [hqt]) f1 (by simp -dsimp only [okViews, ↓wkA, ↓wkE, ↓wkJ, wkB, ↓tt, Nat.reduceBEq, Nat.reduceEqDiff, ↓reduceIte, Nat.reduceLT, Array.toList, Nat.reduceAdd, Nat.reduceMul, Int.reduceToNat, Int.reducePow, UInt8.reduceToNat] <;> omega) rfl ?_; clear f1; simp only [wkD, Nat.reduceBEq]) | (refine call_drop (args' := [.ints .u64 r]) (by simp -dsimp only [↓wkA, ↓wkE, ↓wkJ, wkB, ↓tt, Nat.reduceBEq, Nat.reduceEqDiff, ↓reduceIte, Nat.reduceLT, Array.toList, Nat.reduceAdd, Nat.reduceMul, Int.reduceToNat, Int.reducePow, UInt8.reduceToNat] <;> rw [hrt]) f2 (by simp -dsimp only [okViews, ↓wkA, ↓wkE, ↓wkJ, wkB, ↓tt, Nat.reduceBEq, Nat.reduceEqDiff, ↓reduceIte, Nat.reduceLT, Array.toList, Nat.reduceAdd, Nat.reduceMul, Int.reduceToNat, Int.reducePow, UInt8.reduceToNat] <;> omega) rfl ?_; clear f2; simp only [wkD, Nat.reduceBEq]) | (simp -dsimp (disch := first | assumption | omega) only [dec_t, dec_f])
        | (refine And.intro ?_ ?_
           · first | omega | decide | (simp (disch := omega) only [wkW, Int.reduceToNat, Int.reducePow] <;> omega) | (simp <;> omega)) | (simp (disch := omega) only [wkW, Int.reduceToNat, Int.reducePow])
    | succ j =>
      have e1 : (((j + 1 : Nat)) : Int) - 1 = (j : Int) := by omega
      have w3 : IntKind.wrap .i64 ((j : Int) - 1) = (j : Int) - 1 := wrap_i64 (by omega)
      repeat' first
        | (with_reducible first | refine PW.seq ?_ | refine PW.block ?_ | refine PW.fork ?_ | refine PW.skip ?_ | refine PW.exit ?_ | refine PW.ret ?_) | (simp only [e1]) | ((with_reducible refine PW.region ttOk ?_ ?_); rfl) | ((with_reducible refine PW.regionD ttOk mixed ?_ ?_ ?_); rfl; rfl) | (with_reducible refine ifW_dec (fun g => ?_) (fun g => ?_) <;> first | (exfalso; omega) | (simp -dsimp only [g, wkI])) | ((with_reducible first | refine condE_dec (fun g => ?_) (fun g => ?_) | refine condE_not (fun g => ?_) (fun g => ?_)) <;> try (exfalso; omega)) | (simp -dsimp only [↓wkA, ↓wkE, ↓wkJ, wkB, ↓tt, Nat.reduceBEq, Nat.reduceEqDiff, ↓reduceIte, Nat.reduceLT, Array.toList, Nat.reduceAdd, Nat.reduceMul, Int.reduceToNat, Int.reducePow, UInt8.reduceToNat]) | (simp -dsimp (disch := first | assumption | omega) only [dec_t, dec_f])
        | (refine And.intro ?_ ?_
           · first | omega | decide | (simp (disch := omega) only [wkW, Int.reduceToNat, Int.reducePow] <;> omega) | (simp <;> omega)) | (simp (disch := omega) only [wkW, Int.reduceToNat, Int.reducePow])
      refine PW.loopA (fun K F H => ∃ q r, K ≤ 64 ∧ DvS q r X Y N (n + 1) j K ∧ F = dvI n N j K ∧ H = dvH mv r q) 64 (dvI n N j 64) (dvH mv r q) (Sub.norm ⟨rfl, congrArg (PV.int .i64) e1, rfl, rfl, rfl, trivial⟩ ⟨rfl, rfl, rfl, trivial⟩ (Nat.le_refl _) rfl rfl rfl rfl) ⟨_, _, Nat.le_refl _, hS.next, rfl, rfl⟩ ?_
      clear hS hql hrl
      rintro K F H ⟨q, r, hK, hS, rfl, rfl⟩
      have hql := hS.ql
      have hrl := hS.rl
      cases K with
      | zero =>
        repeat' first
          | (with_reducible first | refine PW.seq ?_ | refine PW.block ?_ | refine PW.fork ?_ | refine PW.skip ?_ | refine PW.exit ?_ | refine PW.ret ?_) | (simp only [w3]) | ((with_reducible refine PW.region ttOk ?_ ?_); rfl) | ((with_reducible refine PW.regionD ttOk mixed ?_ ?_ ?_); rfl; rfl) | (with_reducible refine ifW_dec (fun g => ?_) (fun g => ?_) <;> first | (exfalso; omega) | (simp -dsimp only [g, wkI])) | ((with_reducible first | refine condE_dec (fun g => ?_) (fun g => ?_) | refine condE_not (fun g => ?_) (fun g => ?_)) <;> try (exfalso; omega)) | (simp -dsimp only [↓wkA, ↓wkE, ↓wkJ, wkB, ↓tt, Nat.reduceBEq, Nat.reduceEqDiff, ↓reduceIte, Nat.reduceLT, Array.toList, Nat.reduceAdd, Nat.reduceMul, Int.reduceToNat, Int.reducePow, UInt8.reduceToNat]) | (simp -dsimp (disch := first | assumption | omega) only [dec_t, dec_f])
          | (refine And.intro ?_ ?_
             · first | omega | decide | (simp (disch := omega) only [wkW, Int.reduceToNat, Int.reducePow] <;> omega) | (simp <;> omega)) | (simp (disch := omega) only [wkW, Int.reduceToNat, Int.reducePow])
        exact Again.mk j (dvG n N j) (dvH mv r q) (by omega) (Sub.norm ⟨rfl, rfl, rfl, rfl, trivial⟩ ⟨rfl, rfl, rfl, trivial⟩ (by simp) rfl rfl rfl rfl) ⟨_, _, by omega, hS, rfl, rfl⟩
      | succ k =>
        have e2 : (((k + 1 : Nat)) : Int) - 1 = (k : Int) := by omega
        have w4 : IntKind.wrap .i64 ((k : Int) - 1) = (k : Int) - 1 := wrap_i64 (by omega)
        have hg := hmg k (by omega)
        have hmk' := hmv k (by omega)
        have hLm := limbsOf_limbs (L + 1) (Y * 2 ^ k)
        have hlm := limbsOf_length (L + 1) (Y * 2 ^ k)
        have hseg := hS.seg hYL hY0 (by omega) (by omega)
        have hlo := vt_bound hS.rlim j
        have hho := ref02_holds r (limbsOf (L + 1) (Y * 2 ^ k)) hS.rlim hLm j (L + 1) hlm (by omega) (by omega)
        have hto := fun nx rows gg ty hr => ref02_take_off r (limbsOf (L + 1) (Y * 2 ^ k)) hS.rlim hLm j (L + 1) hlm (by omega) (by omega) true 3 nx rows gg ty hr
        rw [hmk'] at hho hto
        rw [hrl] at hto
        have hrt : List.take (n + 1) r = r := List.take_of_length_le (by omega)
        generalize limbsOf (L + 1) (Y * 2 ^ k) = mk at *
        by_cases hh : (Y : Int) * 2 ^ k ≤ vt (r.drop j) (L + 1)
        · rw [decide_eq_true hh] at hho
          have hyes : ∀ r' b, PartS r r' j (L + 1) → 0 ≤ b → b ≤ 1 → vt (r'.drop j) (L + 1) = vt (r.drop j) (L + 1) - (Y : Int) * 2 ^ k + B64 ^ (L + 1) * b → DvS (q.set j (q.getD j 0 + 2 ^ k)) r' X Y N (n + 1) j k ∧ q.getD j 0 + 2 ^ k < B64 := fun r' b hP hb0 hb1 he => by
            have hb : b = 0 := by
              rcases (show b = 0 ∨ b = 1 by omega) with h | h
              · exact h
              · exfalso
                have h5 := (vt_bound (limbs_drop hP.lim j) (L + 1)).2
                rw [he, h, Int.mul_one] at h5
                omega
            refine hS.yes (by omega) (by omega) (by rw [hP.len, hrl]) hP.lim ?_
            rw [part_valD hP (by omega), he, hb]
            generalize B64 ^ j = p
            generalize (2 : Int) ^ k = t
            generalize vt (r.drop j) (L + 1) = z
            grind
          have hor : q.getD j 0 + 2 ^ k < B64 → ibits .or .u64 (q.getD j 0) (2 ^ k) = q.getD j 0 + 2 ^ k := fun hlt => by
            obtain ⟨t, ht⟩ := Int.dvd_of_emod_eq_zero hS.part
            have hx0 := getD_limb hS.qlim j
            have ht0 : 0 ≤ t := by
              refine Int.le_of_not_gt fun h => ?_
              have : 2 ^ (k + 1) * t < 0 := Int.mul_neg_of_pos_of_neg (Int.pow_pos (by decide)) h
              omega
            have h6 := or_low t (2 ^ k) (k + 1) ht0 ⟨Int.le_of_lt (Int.pow_pos (by decide)), by rw [Int.pow_succ]; have : (0 : Int) < 2 ^ k := Int.pow_pos (by decide); omega⟩ (by rw [Int.mul_comm, ← ht]; simp only [B64] at hlt; omega)
            rw [Int.mul_comm, ← ht] at h6
            exact h6
          have w5 : IntKind.wrap .u64 (k : Int) = (k : Int) := wrap_u64 (by omega)
          have w6 : IntKind.wrap .u64 (1 * 2 ^ min k 64) = 2 ^ k := by
            rw [Nat.min_eq_left (by omega), Int.one_mul]
            have h7 : (2 : Int) ^ k ≤ 2 ^ 63 := by exact_mod_cast Nat.pow_le_pow_right (by decide) (show k ≤ 63 by omega)
            have h8 : (0 : Int) < 2 ^ k := Int.pow_pos (by decide)
            generalize (2 : Int) ^ k = z at *
            exact wrap_u64 (by omega)
          clear hdb hmv hmk hmg hfin
          repeat' first
            | (with_reducible first | refine PW.seq ?_ | refine PW.block ?_ | refine PW.fork ?_ | refine PW.skip ?_ | refine PW.exit ?_ | refine PW.ret ?_) | (simp only [e2, w5, w6, hg, hrt, Int.toNat_natCast]) | ((with_reducible refine PW.region ttOk ?_ ?_); rfl) | ((with_reducible refine PW.regionD ttOk mixed ?_ ?_ ?_); rfl; rfl) | (with_reducible refine ifW_dec (fun g => ?_) (fun g => ?_) <;> first | (exfalso; omega) | (simp -dsimp only [g, wkI])) | ((with_reducible first | refine condE_dec (fun g => ?_) (fun g => ?_) | refine condE_not (fun g => ?_) (fun g => ?_)) <;> try (exfalso; omega)) | (simp -dsimp only [↓wkA, ↓wkE, ↓wkJ, wkB, ↓tt, Nat.reduceBEq, Nat.reduceEqDiff, ↓reduceIte, Nat.reduceLT, Array.toList, Nat.reduceAdd, Nat.reduceMul, Int.reduceToNat, Int.reducePow, UInt8.reduceToNat]) | (refine call_by' (args' := [.ints .u64 r, .int .i64 (j : Int), .ints .u64 mk]) (by simp -dsimp only [↓wkA, ↓wkE, ↓wkJ, wkB, ↓tt, Nat.reduceBEq, Nat.reduceEqDiff, ↓reduceIte, Nat.reduceLT, Array.toList, Nat.reduceAdd, Nat.reduceMul, Int.reduceToNat, Int.reducePow, UInt8.reduceToNat] <;> rw [hrt]) hho (by simp -dsimp only [okViews, ↓wkA, ↓wkE, ↓wkJ, wkB, ↓tt, Nat.reduceBEq, Nat.reduceEqDiff, ↓reduceIte, Nat.reduceLT, Array.toList, Nat.reduceAdd, Nat.reduceMul, Int.reduceToNat, Int.reducePow, UInt8.reduceToNat] <;> omega) rfl ?_) | (refine call_h (hto _ _ _ _ rfl) ?_; rintro _ _ ⟨r', b, hP, hb0, hb1, he, rfl⟩; refine ⟨_, _, rfl, ?_⟩) | (simp -dsimp (disch := first | assumption | omega) only [dec_t, dec_f])
            | (refine And.intro ?_ ?_
               · first | omega | decide | (simp (disch := omega) only [wkW, Int.reduceToNat, Int.reducePow] <;> omega) | (simp <;> omega)) | (simp (disch := omega) only [wkW, Int.reduceToNat, Int.reducePow])
          obtain ⟨hd1, hlt⟩ := hyes r' b hP hb0 hb1 he
          rw [hor hlt]
          exact Again.mk k (dvI n N j k) (dvH mv r' (q.set j (q.getD j 0 + 2 ^ k))) (by omega) (Sub.norm ⟨rfl, rfl, rfl, rfl, rfl, trivial⟩ ⟨rfl, rfl, rfl, trivial⟩ (by simp) rfl rfl rfl rfl) ⟨_, _, by omega, hd1, rfl, rfl⟩
        · rw [decide_eq_false hh] at hho
          have hno := hS.no (by
            rw [hseg]
            have h5 : B64 ^ j * (vt (r.drop j) (L + 1) + 1) ≤ B64 ^ j * ((Y : Int) * 2 ^ k) := Int.mul_le_mul_of_nonneg_left (by omega) (Int.le_of_lt (pow_pos64 j))
            rw [Int.mul_add, Int.mul_one] at h5
            have e3 : (Y : Int) * (B64 ^ j * 2 ^ k) = B64 ^ j * ((Y : Int) * 2 ^ k) := by rw [Int.mul_left_comm]
            omega)
          clear hdb hmv hmk hmg hfin
          repeat' first
            | (with_reducible first | refine PW.seq ?_ | refine PW.block ?_ | refine PW.fork ?_ | refine PW.skip ?_ | refine PW.exit ?_ | refine PW.ret ?_) | (simp only [e2, w4, hg, hrt, Int.toNat_natCast]) | ((with_reducible refine PW.region ttOk ?_ ?_); rfl) | ((with_reducible refine PW.regionD ttOk mixed ?_ ?_ ?_); rfl; rfl) | (with_reducible refine ifW_dec (fun g => ?_) (fun g => ?_) <;> first | (exfalso; omega) | (simp -dsimp only [g, wkI])) | ((with_reducible first | refine condE_dec (fun g => ?_) (fun g => ?_) | refine condE_not (fun g => ?_) (fun g => ?_)) <;> try (exfalso; omega)) | (simp -dsimp only [↓wkA, ↓wkE, ↓wkJ, wkB, ↓tt, Nat.reduceBEq, Nat.reduceEqDiff, ↓reduceIte, Nat.reduceLT, Array.toList, Nat.reduceAdd, Nat.reduceMul, Int.reduceToNat, Int.reducePow, UInt8.reduceToNat]) | (refine call_by' (args' := [.ints .u64 r, .int .i64 (j : Int), .ints .u64 mk]) (by simp -dsimp only [↓wkA, ↓wkE, ↓wkJ, wkB, ↓tt, Nat.reduceBEq, Nat.reduceEqDiff, ↓reduceIte, Nat.reduceLT, Array.toList, Nat.reduceAdd, Nat.reduceMul, Int.reduceToNat, Int.reducePow, UInt8.reduceToNat] <;> rw [hrt]) hho (by simp -dsimp only [okViews, ↓wkA, ↓wkE, ↓wkJ, wkB, ↓tt, Nat.reduceBEq, Nat.reduceEqDiff, ↓reduceIte, Nat.reduceLT, Array.toList, Nat.reduceAdd, Nat.reduceMul, Int.reduceToNat, Int.reducePow, UInt8.reduceToNat] <;> omega) rfl ?_) | (simp -dsimp (disch := first | assumption | omega) only [dec_t, dec_f])
            | (refine And.intro ?_ ?_
               · first | omega | decide | (simp (disch := omega) only [wkW, Int.reduceToNat, Int.reducePow] <;> omega) | (simp <;> omega)) | (simp (disch := omega) only [wkW, Int.reduceToNat, Int.reducePow])
          exact Again.mk k (dvI n N j k) (dvH mv r q) (by omega) (Sub.norm ⟨rfl, rfl, rfl, rfl, rfl, trivial⟩ ⟨rfl, rfl, rfl, trivial⟩ (by simp) rfl rfl rfl rfl) ⟨_, _, by omega, hno, rfl, rfl⟩
theorem ref04_decode (d : Nat) (hd : d < 18446744073709551616) : Meets Tryz.prog 50 [.int .u64 (d : Int)] (partsP d) := by
  have hb := field_lt d
  have hf := frac_lt d
  have h1 : decide ((d : Int) / 9223372036854775808 = 1) = negD d := decide_eq_decide.2 (by omega)
  have h2 : (d : Int) / 4503599627370496 % 2048 = (fieldD d : Int) := by have := shr_52 (d := d); omega
  have h3 : (d : Int) % 4503599627370496 = (fracD d : Int) := by unfold fracD; omega
  have w0 : IntKind.wrap .u64 ((d : Int) / 9223372036854775808) = (d : Int) / 9223372036854775808 := wrap_u64 (by omega)
  have w1 : IntKind.wrap .u64 ((d : Int) / 4503599627370496) = (d : Int) / 4503599627370496 := wrap_u64 (by omega)
  have w2 : IntKind.wrap .i64 (fieldD d : Int) = (fieldD d : Int) := wrap_i64 (by omega)
  have w3 : IntKind.wrap .u64 (4503599627370496 + (fracD d : Int)) = 4503599627370496 + (fracD d : Int) := wrap_u64 (by omega)
  have w4 : IntKind.wrap .i64 ((fieldD d : Int) - 1075) = (fieldD d : Int) - 1075 := wrap_i64 (by omega)
  have hC : classD d = if fieldD d = 2047 then (if fracD d = 0 then 3 else 4) else if 0 < fieldD d then 2 else if fracD d = 0 then 0 else 1 := by
    have := abs_zero (d := d)
    unfold classD
    repeat' split
    all_goals omega
  have hM : partsM d = if fieldD d = 2047 then (fracD d : Int) else if 0 < fieldD d then 4503599627370496 + (fracD d : Int) else (fracD d : Int) := by
    unfold partsM mantD
    rw [hC]
    repeat' split
    all_goals omega
  have hE : partsE d = if fieldD d = 2047 then 0 else if 0 < fieldD d then (fieldD d : Int) - 1075 else if fracD d = 0 then 0 else -1074 := by
    unfold partsE expD
    rw [hC]
    repeat' split
    all_goals omega
  have q0 : (d : Int).tdiv 9223372036854775808 = (d : Int) / 9223372036854775808 := Int.tdiv_eq_ediv_of_nonneg (by omega)
  have q1 : (d : Int).tdiv 4503599627370496 = (d : Int) / 4503599627370496 := Int.tdiv_eq_ediv_of_nonneg (by omega)
  have q2 : ((d : Int) / 4503599627370496).tmod 2048 = (fieldD d : Int) := by rw [Int.tmod_eq_emod_of_nonneg (by omega)]; exact h2
  have q3 : (d : Int).tmod 4503599627370496 = (fracD d : Int) := by rw [Int.tmod_eq_emod_of_nonneg (by omega)]; exact h3
  unfold partsP
  rw [hM, hE, hC]
  clear hM hE hC
  generalize fieldD d = fd at *
  generalize fracD d = fr at *
  generalize negD d = ng at *
  refine meets_by ttOk Tryz.func50 Tryz.ntmps50 Tryz.results50 (by kernel_rfl) (c := _) rfl rfl rfl fun E => ?_
  simp only [argsFrame]
  repeat' first
    | (simp only [q0, q1, q2, q3, w0, w1, h1, w2, w3, w4]) | (with_reducible first | refine PW.seq ?_ | refine PW.block ?_ | refine PW.fork ?_ | refine PW.skip ?_ | refine PW.exit ?_ | refine PW.ret ?_) | ((with_reducible refine PW.region ttOk ?_ ?_); rfl) | ((with_reducible refine PW.regionD ttOk mixed ?_ ?_ ?_); rfl; rfl) | (with_reducible refine ifW_dec (fun g => ?_) (fun g => ?_) <;> first | (exfalso; omega) | (simp -dsimp only [g, wkI])) | ((with_reducible first | refine condE_dec (fun g => ?_) (fun g => ?_) | refine condE_not (fun g => ?_) (fun g => ?_)) <;> try (exfalso; omega)) | (simp -dsimp only [↓wkA, ↓wkE, ↓wkJ, wkB, ↓tt, Nat.reduceBEq, Nat.reduceEqDiff, ↓reduceIte, Nat.reduceLT, Array.toList, Nat.reduceAdd, Nat.reduceMul, Int.reduceToNat, Int.reducePow, UInt8.reduceToNat]) | (simp -dsimp (disch := first | assumption | omega) only [dec_t, dec_f])
    | (refine And.intro ?_ ?_
       · first | omega | decide | (simp (disch := omega) only [wkW, Int.reduceToNat, Int.reducePow] <;> omega) | (simp <;> omega)) | (simp (disch := omega) only [wkW, Int.reduceToNat, Int.reducePow])
  all_goals ((repeat' split) <;> first | rfl | (exfalso; omega) | (subst_vars; rfl))
theorem ref04_class (d : Nat) (hd : d < 18446744073709551616) : Meets Tryz.prog 24 [.int .u64 (d : Int)] (.int .i64 (classD d)) := by
  have h1 := ref04_decode d hd
  unfold partsP at h1
  generalize negD d = x1 at *
  generalize classD d = x2 at *
  generalize partsM d = x3 at *
  generalize partsE d = x4 at *
  refine meets_by ttOk Tryz.func24 Tryz.ntmps24 Tryz.results24 (by kernel_rfl) (c := _) rfl rfl rfl fun E => ?_
  simp only [argsFrame]
  repeat' first
    | (with_reducible first | refine PW.seq ?_ | refine PW.block ?_ | refine PW.fork ?_ | refine PW.skip ?_ | refine PW.exit ?_ | refine PW.ret ?_) | ((with_reducible refine PW.region ttOk ?_ ?_); rfl) | ((with_reducible refine PW.regionD ttOk mixed ?_ ?_ ?_); rfl; rfl) | (with_reducible refine ifW_dec (fun g => ?_) (fun g => ?_) <;> first | (exfalso; omega) | (simp -dsimp only [g, wkI])) | ((with_reducible first | refine condE_dec (fun g => ?_) (fun g => ?_) | refine condE_not (fun g => ?_) (fun g => ?_)) <;> try (exfalso; omega)) | (simp -dsimp only [↓wkA, ↓wkE, ↓wkJ, wkB, ↓tt, Nat.reduceBEq, Nat.reduceEqDiff, ↓reduceIte, Nat.reduceLT, Array.toList, Nat.reduceAdd, Nat.reduceMul, Int.reduceToNat, Int.reducePow, UInt8.reduceToNat]) | (refine call_by (h1) (views_data rfl) ⟨trivial, trivial⟩ rfl ?_) | (simp -dsimp (disch := first | assumption | omega) only [dec_t, dec_f])
    | (refine And.intro ?_ ?_
       · first | omega | decide | (simp (disch := omega) only [wkW, Int.reduceToNat, Int.reducePow] <;> omega) | (simp <;> omega)) | (simp (disch := omega) only [wkW, Int.reduceToNat, Int.reducePow])
theorem short_finite (d : Nat) (hd : d < 18446744073709551616) : Meets Tryz.prog 26 [.int .u64 (d : Int)] (.bool (decide (finD d))) := by
  have h1 := ieee_class d hd
  have h2 : decide (classD d < 3) = decide (finD d) := decide_eq_decide.2 (by
    have hb := field_lt d
    unfold finD classD
    have ha := abs_zero (d := d)
    repeat' split
    all_goals omega)
  generalize classD d = c at *
  generalize decide (finD d) = b at *
  refine meets_by ttOk Tryz.func26 Tryz.ntmps26 Tryz.results26 (by kernel_rfl) (c := _) rfl rfl rfl fun E => ?_
  simp only [argsFrame]
  repeat' first
    | (with_reducible first | refine PW.seq ?_ | refine PW.block ?_ | refine PW.fork ?_ | refine PW.skip ?_ | refine PW.exit ?_ | refine PW.ret ?_) | (simp only [h2]) | ((with_reducible refine PW.region ttOk ?_ ?_); rfl) | ((with_reducible refine PW.regionD ttOk mixed ?_ ?_ ?_); rfl; rfl) | (with_reducible refine ifW_dec (fun g => ?_) (fun g => ?_) <;> first | (exfalso; omega) | (simp -dsimp only [g, wkI])) | ((with_reducible first | refine condE_dec (fun g => ?_) (fun g => ?_) | refine condE_not (fun g => ?_) (fun g => ?_)) <;> try (exfalso; omega)) | (simp -dsimp only [↓wkA, ↓wkE, ↓wkJ, wkB, ↓tt, Nat.reduceBEq, Nat.reduceEqDiff, ↓reduceIte, Nat.reduceLT, Array.toList, Nat.reduceAdd, Nat.reduceMul, Int.reduceToNat, Int.reducePow, UInt8.reduceToNat]) | (refine call_by (h1) (views_data rfl) ⟨trivial, trivial⟩ rfl ?_) | (simp -dsimp (disch := first | assumption | omega) only [dec_t, dec_f])
    | (refine And.intro ?_ ?_
       · first | omega | decide | (simp (disch := omega) only [wkW, Int.reduceToNat, Int.reducePow] <;> omega) | (simp <;> omega)) | (simp (disch := omega) only [wkW, Int.reduceToNat, Int.reducePow])
theorem digits_natU {v : Nat} (hv : v < NMax) : Meets Tryz.prog 61 [.ints .u64 (natL v)] (.tup [.str (written 10 false v), .int .i64 0]) := by
  have h1 := natL_small hv
  have h := digits (natL v) (natL_limbs v) (by omega)
  have h2 := size_le (natL v)
  unfold decA at h
  rw [if_neg (by omega), val_natL] at h
  exact h
theorem ref_digits_natU {v : Nat} (hv : v < NMax) : Meets Tryz.prog 75 [.ints .u64 (natL v)] (.tup [.str (written 10 false v), .int .i64 0]) := by
  have h1 := natL_small hv
  have h := ref_digits (natL v) (natL_limbs v) (by omega)
  have h2 := size_le (natL v)
  unfold decA at h
  rw [if_neg (by omega), val_natL] at h
  exact h
theorem ref_cmpU {u v : Nat} (hu : u < 2 ^ 2700) (hv : v < 2 ^ 2700) : Meets Tryz.prog 72 [.ints .u64 (natL u), .ints .u64 (natL v)] (.int .i64 (cmpU u v)) := by
  have l1 := big_len hu
  have l2 := big_len hv
  have h := ref01_cmp (natL u) (natL v) (natL_limbs u) (natL_limbs v) (by omega) (by omega)
  rw [cmpU_nat (val_natL u) (val_natL v)] at h
  exact h
theorem least_walk (m e k c : Int) (N D : List Int) (b : Bool) (h1 : Meets Tryz.prog 67 [.int .u64 m, .int .i64 e, .int .i64 k] (.tup [.ints .u64 N, .ints .u64 D])) (h2 : Meets Tryz.prog 72 [.ints .u64 N, .ints .u64 D] (.int .i64 c)) (hb : decide (0 ≤ c) = b) : Meets Tryz.prog 66 [.int .u64 m, .int .i64 e, .int .i64 k] (.bool b) := by
  refine meets_by ttOk Tryz.func66 Tryz.ntmps66 Tryz.results66 (by kernel_rfl) (c := _) rfl rfl rfl fun E => ?_
  simp only [argsFrame]
  repeat' first
    | (with_reducible first | refine PW.seq ?_ | refine PW.block ?_ | refine PW.fork ?_ | refine PW.skip ?_ | refine PW.exit ?_ | refine PW.ret ?_) | (simp only [hb]) | ((with_reducible refine PW.region ttOk ?_ ?_); rfl) | ((with_reducible refine PW.regionD ttOk mixed ?_ ?_ ?_); rfl; rfl) | (with_reducible refine ifW_dec (fun g => ?_) (fun g => ?_) <;> first | (exfalso; omega) | (simp -dsimp only [g, wkI])) | ((with_reducible first | refine condE_dec (fun g => ?_) (fun g => ?_) | refine condE_not (fun g => ?_) (fun g => ?_)) <;> try (exfalso; omega)) | (simp -dsimp only [↓wkA, ↓wkE, ↓wkJ, wkB, ↓tt, Nat.reduceBEq, Nat.reduceEqDiff, ↓reduceIte, Nat.reduceLT, Array.toList, Nat.reduceAdd, Nat.reduceMul, Int.reduceToNat, Int.reducePow, UInt8.reduceToNat]) | (refine call_by (h1) (views_data rfl) ⟨trivial, trivial, trivial, trivial⟩ rfl ?_) | (refine call_by (h2) (views_data rfl) ⟨trivial, trivial, trivial⟩ rfl ?_) | (simp -dsimp (disch := first | assumption | omega) only [dec_t, dec_f])
    | (refine And.intro ?_ ?_
       · first | omega | decide | (simp (disch := omega) only [wkW, Int.reduceToNat, Int.reducePow] <;> omega) | (simp <;> omega)) | (simp (disch := omega) only [wkW, Int.reduceToNat, Int.reducePow])
theorem up_small {m : Nat} {e k : Int} (hm : m < 2 ^ 60) (he : -1100 ≤ e ∧ e ≤ 1000) (hk : -420 ≤ k ∧ k ≤ 420) : m * upS e k < 2 ^ 2700 ∧ beS e k < 2 ^ 2700 :=
  ⟨Nat.lt_of_lt_of_le (Nat.mul_lt_mul'' hm (upS_lt he.2 hk.1)) (by decide +kernel), Nat.lt_of_lt_of_le (beS_lt he.1 hk.2) (Nat.pow_le_pow_right (by decide) (by decide))⟩
theorem ref12_least (m : Nat) (e k : Int) (hm : m < 2 ^ 60) (he : -1100 ≤ e ∧ e ≤ 1000) (hk : -420 ≤ k ∧ k ≤ 420) : Meets Tryz.prog 66 [.int .u64 (m : Int), .int .i64 e, .int .i64 k] (.bool (decide (GeT m e k))) := by
  obtain ⟨b1, b2⟩ := up_small hm he hk
  refine least_walk _ _ _ _ _ _ _ (ref12_scaled m e k hm he hk) (ref_cmpU b1 b2) (decide_eq_decide.2 ?_)
  unfold GeT
  rcases cmpU_cases (m * upS e k) (beS e k) with ⟨h1, h2⟩ | ⟨h1, h2⟩ | ⟨h1, h2⟩ <;> rw [h1] <;> omega
theorem tens_walk (m e bl b q k0 kT : Int) (hbl : Meets Tryz.prog 65 [.ints .u64 [m]] (.int .i64 bl)) (w1 : IntKind.wrap .i64 (bl - 1) = bl - 1) (w2 : IntKind.wrap .i64 (bl - 1 + e) = b) (w3 : IntKind.wrap .i64 (b * 30103) = q) (w4 : IntKind.wrap .i64 (q.tdiv 100000) = k0)
    (hk0 : -410 ≤ k0 ∧ k0 ≤ 410) (hkT : -400 ≤ kT ∧ kT < 400)
    (hat : ∀ i : Int, -412 ≤ i → i ≤ 412 → Meets Tryz.prog 66 [.int .u64 m, .int .i64 e, .int .i64 i] (.bool (decide (i ≤ kT)))) :
    Meets Tryz.prog 34 [.int .u64 m, .int .i64 e] (.int .i64 kT) := by
  refine meets_by ttOk Tryz.func34 Tryz.ntmps34 Tryz.results34 (by kernel_rfl) (c := _) rfl rfl rfl fun E => ?_
  simp only [argsFrame]
  repeat' first
    | (with_reducible first | refine PW.seq ?_ | refine PW.block ?_ | refine PW.fork ?_ | refine PW.skip ?_ | refine PW.exit ?_ | refine PW.ret ?_) | (simp only [w1, w2, w3, w4]) | ((with_reducible refine PW.region ttOk ?_ ?_); rfl) | ((with_reducible refine PW.regionD ttOk mixed ?_ ?_ ?_); rfl; rfl) | (with_reducible refine ifW_dec (fun g => ?_) (fun g => ?_) <;> first | (exfalso; omega) | (simp -dsimp only [g, wkI])) | ((with_reducible first | refine condE_dec (fun g => ?_) (fun g => ?_) | refine condE_not (fun g => ?_) (fun g => ?_)) <;> try (exfalso; omega)) | (simp -dsimp only [↓wkA, ↓wkE, ↓wkJ, wkB, ↓tt, Nat.reduceBEq, Nat.reduceEqDiff, ↓reduceIte, Nat.reduceLT, Array.toList, Nat.reduceAdd, Nat.reduceMul, Int.reduceToNat, Int.reducePow, UInt8.reduceToNat]) | (refine call_by' (args' := [.ints .u64 [m]]) rfl hbl ⟨Nat.le_refl _, trivial⟩ rfl ?_) | (simp -dsimp (disch := first | assumption | omega) only [dec_t, dec_f])
    | (refine And.intro ?_ ?_
       · first | omega | decide | (simp (disch := omega) only [wkW, Int.reduceToNat, Int.reducePow] <;> omega) | (simp <;> omega)) | (simp (disch := omega) only [wkW, Int.reduceToNat, Int.reducePow])
  refine PW.loopA (fun n F H => ∃ i : Int, (i - kT).toNat = n ∧ -410 ≤ i ∧ i ≤ 410 ∧ F = [(6, .int .i64 i), (0, .int .u64 m), (1, .int .i64 e)] ∧ H = ⟨0, [], [], []⟩) (k0 - kT).toNat [(6, .int .i64 k0), (0, .int .u64 m), (1, .int .i64 e)] ⟨0, [], [], []⟩ (Sub.norm ⟨rfl, rfl, rfl, trivial⟩ trivial (by simp) rfl rfl rfl rfl) ⟨k0, rfl, hk0.1, hk0.2, rfl, rfl⟩ ?_
  rintro n F H ⟨i, hi, hi2, hi3, rfl, rfl⟩
  have h1 := hat i (by omega) (by omega)
  cases n with
  | succ n =>
    have d1 : decide (i ≤ kT) = false := decide_eq_false (by omega)
    have w5 : IntKind.wrap .i64 (i - 1) = i - 1 := wrap_i64 (by omega)
    rw [d1] at h1
    repeat' first
      | (with_reducible first | refine PW.seq ?_ | refine PW.block ?_ | refine PW.fork ?_ | refine PW.skip ?_ | refine PW.exit ?_ | refine PW.ret ?_) | (simp only [w5]) | ((with_reducible refine PW.region ttOk ?_ ?_); rfl) | ((with_reducible refine PW.regionD ttOk mixed ?_ ?_ ?_); rfl; rfl) | (with_reducible refine ifW_dec (fun g => ?_) (fun g => ?_) <;> first | (exfalso; omega) | (simp -dsimp only [g, wkI])) | ((with_reducible first | refine condE_dec (fun g => ?_) (fun g => ?_) | refine condE_not (fun g => ?_) (fun g => ?_)) <;> try (exfalso; omega)) | (simp -dsimp only [↓wkA, ↓wkE, ↓wkJ, wkB, ↓tt, Nat.reduceBEq, Nat.reduceEqDiff, ↓reduceIte, Nat.reduceLT, Array.toList, Nat.reduceAdd, Nat.reduceMul, Int.reduceToNat, Int.reducePow, UInt8.reduceToNat]) | (refine call_by (h1) (views_data rfl) ⟨trivial, trivial, trivial, trivial⟩ rfl ?_) | (simp -dsimp (disch := first | assumption | omega) only [dec_t, dec_f])
      | (refine And.intro ?_ ?_
         · first | omega | decide | (simp (disch := omega) only [wkW, Int.reduceToNat, Int.reducePow] <;> omega) | (simp <;> omega)) | (simp (disch := omega) only [wkW, Int.reduceToNat, Int.reducePow])
    exact Again.mk n [(6, .int .i64 (i - 1)), (0, .int .u64 m), (1, .int .i64 e)] ⟨0, [], [], []⟩ (by omega) (Sub.norm ⟨rfl, rfl, rfl, trivial⟩ trivial (by simp) rfl rfl rfl rfl) ⟨i - 1, by omega, by omega, by omega, rfl, rfl⟩
  | zero =>
    have d1 : decide (i ≤ kT) = true := decide_eq_true (by omega)
    rw [d1] at h1
    repeat' first
      | (with_reducible first | refine PW.seq ?_ | refine PW.block ?_ | refine PW.fork ?_ | refine PW.skip ?_ | refine PW.exit ?_ | refine PW.ret ?_) | ((with_reducible refine PW.region ttOk ?_ ?_); rfl) | ((with_reducible refine PW.regionD ttOk mixed ?_ ?_ ?_); rfl; rfl) | (with_reducible refine ifW_dec (fun g => ?_) (fun g => ?_) <;> first | (exfalso; omega) | (simp -dsimp only [g, wkI])) | ((with_reducible first | refine condE_dec (fun g => ?_) (fun g => ?_) | refine condE_not (fun g => ?_) (fun g => ?_)) <;> try (exfalso; omega)) | (simp -dsimp only [↓wkA, ↓wkE, ↓wkJ, wkB, ↓tt, Nat.reduceBEq, Nat.reduceEqDiff, ↓reduceIte, Nat.reduceLT, Array.toList, Nat.reduceAdd, Nat.reduceMul, Int.reduceToNat, Int.reducePow, UInt8.reduceToNat]) | (refine call_by (h1) (views_data rfl) ⟨trivial, trivial, trivial, trivial⟩ rfl ?_) | (simp -dsimp (disch := first | assumption | omega) only [dec_t, dec_f])
      | (refine And.intro ?_ ?_
         · first | omega | decide | (simp (disch := omega) only [wkW, Int.reduceToNat, Int.reducePow] <;> omega) | (simp <;> omega)) | (simp (disch := omega) only [wkW, Int.reduceToNat, Int.reducePow])
    clear h1 d1
    refine PW.loopA (fun n F H => ∃ i : Int, (kT - i).toNat = n ∧ i ≤ kT ∧ -410 ≤ i ∧ F = [(6, .int .i64 i), (0, .int .u64 m), (1, .int .i64 e)] ∧ H = ⟨0, [], [], []⟩) (kT - i).toNat [(6, .int .i64 i), (0, .int .u64 m), (1, .int .i64 e)] ⟨0, [], [], []⟩ (Sub.norm ⟨rfl, rfl, rfl, trivial⟩ trivial (by simp) rfl rfl rfl rfl) ⟨i, rfl, by omega, by omega, rfl, rfl⟩ ?_
    clear hi hi2 hi3
    rintro n F H ⟨i, hi, hi2, hi3, rfl, rfl⟩
    have h1 := hat (i + 1) (by omega) (by omega)
    have w5 : IntKind.wrap .i64 (i + 1) = i + 1 := wrap_i64 (by omega)
    cases n with
    | zero =>
      obtain rfl : i = kT := by omega
      have d1 : decide (i + 1 ≤ i) = false := decide_eq_false (by omega)
      rw [d1] at h1
      repeat' first
        | (with_reducible first | refine PW.seq ?_ | refine PW.block ?_ | refine PW.fork ?_ | refine PW.skip ?_ | refine PW.exit ?_ | refine PW.ret ?_) | (simp only [w5]) | ((with_reducible refine PW.region ttOk ?_ ?_); rfl) | ((with_reducible refine PW.regionD ttOk mixed ?_ ?_ ?_); rfl; rfl) | (with_reducible refine ifW_dec (fun g => ?_) (fun g => ?_) <;> first | (exfalso; omega) | (simp -dsimp only [g, wkI])) | ((with_reducible first | refine condE_dec (fun g => ?_) (fun g => ?_) | refine condE_not (fun g => ?_) (fun g => ?_)) <;> try (exfalso; omega)) | (simp -dsimp only [↓wkA, ↓wkE, ↓wkJ, wkB, ↓tt, Nat.reduceBEq, Nat.reduceEqDiff, ↓reduceIte, Nat.reduceLT, Array.toList, Nat.reduceAdd, Nat.reduceMul, Int.reduceToNat, Int.reducePow, UInt8.reduceToNat]) | (refine call_by (h1) (views_data rfl) ⟨trivial, trivial, trivial, trivial⟩ rfl ?_) | (simp -dsimp (disch := first | assumption | omega) only [dec_t, dec_f])
        | (refine And.intro ?_ ?_
           · first | omega | decide | (simp (disch := omega) only [wkW, Int.reduceToNat, Int.reducePow] <;> omega) | (simp <;> omega)) | (simp (disch := omega) only [wkW, Int.reduceToNat, Int.reducePow])
    | succ n =>
      have d1 : decide (i + 1 ≤ kT) = true := decide_eq_true (by omega)
      rw [d1] at h1
      repeat' first
        | (with_reducible first | refine PW.seq ?_ | refine PW.block ?_ | refine PW.fork ?_ | refine PW.skip ?_ | refine PW.exit ?_ | refine PW.ret ?_) | (simp only [w5]) | ((with_reducible refine PW.region ttOk ?_ ?_); rfl) | ((with_reducible refine PW.regionD ttOk mixed ?_ ?_ ?_); rfl; rfl) | (with_reducible refine ifW_dec (fun g => ?_) (fun g => ?_) <;> first | (exfalso; omega) | (simp -dsimp only [g, wkI])) | ((with_reducible first | refine condE_dec (fun g => ?_) (fun g => ?_) | refine condE_not (fun g => ?_) (fun g => ?_)) <;> try (exfalso; omega)) | (simp -dsimp only [↓wkA, ↓wkE, ↓wkJ, wkB, ↓tt, Nat.reduceBEq, Nat.reduceEqDiff, ↓reduceIte, Nat.reduceLT, Array.toList, Nat.reduceAdd, Nat.reduceMul, Int.reduceToNat, Int.reducePow, UInt8.reduceToNat]) | (refine call_by (h1) (views_data rfl) ⟨trivial, trivial, trivial, trivial⟩ rfl ?_) | (simp -dsimp (disch := first | assumption | omega) only [dec_t, dec_f])
        | (refine And.intro ?_ ?_
           · first | omega | decide | (simp (disch := omega) only [wkW, Int.reduceToNat, Int.reducePow] <;> omega) | (simp <;> omega)) | (simp (disch := omega) only [wkW, Int.reduceToNat, Int.reducePow])
      exact Again.mk n [(6, .int .i64 (i + 1)), (0, .int .u64 m), (1, .int .i64 e)] ⟨0, [], [], []⟩ (by omega) (Sub.norm ⟨rfl, rfl, rfl, trivial⟩ trivial (by simp) rfl rfl rfl rfl) ⟨i + 1, by omega, by omega, by omega, rfl, rfl⟩
theorem ref12_tens (m : Nat) (e kT : Int) (hm0 : m ≠ 0) (hm : m < 2 ^ 60) (he : -1100 ≤ e ∧ e ≤ 1000) (hkT : -400 ≤ kT ∧ kT < 400) (hT : Ten m e kT) : Meets Tryz.prog 34 [.int .u64 (m : Int), .int .i64 e] (.int .i64 kT) := by
  have hbl := ref01_bitlen m (nmax_of hm (by decide))
  rw [natL_one m ⟨by omega, Nat.lt_trans hm (by decide)⟩] at hbl
  have hb := bitlen_le hm
  obtain ⟨b, hb1, _, _⟩ := bitlen_spec hm0
  obtain ⟨z, hz⟩ : ∃ z, (bitlen m : Int) - 1 + e = z := ⟨_, rfl⟩
  have hq := Int.mul_tdiv_add_tmod (z * 30103) 100000
  have hr : -100000 < (z * 30103).tmod 100000 ∧ (z * 30103).tmod 100000 < 100000 := ⟨Int.lt_tmod_of_pos _ (by decide), Int.tmod_lt_of_pos _ (by decide)⟩
  refine tens_walk m e (bitlen m : Int) z (z * 30103) ((z * 30103).tdiv 100000) kT hbl (wrap_i64 (by omega)) (by rw [hz]; exact wrap_i64 (by omega)) (wrap_i64 (by omega)) (wrap_i64 (by omega)) (by omega) hkT fun i h1 h2 => ?_
  have h := ref12_least m e i hm he (by omega)
  rw [decide_eq_decide.2 (show GeT m e i ↔ i ≤ kT from ⟨fun hg => Int.not_lt.1 fun hlt => hT.hi (ge_le hg (by omega)), fun hle => ge_le hT.lo hle⟩)] at h
  exact h
def signed (neg : Bool) (b : Nat) : Nat := if neg then b + 9223372036854775808 else b
theorem Meets.args {P : Program} {f : FuncId} {args args' : List PV} {res : PV} (hm : Meets P f args res) (hl : args'.length = args.length) (h : ∀ (w : World) (A : Nat → Prop) (i : Nat) (v : Value), RD w A (args'.getD i .undef) v → RD w A (args.getD i .undef) v) : Meets P f args' res :=
  ⟨fun w A vs hA hl' ha => hm.run w A vs hA (hl.symm.trans hl') fun i hi => h w A i _ (ha i (by omega))⟩
def rowP (q : Int) : Nat := if 0 ≤ q then (if bitlen (5 ^ q.toNat) ≤ 128 then 5 ^ q.toNat * 2 ^ (128 - bitlen (5 ^ q.toNat)) else 5 ^ q.toNat / 2 ^ (bitlen (5 ^ q.toNat) - 128)) else 2 ^ (bitlen (5 ^ (-q).toNat) + 127) / 5 ^ (-q).toNat
def rowE (q : Int) : Int := if 0 ≤ q then (bitlen (5 ^ q.toNat) : Int) - 128 else -((bitlen (5 ^ (-q).toNat) : Int) + 127)
def rbin (n : Nat) (e : Int) : Nat := rndU (n * 2 ^ (e + 1074).toNat) (2 ^ (-(e + 1074)).toNat)
def stepLo (w : Nat) (q : Int) : Nat := rbin (w * rowP q) (rowE q + q)
def stepHi (w : Nat) (q : Int) : Nat := rbin (w * (rowP q + 1)) (rowE q + q)
def stepOk (w : Nat) (q : Int) : Prop := w = 0 ∨ ((-342 ≤ q ∧ q ≤ 308) ∧ ((0 ≤ q ∧ q ≤ 55) ∨ stepLo w q = stepHi w q))
instance (w : Nat) (q : Int) : Decidable (stepOk w q) := inferInstanceAs (Decidable (_ ∨ _))
theorem trim_right_zero (s : List Int) (hsl : s.length ≤ 1000000000000000) : Meets Tryz.prog 103 [.str s, .str [48]] (.str (s.take (endN s 48 s.length))) := by
  have h1 := trim_right s 48 hsl
  refine meets_by ttOk Tryz.func103 Tryz.ntmps103 Tryz.results103 (by kernel_rfl) (c := _) rfl rfl rfl fun E => ?_
  simp only [argsFrame]
  by_cases hs : s = []
  · subst hs
    repeat' first
      | (simp only [eq_self, decide_true]) | (with_reducible first | refine PW.seq ?_ | refine PW.block ?_ | refine PW.fork ?_ | refine PW.skip ?_ | refine PW.exit ?_ | refine PW.ret ?_) | ((with_reducible refine PW.region ttOk ?_ ?_); rfl) | ((with_reducible refine PW.regionD ttOk mixed ?_ ?_ ?_); rfl; rfl) | (with_reducible refine ifW_dec (fun g => ?_) (fun g => ?_) <;> first | (exfalso; omega) | (simp -dsimp only [g, wkI])) | ((with_reducible first | refine condE_dec (fun g => ?_) (fun g => ?_) | refine condE_not (fun g => ?_) (fun g => ?_)) <;> try (exfalso; omega)) | (simp -dsimp only [↓wkA, ↓wkE, ↓wkJ, wkB, ↓tt, Nat.reduceBEq, Nat.reduceEqDiff, ↓reduceIte, Nat.reduceLT, Array.toList, Nat.reduceAdd, Nat.reduceMul, Int.reduceToNat, Int.reducePow, UInt8.reduceToNat]) | (simp -dsimp (disch := first | assumption | omega) only [dec_t, dec_f])
      | (refine And.intro ?_ ?_
         · first | omega | decide | (simp (disch := omega) only [wkW, Int.reduceToNat, Int.reducePow] <;> omega) | (simp <;> omega)) | (simp (disch := omega) only [wkW, Int.reduceToNat, Int.reducePow])
    all_goals rfl
  · have hd : decide (s = []) = false := decide_eq_false hs
    repeat' first
      | (simp only [hd, reduceCtorEq, decide_false]) | (with_reducible first | refine PW.seq ?_ | refine PW.block ?_ | refine PW.fork ?_ | refine PW.skip ?_ | refine PW.exit ?_ | refine PW.ret ?_) | ((with_reducible refine PW.region ttOk ?_ ?_); rfl) | ((with_reducible refine PW.regionD ttOk mixed ?_ ?_ ?_); rfl; rfl) | (with_reducible refine ifW_dec (fun g => ?_) (fun g => ?_) <;> first | (exfalso; omega) | (simp -dsimp only [g, wkI])) | ((with_reducible first | refine condE_dec (fun g => ?_) (fun g => ?_) | refine condE_not (fun g => ?_) (fun g => ?_)) <;> try (exfalso; omega)) | (simp -dsimp only [↓wkA, ↓wkE, ↓wkJ, wkB, ↓tt, Nat.reduceBEq, Nat.reduceEqDiff, ↓reduceIte, Nat.reduceLT, Array.toList, Nat.reduceAdd, Nat.reduceMul, Int.reduceToNat, Int.reducePow, UInt8.reduceToNat]) | (refine call_by (h1) (views_data rfl) ⟨trivial, trivial, trivial⟩ rfl ?_) | (refine callD_by (h1) (views_data rfl) ⟨trivial, trivial, trivial⟩ rfl ?_) | (simp -dsimp (disch := first | assumption | omega) only [dec_t, dec_f])
      | (refine And.intro ?_ ?_
         · first | omega | decide | (simp (disch := omega) only [wkW, Int.reduceToNat, Int.reducePow] <;> omega) | (simp <;> omega)) | (simp (disch := omega) only [wkW, Int.reduceToNat, Int.reducePow])
theorem trim_left_zero (s : List Int) (hsl : s.length ≤ 1000000000000000) : Meets Tryz.prog 102 [.str s, .str [48]] (.str (headL 48 s)) := by
  have h1 := trim_left s 48 hsl
  refine meets_by ttOk Tryz.func102 Tryz.ntmps102 Tryz.results102 (by kernel_rfl) (c := _) rfl rfl rfl fun E => ?_
  simp only [argsFrame]
  by_cases hs : s = []
  · subst hs
    repeat' first
      | (simp only [eq_self, decide_true]) | (with_reducible first | refine PW.seq ?_ | refine PW.block ?_ | refine PW.fork ?_ | refine PW.skip ?_ | refine PW.exit ?_ | refine PW.ret ?_) | ((with_reducible refine PW.region ttOk ?_ ?_); rfl) | ((with_reducible refine PW.regionD ttOk mixed ?_ ?_ ?_); rfl; rfl) | (with_reducible refine ifW_dec (fun g => ?_) (fun g => ?_) <;> first | (exfalso; omega) | (simp -dsimp only [g, wkI])) | ((with_reducible first | refine condE_dec (fun g => ?_) (fun g => ?_) | refine condE_not (fun g => ?_) (fun g => ?_)) <;> try (exfalso; omega)) | (simp -dsimp only [↓wkA, ↓wkE, ↓wkJ, wkB, ↓tt, Nat.reduceBEq, Nat.reduceEqDiff, ↓reduceIte, Nat.reduceLT, Array.toList, Nat.reduceAdd, Nat.reduceMul, Int.reduceToNat, Int.reducePow, UInt8.reduceToNat]) | (simp -dsimp (disch := first | assumption | omega) only [dec_t, dec_f])
      | (refine And.intro ?_ ?_
         · first | omega | decide | (simp (disch := omega) only [wkW, Int.reduceToNat, Int.reducePow] <;> omega) | (simp <;> omega)) | (simp (disch := omega) only [wkW, Int.reduceToNat, Int.reducePow])
    all_goals rfl
  · have hd : decide (s = []) = false := decide_eq_false hs
    repeat' first
      | (simp only [hd, reduceCtorEq, decide_false]) | (with_reducible first | refine PW.seq ?_ | refine PW.block ?_ | refine PW.fork ?_ | refine PW.skip ?_ | refine PW.exit ?_ | refine PW.ret ?_) | ((with_reducible refine PW.region ttOk ?_ ?_); rfl) | ((with_reducible refine PW.regionD ttOk mixed ?_ ?_ ?_); rfl; rfl) | (with_reducible refine ifW_dec (fun g => ?_) (fun g => ?_) <;> first | (exfalso; omega) | (simp -dsimp only [g, wkI])) | ((with_reducible first | refine condE_dec (fun g => ?_) (fun g => ?_) | refine condE_not (fun g => ?_) (fun g => ?_)) <;> try (exfalso; omega)) | (simp -dsimp only [↓wkA, ↓wkE, ↓wkJ, wkB, ↓tt, Nat.reduceBEq, Nat.reduceEqDiff, ↓reduceIte, Nat.reduceLT, Array.toList, Nat.reduceAdd, Nat.reduceMul, Int.reduceToNat, Int.reducePow, UInt8.reduceToNat]) | (refine call_by (h1) (views_data rfl) ⟨trivial, trivial, trivial⟩ rfl ?_) | (refine callD_by (h1) (views_data rfl) ⟨trivial, trivial, trivial⟩ rfl ?_) | (simp -dsimp (disch := first | assumption | omega) only [dec_t, dec_f])
      | (refine And.intro ?_ ?_
         · first | omega | decide | (simp (disch := omega) only [wkW, Int.reduceToNat, Int.reducePow] <;> omega) | (simp <;> omega)) | (simp (disch := omega) only [wkW, Int.reduceToNat, Int.reducePow])
end Go.Proofs.YtmoilbeomnapfaaGreatDoor

/- Contracts and laws that the row leans on, part 9: texts that were built one by one, laid together. -/
import Derived.Test.YtmoilbeomnapfaaGreatDoorPart8
import Derived.Test.YtmoilbeomnapfaaGreatDoorPart4
import Derived.Test.YtmoilbeomnapfaaGreatDoorPart6
import Derived.Test.YtmoilbeomnapfaaGreatDoorPart7
import Derived.Test.YtmoilbeomnapfaaGreatDoorPart5
set_option maxHeartbeats 4000000
set_option maxRecDepth 4000
set_option exponentiation.threshold 300000
set_option linter.unusedVariables false
set_option linter.unusedSimpArgs false
namespace Go.Proofs.YtmoilbeomnapfaaGreatDoor
open Go Go.PV
theorem ref02_top (l : List Int) (hl : l.length ≤ 17592186043904) : Meets Tryz.prog 145 [.ints .u64 l] (.int .i64 (size l : Int)) := by
  refine meets_by ttOk Tryz.func145 Tryz.ntmps145 Tryz.results145 (by kernel_rfl) (c := _) rfl rfl rfl fun E => ?_
  simp only [argsFrame]
  repeat' first
    | (with_reducible first | refine PW.seq ?_ | refine PW.block ?_ | refine PW.fork ?_ | refine PW.skip ?_ | refine PW.exit ?_ | refine PW.ret ?_) | ((with_reducible refine PW.region ttOk ?_ ?_); rfl) | ((with_reducible refine PW.regionD ttOk mixed ?_ ?_ ?_); rfl; rfl) | (with_reducible refine ifW_dec (fun g => ?_) (fun g => ?_) <;> first | (exfalso; omega) | (simp -dsimp only [g, wkI])) | ((with_reducible first | refine condE_dec (fun g => ?_) (fun g => ?_) | refine condE_not (fun g => ?_) (fun g => ?_)) <;> try (exfalso; omega)) | (simp -dsimp only [↓wkA, ↓wkE, ↓wkJ, wkB, ↓tt, Nat.reduceBEq, Nat.reduceEqDiff, ↓reduceIte, Nat.reduceLT, Array.toList, Nat.reduceAdd, Nat.reduceMul, Int.reduceToNat, Int.reducePow, UInt8.reduceToNat]) | (simp -dsimp (disch := first | assumption | omega) only [dec_t, dec_f])
    | (refine And.intro ?_ ?_
       · first | omega | decide | (simp (disch := omega) only [wkW, Int.reduceToNat, Int.reducePow] <;> omega) | (simp <;> omega)) | (simp (disch := omega) only [wkW, Int.reduceToNat, Int.reducePow])
  refine PW.meetB (fun F H => F = [(3, .int .i64 (size l : Int))] ∧ H = ⟨0, [], [], []⟩) ?_ ?_
  · refine PW.loopA (fun m F H => m ≤ l.length ∧ sizeN l m = size l ∧ F = [(3, .int .i64 (m : Int)), (0, .ints .u64 l)] ∧ H = ⟨0, [], [], []⟩) l.length [(3, .int .i64 (l.length : Int)), (0, .ints .u64 l)] ⟨0, [], [], []⟩ (Sub.norm ⟨rfl, rfl, trivial⟩ trivial (Nat.le_refl _) rfl rfl rfl rfl) ⟨Nat.le_refl _, rfl, rfl, rfl⟩ ?_
    rintro m F H ⟨hm, hs, rfl, rfl⟩
    cases m with
    | zero =>
      repeat' first
        | (with_reducible first | refine PW.seq ?_ | refine PW.block ?_ | refine PW.fork ?_ | refine PW.skip ?_ | refine PW.exit ?_ | refine PW.ret ?_) | ((with_reducible refine PW.region ttOk ?_ ?_); rfl) | ((with_reducible refine PW.regionD ttOk mixed ?_ ?_ ?_); rfl; rfl) | (with_reducible refine ifW_dec (fun g => ?_) (fun g => ?_) <;> first | (exfalso; omega) | (simp -dsimp only [g, wkI])) | ((with_reducible first | refine condE_dec (fun g => ?_) (fun g => ?_) | refine condE_not (fun g => ?_) (fun g => ?_)) <;> try (exfalso; omega)) | (simp -dsimp only [↓wkA, ↓wkE, ↓wkJ, wkB, ↓tt, Nat.reduceBEq, Nat.reduceEqDiff, ↓reduceIte, Nat.reduceLT, Array.toList, Nat.reduceAdd, Nat.reduceMul, Int.reduceToNat, Int.reducePow, UInt8.reduceToNat]) | (simp -dsimp (disch := first | assumption | omega) only [dec_t, dec_f])
        | (refine And.intro ?_ ?_
           · first | omega | decide | (simp (disch := omega) only [wkW, Int.reduceToNat, Int.reducePow] <;> omega) | (simp <;> omega)) | (simp (disch := omega) only [wkW, Int.reduceToNat, Int.reducePow])
      exact Meet.mk [(3, .int .i64 (size l : Int))] ⟨0, [], [], []⟩ (Sub.norm ⟨by rw [← hs]; rfl, trivial⟩ trivial (Nat.le_refl _) rfl rfl rfl rfl) ⟨rfl, rfl⟩
    | succ m =>
      have e1 : (((m + 1 : Nat)) : Int) - 1 = (m : Int) := by omega
      repeat' first
        | (simp (disch := omega) only [e1, Int.toNat_natCast, wkW, Int.reduceToNat, Int.reducePow]) | (with_reducible first | refine PW.seq ?_ | refine PW.block ?_ | refine PW.fork ?_ | refine PW.skip ?_ | refine PW.exit ?_ | refine PW.ret ?_) | ((with_reducible refine PW.region ttOk ?_ ?_); rfl) | ((with_reducible refine PW.regionD ttOk mixed ?_ ?_ ?_); rfl; rfl) | (with_reducible refine ifW_dec (fun g => ?_) (fun g => ?_) <;> first | (exfalso; omega) | (simp -dsimp only [g, wkI])) | ((with_reducible first | refine condE_dec (fun g => ?_) (fun g => ?_) | refine condE_not (fun g => ?_) (fun g => ?_)) <;> try (exfalso; omega)) | (simp -dsimp only [↓wkA, ↓wkE, ↓wkJ, wkB, ↓tt, Nat.reduceBEq, Nat.reduceEqDiff, ↓reduceIte, Nat.reduceLT, Array.toList, Nat.reduceAdd, Nat.reduceMul, Int.reduceToNat, Int.reducePow, UInt8.reduceToNat]) | (simp -dsimp (disch := first | assumption | omega) only [dec_t, dec_f])
        | (refine And.intro ?_ ?_
           · first | omega | decide | (simp (disch := omega) only [wkW, Int.reduceToNat, Int.reducePow] <;> omega) | (simp <;> omega)) | (simp (disch := omega) only [wkW, Int.reduceToNat, Int.reducePow])
      · have h0 : l.getD m 0 = 0 := by assumption
        exact Again.mk m [(3, .int .i64 (m : Int)), (0, .ints .u64 l)] ⟨0, [], [], []⟩ (by omega) (Sub.norm ⟨rfl, rfl, trivial⟩ trivial (Nat.le_refl _) rfl rfl rfl rfl) ⟨by omega, by rw [← hs, sizeN, if_pos h0], rfl, rfl⟩
      · have h0 : ¬ l.getD m 0 = 0 := by assumption
        exact Meet.mk [(3, .int .i64 (size l : Int))] ⟨0, [], [], []⟩ (Sub.norm ⟨by rw [← hs, sizeN, if_neg h0]; rfl, trivial⟩ trivial (Nat.le_refl _) rfl rfl rfl rfl) ⟨rfl, rfl⟩
  rintro F H ⟨rfl, rfl⟩
  repeat' first
    | (with_reducible first | refine PW.seq ?_ | refine PW.block ?_ | refine PW.fork ?_ | refine PW.skip ?_ | refine PW.exit ?_ | refine PW.ret ?_) | ((with_reducible refine PW.region ttOk ?_ ?_); rfl) | ((with_reducible refine PW.regionD ttOk mixed ?_ ?_ ?_); rfl; rfl) | (with_reducible refine ifW_dec (fun g => ?_) (fun g => ?_) <;> first | (exfalso; omega) | (simp -dsimp only [g, wkI])) | ((with_reducible first | refine condE_dec (fun g => ?_) (fun g => ?_) | refine condE_not (fun g => ?_) (fun g => ?_)) <;> try (exfalso; omega)) | (simp -dsimp only [↓wkA, ↓wkE, ↓wkJ, wkB, ↓tt, Nat.reduceBEq, Nat.reduceEqDiff, ↓reduceIte, Nat.reduceLT, Array.toList, Nat.reduceAdd, Nat.reduceMul, Int.reduceToNat, Int.reducePow, UInt8.reduceToNat]) | (simp -dsimp (disch := first | assumption | omega) only [dec_t, dec_f])
    | (refine And.intro ?_ ?_
       · first | omega | decide | (simp (disch := omega) only [wkW, Int.reduceToNat, Int.reducePow] <;> omega) | (simp <;> omega)) | (simp (disch := omega) only [wkW, Int.reduceToNat, Int.reducePow])
structure ShoS (l o : List Int) (n i : Nat) : Prop where
  len : o.length = n
  eq : ∀ j, j < i → o.getD j 0 = l.getD j 0
theorem ShoS.step {l o : List Int} {n i : Nat} (h : ShoS l o n i) (hi : i < n) : ShoS l (o.set i (l.getD i 0)) n (i + 1) :=
  ⟨by rw [List.length_set, h.len], fun j hj => by
    rw [getD_set _ _ _ _ (by rw [h.len]; exact hi)]
    split
    · rename_i e; rw [e]
    · exact h.eq j (by omega)⟩
theorem ShoS.fin {l o : List Int} (h : ShoS l o (size l) (size l)) : o = trim l := by
  have hs := size_le l
  refine list_ext (by rw [h.len, trim_len]) fun j hj => ?_
  rw [h.len] at hj
  rw [h.eq j hj]
  exact (getD_take' hj).symm
theorem ref02_short_h (l : List Int) (hl : l.length ≤ 100000000) (nx : Nat) (rows : List (Nat × PV.Row)) (gg : List PV.Frame) (ty : List (Nat × TypeId)) :
    HMeets Tryz.prog 107 [.ints .u64 l] ⟨nx, rows, gg, ty⟩ fun res H' => res = .sl nx 0 (size l) true ∧ H' = ⟨nx + 1, setRow rows nx (.ints .u64 (trim l)), gg, (nx, 25) :: ty⟩ := by
  have h1 := ref02_top l (by omega)
  have hsz := size_le l
  refine hmeets_by ttOk Tryz.func107 Tryz.ntmps107 Tryz.results107 (by kernel_rfl) (c := _) rfl rfl fun E => ?_
  simp only [argsFrame]
  repeat' first
    | (with_reducible first | refine PW.seq ?_ | refine PW.block ?_ | refine PW.fork ?_ | refine PW.skip ?_ | refine PW.exit ?_ | refine PW.ret ?_) | (simp only [Int.toNat_natCast, getRow_setRow_self, Go.PV.setRow_setRow]) | ((with_reducible refine PW.region ttOk ?_ ?_); rfl) | ((with_reducible refine PW.regionD ttOk mixed ?_ ?_ ?_); rfl; rfl) | (with_reducible refine ifW_dec (fun g => ?_) (fun g => ?_) <;> first | (exfalso; omega) | (simp -dsimp only [g, wkI])) | ((with_reducible first | refine condE_dec (fun g => ?_) (fun g => ?_) | refine condE_not (fun g => ?_) (fun g => ?_)) <;> try (exfalso; omega)) | (simp -dsimp only [↓wkA, ↓wkE, ↓wkJ, wkB, ↓tt, Nat.reduceBEq, Nat.reduceEqDiff, ↓reduceIte, Nat.reduceLT, Array.toList, Nat.reduceAdd, Nat.reduceMul, Int.reduceToNat, Int.reducePow, UInt8.reduceToNat]) | (refine call_by (h1) (views_data rfl) ⟨trivial, trivial⟩ rfl ?_) | (simp -dsimp (disch := first | assumption | omega) only [dec_t, dec_f])
    | (refine And.intro ?_ ?_
       · first | omega | decide | (simp (disch := omega) only [wkW, Int.reduceToNat, Int.reducePow] <;> omega) | (simp <;> omega)) | (simp (disch := omega) only [wkW, Int.reduceToNat, Int.reducePow])
  refine PW.loopA (fun m F H => ∃ i o, i + m = size l ∧ ShoS l o (size l) i ∧ F = [(5, .int .i64 (i : Int)), (4, .sl nx 0 (size l) true), (3, .int .i64 (size l : Int)), (0, .ints .u64 l)] ∧ H = ⟨nx + 1, setRow rows nx (.ints .u64 o), gg, (nx, 25) :: ty⟩) (size l) [(5, .int .i64 ((0 : Nat) : Int)), (4, .sl nx 0 (size l) true), (3, .int .i64 (size l : Int)), (0, .ints .u64 l)] ⟨nx + 1, setRow rows nx (.ints .u64 (List.replicate (size l) 0)), gg, (nx, 25) :: ty⟩ (Sub.less ⟨rfl, rfl, rfl, rfl, trivial⟩ (fun _ _ h => h) rfl rfl) ⟨0, _, by omega, ⟨by simp, fun j hj => by omega⟩, rfl, rfl⟩ ?_
  rintro m F H ⟨i, o, hi, hS, rfl, rfl⟩
  have hol := hS.len
  cases m with
  | zero =>
    obtain rfl : i = size l := by omega
    obtain rfl := hS.fin
    repeat' first
      | (with_reducible first | refine PW.seq ?_ | refine PW.block ?_ | refine PW.fork ?_ | refine PW.skip ?_ | refine PW.exit ?_ | refine PW.ret ?_) | ((with_reducible refine PW.region ttOk ?_ ?_); rfl) | ((with_reducible refine PW.regionD ttOk mixed ?_ ?_ ?_); rfl; rfl) | (with_reducible refine ifW_dec (fun g => ?_) (fun g => ?_) <;> first | (exfalso; omega) | (simp -dsimp only [g, wkI])) | ((with_reducible first | refine condE_dec (fun g => ?_) (fun g => ?_) | refine condE_not (fun g => ?_) (fun g => ?_)) <;> try (exfalso; omega)) | (simp -dsimp only [↓wkA, ↓wkE, ↓wkJ, wkB, ↓tt, Nat.reduceBEq, Nat.reduceEqDiff, ↓reduceIte, Nat.reduceLT, Array.toList, Nat.reduceAdd, Nat.reduceMul, Int.reduceToNat, Int.reducePow, UInt8.reduceToNat]) | (simp -dsimp (disch := first | assumption | omega) only [dec_t, dec_f])
      | (refine And.intro ?_ ?_
         · first | omega | decide | (simp (disch := omega) only [wkW, Int.reduceToNat, Int.reducePow] <;> omega) | (simp <;> omega)) | (simp (disch := omega) only [wkW, Int.reduceToNat, Int.reducePow])
  | succ m =>
    have hst := hS.step (show i < size l by omega)
    have w1 : IntKind.wrap .i64 ((i : Int) + 1) = ((i + 1 : Nat) : Int) := wrap_i64 (by omega)
    repeat' first
      | (with_reducible first | refine PW.seq ?_ | refine PW.block ?_ | refine PW.fork ?_ | refine PW.skip ?_ | refine PW.exit ?_ | refine PW.ret ?_) | (simp only [w1, Int.toNat_natCast, getRow_setRow_self, Go.PV.setRow_setRow]) | ((with_reducible refine PW.region ttOk ?_ ?_); rfl) | ((with_reducible refine PW.regionD ttOk mixed ?_ ?_ ?_); rfl; rfl) | (with_reducible refine ifW_dec (fun g => ?_) (fun g => ?_) <;> first | (exfalso; omega) | (simp -dsimp only [g, wkI])) | ((with_reducible first | refine condE_dec (fun g => ?_) (fun g => ?_) | refine condE_not (fun g => ?_) (fun g => ?_)) <;> try (exfalso; omega)) | (simp -dsimp only [↓wkA, ↓wkE, ↓wkJ, wkB, ↓tt, Nat.reduceBEq, Nat.reduceEqDiff, ↓reduceIte, Nat.reduceLT, Array.toList, Nat.reduceAdd, Nat.reduceMul, Int.reduceToNat, Int.reducePow, UInt8.reduceToNat]) | (simp -dsimp (disch := first | assumption | omega) only [dec_t, dec_f])
      | (refine And.intro ?_ ?_
         · first | omega | decide | (simp (disch := omega) only [wkW, Int.reduceToNat, Int.reducePow] <;> omega) | (simp <;> omega)) | (simp (disch := omega) only [wkW, Int.reduceToNat, Int.reducePow])
    exact Again.mk m [(5, .int .i64 ((i + 1 : Nat) : Int)), (4, .sl nx 0 (size l) true), (3, .int .i64 (size l : Int)), (0, .ints .u64 l)] ⟨nx + 1, setRow rows nx (.ints .u64 _), gg, (nx, 25) :: ty⟩ (by omega) (Sub.less ⟨rfl, rfl, rfl, rfl, trivial⟩ (fun _ _ h => h) rfl rfl) ⟨i + 1, _, by omega, hst, rfl, rfl⟩
theorem ref02_short (l : List Int) (hl : l.length ≤ 100000000) : Meets Tryz.prog 107 [.ints .u64 l] (.ints .u64 (trim l)) := by
  have h1 := ref02_top l (by omega)
  have hsz := size_le l
  refine meets_by ttOk Tryz.func107 Tryz.ntmps107 Tryz.results107 (by kernel_rfl) (c := _) rfl rfl rfl fun E => ?_
  simp only [argsFrame]
  repeat' first
    | (with_reducible first | refine PW.seq ?_ | refine PW.block ?_ | refine PW.fork ?_ | refine PW.skip ?_ | refine PW.exit ?_ | refine PW.ret ?_) | (simp only [Int.toNat_natCast]) | ((with_reducible refine PW.region ttOk ?_ ?_); rfl) | ((with_reducible refine PW.regionD ttOk mixed ?_ ?_ ?_); rfl; rfl) | (with_reducible refine ifW_dec (fun g => ?_) (fun g => ?_) <;> first | (exfalso; omega) | (simp -dsimp only [g, wkI])) | ((with_reducible first | refine condE_dec (fun g => ?_) (fun g => ?_) | refine condE_not (fun g => ?_) (fun g => ?_)) <;> try (exfalso; omega)) | (simp -dsimp only [↓wkA, ↓wkE, ↓wkJ, wkB, ↓tt, Nat.reduceBEq, Nat.reduceEqDiff, ↓reduceIte, Nat.reduceLT, Array.toList, Nat.reduceAdd, Nat.reduceMul, Int.reduceToNat, Int.reducePow, UInt8.reduceToNat]) | (refine call_by (h1) (views_data rfl) ⟨trivial, trivial⟩ rfl ?_) | (simp -dsimp (disch := first | assumption | omega) only [dec_t, dec_f])
    | (refine And.intro ?_ ?_
       · first | omega | decide | (simp (disch := omega) only [wkW, Int.reduceToNat, Int.reducePow] <;> omega) | (simp <;> omega)) | (simp (disch := omega) only [wkW, Int.reduceToNat, Int.reducePow])
  refine PW.loopA (fun m F H => ∃ i o, i + m = size l ∧ ShoS l o (size l) i ∧ F = [(5, .int .i64 (i : Int)), (4, .sl 0 0 (size l) true), (3, .int .i64 (size l : Int)), (0, .ints .u64 l)] ∧ H = ⟨1, [(0, .ints .u64 o)], [], []⟩) (size l) [(5, .int .i64 ((0 : Nat) : Int)), (4, .sl 0 0 (size l) true), (3, .int .i64 (size l : Int)), (0, .ints .u64 l)] ⟨1, [(0, .ints .u64 (List.replicate (size l) 0))], [], []⟩ (Sub.norm ⟨rfl, rfl, rfl, rfl, trivial⟩ ⟨rfl, trivial⟩ (Nat.le_refl _) rfl rfl rfl rfl) ⟨0, _, by omega, ⟨by simp, fun j hj => by omega⟩, rfl, rfl⟩ ?_
  rintro m F H ⟨i, o, hi, hS, rfl, rfl⟩
  have hol := hS.len
  cases m with
  | zero =>
    obtain rfl : i = size l := by omega
    have htk : List.take (size l) o = o := List.take_of_length_le (by omega)
    rw [← hS.fin]
    repeat' first
      | (with_reducible first | refine PW.seq ?_ | refine PW.block ?_ | refine PW.fork ?_ | refine PW.skip ?_ | refine PW.exit ?_ | refine PW.ret ?_) | ((with_reducible refine PW.region ttOk ?_ ?_); rfl) | ((with_reducible refine PW.regionD ttOk mixed ?_ ?_ ?_); rfl; rfl) | (with_reducible refine ifW_dec (fun g => ?_) (fun g => ?_) <;> first | (exfalso; omega) | (simp -dsimp only [g, wkI])) | ((with_reducible first | refine condE_dec (fun g => ?_) (fun g => ?_) | refine condE_not (fun g => ?_) (fun g => ?_)) <;> try (exfalso; omega)) | (simp -dsimp only [↓wkA, ↓wkE, ↓wkJ, wkB, ↓tt, Nat.reduceBEq, Nat.reduceEqDiff, ↓reduceIte, Nat.reduceLT, Array.toList, Nat.reduceAdd, Nat.reduceMul, Int.reduceToNat, Int.reducePow, UInt8.reduceToNat]) | (simp -dsimp (disch := first | assumption | omega) only [dec_t, dec_f])
      | (refine And.intro ?_ ?_
         · first | omega | decide | (simp (disch := omega) only [wkW, Int.reduceToNat, Int.reducePow] <;> omega) | (simp <;> omega)) | (simp (disch := omega) only [wkW, Int.reduceToNat, Int.reducePow])
    all_goals first | omega | rw [htk]
  | succ m =>
    have hst := hS.step (show i < size l by omega)
    have w1 : IntKind.wrap .i64 ((i : Int) + 1) = ((i + 1 : Nat) : Int) := wrap_i64 (by omega)
    repeat' first
      | (with_reducible first | refine PW.seq ?_ | refine PW.block ?_ | refine PW.fork ?_ | refine PW.skip ?_ | refine PW.exit ?_ | refine PW.ret ?_) | (simp only [w1, Int.toNat_natCast]) | ((with_reducible refine PW.region ttOk ?_ ?_); rfl) | ((with_reducible refine PW.regionD ttOk mixed ?_ ?_ ?_); rfl; rfl) | (with_reducible refine ifW_dec (fun g => ?_) (fun g => ?_) <;> first | (exfalso; omega) | (simp -dsimp only [g, wkI])) | ((with_reducible first | refine condE_dec (fun g => ?_) (fun g => ?_) | refine condE_not (fun g => ?_) (fun g => ?_)) <;> try (exfalso; omega)) | (simp -dsimp only [↓wkA, ↓wkE, ↓wkJ, wkB, ↓tt, Nat.reduceBEq, Nat.reduceEqDiff, ↓reduceIte, Nat.reduceLT, Array.toList, Nat.reduceAdd, Nat.reduceMul, Int.reduceToNat, Int.reducePow, UInt8.reduceToNat]) | (simp -dsimp (disch := first | assumption | omega) only [dec_t, dec_f])
      | (refine And.intro ?_ ?_
         · first | omega | decide | (simp (disch := omega) only [wkW, Int.reduceToNat, Int.reducePow] <;> omega) | (simp <;> omega)) | (simp (disch := omega) only [wkW, Int.reduceToNat, Int.reducePow])
    exact Again.mk m [(5, .int .i64 ((i + 1 : Nat) : Int)), (4, .sl 0 0 (size l) true), (3, .int .i64 (size l : Int)), (0, .ints .u64 l)] ⟨1, [(0, .ints .u64 _)], [], []⟩ (by omega) (Sub.norm ⟨rfl, rfl, rfl, rfl, trivial⟩ ⟨rfl, trivial⟩ (Nat.le_refl _) rfl rfl rfl rfl) ⟨i + 1, _, by omega, hst, rfl, rfl⟩
theorem ref02_order (a b : List Int) (ha : Limbs a) (hb : Limbs b) (hla : a.length ≤ 17592186043904) (hlb : b.length ≤ 17592186043904) : Meets Tryz.prog 108 [.ints .u64 a, .ints .u64 b] (.int .i64 (cmpN a b)) := by
  have s1 := ref02_top a hla
  have s2 := ref02_top b hlb
  have z1 := size_le a
  have z2 := size_le b
  by_cases c1 : size a < size b
  · rw [cmpN_short ha hb c1]
    have d1 : decide (((size a : Nat) : Int) < ((size b : Nat) : Int)) = true := decide_eq_true (by omega)
    refine meets_by ttOk Tryz.func108 Tryz.ntmps108 Tryz.results108 (by kernel_rfl) (c := _) rfl rfl rfl fun E => ?_
    simp only [argsFrame]
    repeat' first
      | (with_reducible first | refine PW.seq ?_ | refine PW.block ?_ | refine PW.fork ?_ | refine PW.skip ?_ | refine PW.exit ?_ | refine PW.ret ?_) | (simp only [d1]) | ((with_reducible refine PW.region ttOk ?_ ?_); rfl) | ((with_reducible refine PW.regionD ttOk mixed ?_ ?_ ?_); rfl; rfl) | (with_reducible refine ifW_dec (fun g => ?_) (fun g => ?_) <;> first | (exfalso; omega) | (simp -dsimp only [g, wkI])) | ((with_reducible first | refine condE_dec (fun g => ?_) (fun g => ?_) | refine condE_not (fun g => ?_) (fun g => ?_)) <;> try (exfalso; omega)) | (simp -dsimp only [↓wkA, ↓wkE, ↓wkJ, wkB, ↓tt, Nat.reduceBEq, Nat.reduceEqDiff, ↓reduceIte, Nat.reduceLT, Array.toList, Nat.reduceAdd, Nat.reduceMul, Int.reduceToNat, Int.reducePow, UInt8.reduceToNat]) | (refine call_by (s1) (views_data rfl) ⟨trivial, trivial⟩ rfl ?_) | (refine call_by (s2) (views_data rfl) ⟨trivial, trivial⟩ rfl ?_) | (simp -dsimp (disch := first | assumption | omega) only [dec_t, dec_f])
      | (refine And.intro ?_ ?_
         · first | omega | decide | (simp (disch := omega) only [wkW, Int.reduceToNat, Int.reducePow] <;> omega) | (simp <;> omega)) | (simp (disch := omega) only [wkW, Int.reduceToNat, Int.reducePow])
  have d1 : decide (((size a : Nat) : Int) < ((size b : Nat) : Int)) = false := decide_eq_false (by omega)
  by_cases c2 : size b < size a
  · rw [cmpN_long ha hb c2]
    have d2 : decide (((size b : Nat) : Int) < ((size a : Nat) : Int)) = true := decide_eq_true (by omega)
    refine meets_by ttOk Tryz.func108 Tryz.ntmps108 Tryz.results108 (by kernel_rfl) (c := _) rfl rfl rfl fun E => ?_
    simp only [argsFrame]
    repeat' first
      | (with_reducible first | refine PW.seq ?_ | refine PW.block ?_ | refine PW.fork ?_ | refine PW.skip ?_ | refine PW.exit ?_ | refine PW.ret ?_) | (simp only [d1, d2]) | ((with_reducible refine PW.region ttOk ?_ ?_); rfl) | ((with_reducible refine PW.regionD ttOk mixed ?_ ?_ ?_); rfl; rfl) | (with_reducible refine ifW_dec (fun g => ?_) (fun g => ?_) <;> first | (exfalso; omega) | (simp -dsimp only [g, wkI])) | ((with_reducible first | refine condE_dec (fun g => ?_) (fun g => ?_) | refine condE_not (fun g => ?_) (fun g => ?_)) <;> try (exfalso; omega)) | (simp -dsimp only [↓wkA, ↓wkE, ↓wkJ, wkB, ↓tt, Nat.reduceBEq, Nat.reduceEqDiff, ↓reduceIte, Nat.reduceLT, Array.toList, Nat.reduceAdd, Nat.reduceMul, Int.reduceToNat, Int.reducePow, UInt8.reduceToNat]) | (refine call_by (s1) (views_data rfl) ⟨trivial, trivial⟩ rfl ?_) | (refine call_by (s2) (views_data rfl) ⟨trivial, trivial⟩ rfl ?_) | (simp -dsimp (disch := first | assumption | omega) only [dec_t, dec_f])
      | (refine And.intro ?_ ?_
         · first | omega | decide | (simp (disch := omega) only [wkW, Int.reduceToNat, Int.reducePow] <;> omega) | (simp <;> omega)) | (simp (disch := omega) only [wkW, Int.reduceToNat, Int.reducePow])
  have d2 : decide (((size b : Nat) : Int) < ((size a : Nat) : Int)) = false := decide_eq_false (by omega)
  obtain ⟨n, hn⟩ : ∃ n, size b = n := ⟨_, rfl⟩
  have hn1 : size a = n := by omega
  rw [hn1] at s1
  rw [hn] at s2
  rw [hn1, hn] at d1 d2
  have w0 : IntKind.wrap .i64 ((n : Int) - 1) = (n : Int) - 1 := wrap_i64 (by omega)
  refine meets_by ttOk Tryz.func108 Tryz.ntmps108 Tryz.results108 (by kernel_rfl) (c := _) rfl rfl rfl fun E => ?_
  simp only [argsFrame]
  repeat' first
    | (with_reducible first | refine PW.seq ?_ | refine PW.block ?_ | refine PW.fork ?_ | refine PW.skip ?_ | refine PW.exit ?_ | refine PW.ret ?_) | (simp only [d1, d2, w0]) | ((with_reducible refine PW.region ttOk ?_ ?_); rfl) | ((with_reducible refine PW.regionD ttOk mixed ?_ ?_ ?_); rfl; rfl) | (with_reducible refine ifW_dec (fun g => ?_) (fun g => ?_) <;> first | (exfalso; omega) | (simp -dsimp only [g, wkI])) | ((with_reducible first | refine condE_dec (fun g => ?_) (fun g => ?_) | refine condE_not (fun g => ?_) (fun g => ?_)) <;> try (exfalso; omega)) | (simp -dsimp only [↓wkA, ↓wkE, ↓wkJ, wkB, ↓tt, Nat.reduceBEq, Nat.reduceEqDiff, ↓reduceIte, Nat.reduceLT, Array.toList, Nat.reduceAdd, Nat.reduceMul, Int.reduceToNat, Int.reducePow, UInt8.reduceToNat]) | (refine call_by (s1) (views_data rfl) ⟨trivial, trivial⟩ rfl ?_) | (refine call_by (s2) (views_data rfl) ⟨trivial, trivial⟩ rfl ?_) | (simp -dsimp (disch := first | assumption | omega) only [dec_t, dec_f])
    | (refine And.intro ?_ ?_
       · first | omega | decide | (simp (disch := omega) only [wkW, Int.reduceToNat, Int.reducePow] <;> omega) | (simp <;> omega)) | (simp (disch := omega) only [wkW, Int.reduceToNat, Int.reducePow])
  refine PW.loopA (fun m F H => m ≤ n ∧ (∀ j, m ≤ j → j < n → a.getD j 0 = b.getD j 0) ∧ F = [(7, .int .i64 ((m : Int) - 1)), (0, .ints .u64 a), (1, .ints .u64 b)] ∧ H = ⟨0, [], [], []⟩) n [(7, .int .i64 ((n : Int) - 1)), (0, .ints .u64 a), (1, .ints .u64 b)] ⟨0, [], [], []⟩ (Sub.norm ⟨rfl, rfl, rfl, trivial⟩ trivial (Nat.le_refl _) rfl rfl rfl rfl) ⟨Nat.le_refl _, fun j h1 h2 => by omega, rfl, rfl⟩ ?_
  rintro m F H ⟨hm, he, rfl, rfl⟩
  cases m with
  | zero =>
    rw [cmpN_same hn1 hn fun j hj => he j (by omega) hj]
    repeat' first
      | (with_reducible first | refine PW.seq ?_ | refine PW.block ?_ | refine PW.fork ?_ | refine PW.skip ?_ | refine PW.exit ?_ | refine PW.ret ?_) | ((with_reducible refine PW.region ttOk ?_ ?_); rfl) | ((with_reducible refine PW.regionD ttOk mixed ?_ ?_ ?_); rfl; rfl) | (with_reducible refine ifW_dec (fun g => ?_) (fun g => ?_) <;> first | (exfalso; omega) | (simp -dsimp only [g, wkI])) | ((with_reducible first | refine condE_dec (fun g => ?_) (fun g => ?_) | refine condE_not (fun g => ?_) (fun g => ?_)) <;> try (exfalso; omega)) | (simp -dsimp only [↓wkA, ↓wkE, ↓wkJ, wkB, ↓tt, Nat.reduceBEq, Nat.reduceEqDiff, ↓reduceIte, Nat.reduceLT, Array.toList, Nat.reduceAdd, Nat.reduceMul, Int.reduceToNat, Int.reducePow, UInt8.reduceToNat]) | (simp -dsimp (disch := first | assumption | omega) only [dec_t, dec_f])
      | (refine And.intro ?_ ?_
         · first | omega | decide | (simp (disch := omega) only [wkW, Int.reduceToNat, Int.reducePow] <;> omega) | (simp <;> omega)) | (simp (disch := omega) only [wkW, Int.reduceToNat, Int.reducePow])
  | succ m =>
    have e1 : (((m + 1 : Nat)) : Int) - 1 = (m : Int) := by omega
    have w1 : IntKind.wrap .i64 ((m : Int) - 1) = (m : Int) - 1 := wrap_i64 (by omega)
    by_cases k1 : a.getD m 0 < b.getD m 0
    · have d3 : decide (a.getD m 0 < b.getD m 0) = true := decide_eq_true k1
      rw [cmpN_low ha hb hn1 hn (show m < n by omega) (fun j h1 h2 => he j (by omega) h2) k1]
      repeat' first
        | (with_reducible first | refine PW.seq ?_ | refine PW.block ?_ | refine PW.fork ?_ | refine PW.skip ?_ | refine PW.exit ?_ | refine PW.ret ?_) | (simp only [e1, w1, d3, Int.toNat_natCast]) | ((with_reducible refine PW.region ttOk ?_ ?_); rfl) | ((with_reducible refine PW.regionD ttOk mixed ?_ ?_ ?_); rfl; rfl) | (with_reducible refine ifW_dec (fun g => ?_) (fun g => ?_) <;> first | (exfalso; omega) | (simp -dsimp only [g, wkI])) | ((with_reducible first | refine condE_dec (fun g => ?_) (fun g => ?_) | refine condE_not (fun g => ?_) (fun g => ?_)) <;> try (exfalso; omega)) | (simp -dsimp only [↓wkA, ↓wkE, ↓wkJ, wkB, ↓tt, Nat.reduceBEq, Nat.reduceEqDiff, ↓reduceIte, Nat.reduceLT, Array.toList, Nat.reduceAdd, Nat.reduceMul, Int.reduceToNat, Int.reducePow, UInt8.reduceToNat]) | (simp -dsimp (disch := first | assumption | omega) only [dec_t, dec_f])
        | (refine And.intro ?_ ?_
           · first | omega | decide | (simp (disch := omega) only [wkW, Int.reduceToNat, Int.reducePow] <;> omega) | (simp <;> omega)) | (simp (disch := omega) only [wkW, Int.reduceToNat, Int.reducePow])
    have d3 : decide (a.getD m 0 < b.getD m 0) = false := decide_eq_false k1
    by_cases k2 : b.getD m 0 < a.getD m 0
    · have d4 : decide (b.getD m 0 < a.getD m 0) = true := decide_eq_true k2
      rw [cmpN_high ha hb hn1 hn (show m < n by omega) (fun j h1 h2 => he j (by omega) h2) k2]
      repeat' first
        | (with_reducible first | refine PW.seq ?_ | refine PW.block ?_ | refine PW.fork ?_ | refine PW.skip ?_ | refine PW.exit ?_ | refine PW.ret ?_) | (simp only [e1, w1, d3, d4, Int.toNat_natCast]) | ((with_reducible refine PW.region ttOk ?_ ?_); rfl) | ((with_reducible refine PW.regionD ttOk mixed ?_ ?_ ?_); rfl; rfl) | (with_reducible refine ifW_dec (fun g => ?_) (fun g => ?_) <;> first | (exfalso; omega) | (simp -dsimp only [g, wkI])) | ((with_reducible first | refine condE_dec (fun g => ?_) (fun g => ?_) | refine condE_not (fun g => ?_) (fun g => ?_)) <;> try (exfalso; omega)) | (simp -dsimp only [↓wkA, ↓wkE, ↓wkJ, wkB, ↓tt, Nat.reduceBEq, Nat.reduceEqDiff, ↓reduceIte, Nat.reduceLT, Array.toList, Nat.reduceAdd, Nat.reduceMul, Int.reduceToNat, Int.reducePow, UInt8.reduceToNat]) | (simp -dsimp (disch := first | assumption | omega) only [dec_t, dec_f])
        | (refine And.intro ?_ ?_
           · first | omega | decide | (simp (disch := omega) only [wkW, Int.reduceToNat, Int.reducePow] <;> omega) | (simp <;> omega)) | (simp (disch := omega) only [wkW, Int.reduceToNat, Int.reducePow])
    have d4 : decide (b.getD m 0 < a.getD m 0) = false := decide_eq_false k2
    repeat' first
      | (with_reducible first | refine PW.seq ?_ | refine PW.block ?_ | refine PW.fork ?_ | refine PW.skip ?_ | refine PW.exit ?_ | refine PW.ret ?_) | (simp only [e1, w1, d3, d4, Int.toNat_natCast]) | ((with_reducible refine PW.region ttOk ?_ ?_); rfl) | ((with_reducible refine PW.regionD ttOk mixed ?_ ?_ ?_); rfl; rfl) | (with_reducible refine ifW_dec (fun g => ?_) (fun g => ?_) <;> first | (exfalso; omega) | (simp -dsimp only [g, wkI])) | ((with_reducible first | refine condE_dec (fun g => ?_) (fun g => ?_) | refine condE_not (fun g => ?_) (fun g => ?_)) <;> try (exfalso; omega)) | (simp -dsimp only [↓wkA, ↓wkE, ↓wkJ, wkB, ↓tt, Nat.reduceBEq, Nat.reduceEqDiff, ↓reduceIte, Nat.reduceLT, Array.toList, Nat.reduceAdd, Nat.reduceMul, Int.reduceToNat, Int.reducePow, UInt8.reduceToNat]) | (simp -dsimp (disch := first | assumption | omega) only [dec_t, dec_f])
      | (refine And.intro ?_ ?_
         · first | omega | decide | (simp (disch := omega) only [wkW, Int.reduceToNat, Int.reducePow] <;> omega) | (simp <;> omega)) | (simp (disch := omega) only [wkW, Int.reduceToNat, Int.reducePow])
    exact Again.mk m [(7, .int .i64 ((m : Int) - 1)), (0, .ints .u64 a), (1, .ints .u64 b)] ⟨0, [], [], []⟩ (by omega) (Sub.norm ⟨rfl, rfl, rfl, trivial⟩ trivial (Nat.le_refl _) rfl rfl rfl rfl) ⟨by omega, fun j h1 h2 => by
      by_cases h3 : j = m
      · subst h3; omega
      · exact he j (by omega) h2, rfl, rfl⟩
theorem ref02_same (a b : List Int) (ha : Limbs a) (hb : Limbs b) (hla : a.length ≤ 17592186043904) (hlb : b.length ≤ 17592186043904) : Meets Tryz.prog 152 [.ints .u64 a, .ints .u64 b] (.bool (decide (cmpN a b = 0))) := by
  have h1 := ref02_order a b ha hb hla hlb
  refine meets_by ttOk Tryz.func152 Tryz.ntmps152 Tryz.results152 (by kernel_rfl) (c := _) rfl rfl rfl fun E => ?_
  simp only [argsFrame]
  repeat' first
    | (with_reducible first | refine PW.seq ?_ | refine PW.block ?_ | refine PW.fork ?_ | refine PW.skip ?_ | refine PW.exit ?_ | refine PW.ret ?_) | ((with_reducible refine PW.region ttOk ?_ ?_); rfl) | ((with_reducible refine PW.regionD ttOk mixed ?_ ?_ ?_); rfl; rfl) | (with_reducible refine ifW_dec (fun g => ?_) (fun g => ?_) <;> first | (exfalso; omega) | (simp -dsimp only [g, wkI])) | ((with_reducible first | refine condE_dec (fun g => ?_) (fun g => ?_) | refine condE_not (fun g => ?_) (fun g => ?_)) <;> try (exfalso; omega)) | (simp -dsimp only [↓wkA, ↓wkE, ↓wkJ, wkB, ↓tt, Nat.reduceBEq, Nat.reduceEqDiff, ↓reduceIte, Nat.reduceLT, Array.toList, Nat.reduceAdd, Nat.reduceMul, Int.reduceToNat, Int.reducePow, UInt8.reduceToNat]) | (refine call_by (h1) (views_data rfl) ⟨trivial, trivial, trivial⟩ rfl ?_) | (simp -dsimp (disch := first | assumption | omega) only [dec_t, dec_f])
    | (refine And.intro ?_ ?_
       · first | omega | decide | (simp (disch := omega) only [wkW, Int.reduceToNat, Int.reducePow] <;> omega) | (simp <;> omega)) | (simp (disch := omega) only [wkW, Int.reduceToNat, Int.reducePow])
theorem or_bit {x c : Int} (hx : 0 ≤ x ∧ x < 18446744073709551616) (hc : 0 ≤ c ∧ c ≤ 1) : ibits .or .u64 (x * 2 % 18446744073709551616) c = x * 2 % 18446744073709551616 + c := by
  have h := or_low (x % 9223372036854775808) c 1 (by omega) (by omega) (by omega)
  rw [show x % 9223372036854775808 * 2 ^ 1 = x * 2 % 18446744073709551616 by omega] at h
  exact h
theorem ref02_doubled (a : List Int) (ha : Limbs a) (hla : a.length ≤ 100000) (bit : Int) (hbit : 0 ≤ bit ∧ bit ≤ 1) : Meets Tryz.prog 109 [.ints .u64 a, .int .u64 bit] (.ints .u64 (limbsOf (a.length + 1) (2 * val a + bit).toNat)) := by
  have w0 : IntKind.wrap .i64 ((a.length : Int) + 1) = ((a.length + 1 : Nat) : Int) := wrap_i64 (by omega)
  have hfin : ∀ o c, DblS a o bit a.length c → o.set a.length c = limbsOf (a.length + 1) (2 * val a + bit).toNat := fun o c h => h.fin
  generalize limbsOf (a.length + 1) (2 * val a + bit).toNat = res at *
  refine meets_by ttOk Tryz.func109 Tryz.ntmps109 Tryz.results109 (by kernel_rfl) (c := _) rfl rfl rfl fun E => ?_
  simp only [argsFrame]
  repeat' first
    | (with_reducible first | refine PW.seq ?_ | refine PW.block ?_ | refine PW.fork ?_ | refine PW.skip ?_ | refine PW.exit ?_ | refine PW.ret ?_) | (simp only [w0, Int.toNat_natCast]) | ((with_reducible refine PW.region ttOk ?_ ?_); rfl) | ((with_reducible refine PW.regionD ttOk mixed ?_ ?_ ?_); rfl; rfl) | (with_reducible refine ifW_dec (fun g => ?_) (fun g => ?_) <;> first | (exfalso; omega) | (simp -dsimp only [g, wkI])) | ((with_reducible first | refine condE_dec (fun g => ?_) (fun g => ?_) | refine condE_not (fun g => ?_) (fun g => ?_)) <;> try (exfalso; omega)) | (simp -dsimp only [↓wkA, ↓wkE, ↓wkJ, wkB, ↓tt, Nat.reduceBEq, Nat.reduceEqDiff, ↓reduceIte, Nat.reduceLT, Array.toList, Nat.reduceAdd, Nat.reduceMul, Int.reduceToNat, Int.reducePow, UInt8.reduceToNat]) | (simp -dsimp (disch := first | assumption | omega) only [dec_t, dec_f])
    | (refine And.intro ?_ ?_
       · first | omega | decide | (simp (disch := omega) only [wkW, Int.reduceToNat, Int.reducePow] <;> omega) | (simp <;> omega)) | (simp (disch := omega) only [wkW, Int.reduceToNat, Int.reducePow])
  refine PW.loopA (fun m F H => ∃ i o c, i + m = a.length ∧ DblS a o bit i c ∧ F = [(7, .int .i64 (i : Int)), (6, .int .u64 c), (5, .sl 0 0 (a.length + 1) true), (0, .ints .u64 a)] ∧ H = ⟨1, [(0, .ints .u64 o)], [], []⟩) a.length [(7, .int .i64 ((0 : Nat) : Int)), (6, .int .u64 bit), (5, .sl 0 0 (a.length + 1) true), (0, .ints .u64 a)] ⟨1, [(0, .ints .u64 (List.replicate (a.length + 1) 0))], [], []⟩ (Sub.norm ⟨rfl, rfl, rfl, rfl, trivial⟩ ⟨rfl, trivial⟩ (Nat.le_refl _) rfl rfl rfl rfl) ⟨0, _, _, by omega, ⟨by simp, limbs_zeros _, hbit, by simp [vt]⟩, rfl, rfl⟩ ?_
  rintro m F H ⟨i, o, c, hi, hS, rfl, rfl⟩
  have hol := hS.len
  have hcar := hS.car
  cases m with
  | zero =>
    obtain rfl : i = a.length := by omega
    have hf := hfin o c hS
    have htk : List.take (a.length + 1) res = res := List.take_of_length_le (by rw [← hf, List.length_set]; omega)
    have hrl : a.length + 1 ≤ res.length := by rw [← hf, List.length_set]; omega
    repeat' first
      | (with_reducible first | refine PW.seq ?_ | refine PW.block ?_ | refine PW.fork ?_ | refine PW.skip ?_ | refine PW.exit ?_ | refine PW.ret ?_) | (simp only [w0, hf, Int.toNat_natCast]) | ((with_reducible refine PW.region ttOk ?_ ?_); rfl) | ((with_reducible refine PW.regionD ttOk mixed ?_ ?_ ?_); rfl; rfl) | (with_reducible refine ifW_dec (fun g => ?_) (fun g => ?_) <;> first | (exfalso; omega) | (simp -dsimp only [g, wkI])) | ((with_reducible first | refine condE_dec (fun g => ?_) (fun g => ?_) | refine condE_not (fun g => ?_) (fun g => ?_)) <;> try (exfalso; omega)) | (simp -dsimp only [↓wkA, ↓wkE, ↓wkJ, wkB, ↓tt, Nat.reduceBEq, Nat.reduceEqDiff, ↓reduceIte, Nat.reduceLT, Array.toList, Nat.reduceAdd, Nat.reduceMul, Int.reduceToNat, Int.reducePow, UInt8.reduceToNat]) | (simp -dsimp (disch := first | assumption | omega) only [dec_t, dec_f])
      | (refine And.intro ?_ ?_
         · first | omega | decide | (simp (disch := omega) only [wkW, Int.reduceToNat, Int.reducePow] <;> omega) | (simp <;> omega)) | (simp (disch := omega) only [wkW, Int.reduceToNat, Int.reducePow])
    all_goals first | omega | rw [htk]
  | succ m =>
    have hx := getD_limb ha i
    simp only [B64] at hx
    have hst := hS.step ha (by omega)
    have w1 : IntKind.wrap .i64 ((i : Int) + 1) = ((i + 1 : Nat) : Int) := wrap_i64 (by omega)
    have w2 : IntKind.wrap .u64 (a.getD i 0 * 2 ^ min 1 64) = a.getD i 0 * 2 % 18446744073709551616 := by rw [show (2 : Int) ^ min 1 64 = 2 from rfl]; exact wrap_u64' _
    have h3 := or_bit hx hcar
    have h4 : (a.getD i 0).fdiv (2 ^ min 63 64) = a.getD i 0 / 9223372036854775808 := by rw [Int.fdiv_eq_ediv_of_nonneg _ (by decide)]; rfl
    repeat' first
      | (with_reducible first | refine PW.seq ?_ | refine PW.block ?_ | refine PW.fork ?_ | refine PW.skip ?_ | refine PW.exit ?_ | refine PW.ret ?_) | (simp only [w1, w2, h3, h4, Int.toNat_natCast]) | ((with_reducible refine PW.region ttOk ?_ ?_); rfl) | ((with_reducible refine PW.regionD ttOk mixed ?_ ?_ ?_); rfl; rfl) | (with_reducible refine ifW_dec (fun g => ?_) (fun g => ?_) <;> first | (exfalso; omega) | (simp -dsimp only [g, wkI])) | ((with_reducible first | refine condE_dec (fun g => ?_) (fun g => ?_) | refine condE_not (fun g => ?_) (fun g => ?_)) <;> try (exfalso; omega)) | (simp -dsimp only [↓wkA, ↓wkE, ↓wkJ, wkB, ↓tt, Nat.reduceBEq, Nat.reduceEqDiff, ↓reduceIte, Nat.reduceLT, Array.toList, Nat.reduceAdd, Nat.reduceMul, Int.reduceToNat, Int.reducePow, UInt8.reduceToNat]) | (simp -dsimp (disch := first | assumption | omega) only [dec_t, dec_f])
      | (refine And.intro ?_ ?_
         · first | omega | decide | (simp (disch := omega) only [wkW, Int.reduceToNat, Int.reducePow] <;> omega) | (simp <;> omega)) | (simp (disch := omega) only [wkW, Int.reduceToNat, Int.reducePow])
    exact Again.mk m [(7, .int .i64 ((i + 1 : Nat) : Int)), (6, .int .u64 _), (5, .sl 0 0 (a.length + 1) true), (0, .ints .u64 a)] ⟨1, [(0, .ints .u64 _)], [], []⟩ (by omega) (Sub.norm ⟨rfl, rfl, rfl, rfl, trivial⟩ ⟨rfl, trivial⟩ (Nat.le_refl _) rfl rfl rfl rfl) ⟨i + 1, _, _, by omega, hst, rfl, rfl⟩
theorem ref02_holds (a b : List Int) (ha : Limbs a) (hb : Limbs b) (j n : Nat) (hbn : b.length = n) (hj : j + n ≤ a.length) (hl : a.length ≤ 100000) : Meets Tryz.prog 110 [.ints .u64 a, .int .i64 (j : Int), .ints .u64 b] (.bool (decide (vt b n ≤ vt (a.drop j) n))) := by
  have w0 : IntKind.wrap .i64 ((n : Int) - 1) = (n : Int) - 1 := wrap_i64 (by omega)
  have had := limbs_drop ha j
  refine meets_by ttOk Tryz.func110 Tryz.ntmps110 Tryz.results110 (by kernel_rfl) (c := _) rfl rfl rfl fun E => ?_
  simp only [argsFrame]
  repeat' first
    | (with_reducible first | refine PW.seq ?_ | refine PW.block ?_ | refine PW.fork ?_ | refine PW.skip ?_ | refine PW.exit ?_ | refine PW.ret ?_) | (simp only [w0, hbn]) | ((with_reducible refine PW.region ttOk ?_ ?_); rfl) | ((with_reducible refine PW.regionD ttOk mixed ?_ ?_ ?_); rfl; rfl) | (with_reducible refine ifW_dec (fun g => ?_) (fun g => ?_) <;> first | (exfalso; omega) | (simp -dsimp only [g, wkI])) | ((with_reducible first | refine condE_dec (fun g => ?_) (fun g => ?_) | refine condE_not (fun g => ?_) (fun g => ?_)) <;> try (exfalso; omega)) | (simp -dsimp only [↓wkA, ↓wkE, ↓wkJ, wkB, ↓tt, Nat.reduceBEq, Nat.reduceEqDiff, ↓reduceIte, Nat.reduceLT, Array.toList, Nat.reduceAdd, Nat.reduceMul, Int.reduceToNat, Int.reducePow, UInt8.reduceToNat]) | (simp -dsimp (disch := first | assumption | omega) only [dec_t, dec_f])
    | (refine And.intro ?_ ?_
       · first | omega | decide | (simp (disch := omega) only [wkW, Int.reduceToNat, Int.reducePow] <;> omega) | (simp <;> omega)) | (simp (disch := omega) only [wkW, Int.reduceToNat, Int.reducePow])
  refine PW.loopA (fun m F H => m ≤ n ∧ (∀ k, m ≤ k → k < n → (a.drop j).getD k 0 = b.getD k 0) ∧ F = [(7, .int .i64 ((m : Int) - 1)), (0, .ints .u64 a), (1, .int .i64 (j : Int)), (2, .ints .u64 b)] ∧ H = ⟨0, [], [], []⟩) n [(7, .int .i64 ((n : Int) - 1)), (0, .ints .u64 a), (1, .int .i64 (j : Int)), (2, .ints .u64 b)] ⟨0, [], [], []⟩ (Sub.norm ⟨rfl, rfl, rfl, rfl, trivial⟩ trivial (Nat.le_refl _) rfl rfl rfl rfl) ⟨Nat.le_refl _, fun j h1 h2 => by omega, rfl, rfl⟩ ?_
  rintro m F H ⟨hm, he, rfl, rfl⟩
  cases m with
  | zero =>
    rw [vt_same n fun k hk => he k (by omega) hk, decide_eq_true (Int.le_refl _)]
    repeat' first
      | (with_reducible first | refine PW.seq ?_ | refine PW.block ?_ | refine PW.fork ?_ | refine PW.skip ?_ | refine PW.exit ?_ | refine PW.ret ?_) | ((with_reducible refine PW.region ttOk ?_ ?_); rfl) | ((with_reducible refine PW.regionD ttOk mixed ?_ ?_ ?_); rfl; rfl) | (with_reducible refine ifW_dec (fun g => ?_) (fun g => ?_) <;> first | (exfalso; omega) | (simp -dsimp only [g, wkI])) | ((with_reducible first | refine condE_dec (fun g => ?_) (fun g => ?_) | refine condE_not (fun g => ?_) (fun g => ?_)) <;> try (exfalso; omega)) | (simp -dsimp only [↓wkA, ↓wkE, ↓wkJ, wkB, ↓tt, Nat.reduceBEq, Nat.reduceEqDiff, ↓reduceIte, Nat.reduceLT, Array.toList, Nat.reduceAdd, Nat.reduceMul, Int.reduceToNat, Int.reducePow, UInt8.reduceToNat]) | (simp -dsimp (disch := first | assumption | omega) only [dec_t, dec_f])
      | (refine And.intro ?_ ?_
         · first | omega | decide | (simp (disch := omega) only [wkW, Int.reduceToNat, Int.reducePow] <;> omega) | (simp <;> omega)) | (simp (disch := omega) only [wkW, Int.reduceToNat, Int.reducePow])
  | succ m =>
    have e1 : (((m + 1 : Nat)) : Int) - 1 = (m : Int) := by omega
    have w1 : IntKind.wrap .i64 ((m : Int) - 1) = (m : Int) - 1 := wrap_i64 (by omega)
    have w2 : IntKind.wrap .i64 ((j : Int) + (m : Int)) = ((j + m : Nat) : Int) := by rw [wrap_i64 (by omega)]; omega
    have hg : (a.drop j).getD m 0 = a.getD (j + m) 0 := getD_drop'
    by_cases k1 : b.getD m 0 < a.getD (j + m) 0
    · have d3 : decide (b.getD m 0 < a.getD (j + m) 0) = true := decide_eq_true k1
      have := vt_top hb had (show b.getD m 0 < (a.drop j).getD m 0 by rw [hg]; exact k1) n (by omega) fun k h1 h2 => (he k (by omega) h2).symm
      rw [decide_eq_true (Int.le_of_lt this)]
      repeat' first
        | (with_reducible first | refine PW.seq ?_ | refine PW.block ?_ | refine PW.fork ?_ | refine PW.skip ?_ | refine PW.exit ?_ | refine PW.ret ?_) | (simp only [e1, w1, w2, d3, Int.toNat_natCast]) | ((with_reducible refine PW.region ttOk ?_ ?_); rfl) | ((with_reducible refine PW.regionD ttOk mixed ?_ ?_ ?_); rfl; rfl) | (with_reducible refine ifW_dec (fun g => ?_) (fun g => ?_) <;> first | (exfalso; omega) | (simp -dsimp only [g, wkI])) | ((with_reducible first | refine condE_dec (fun g => ?_) (fun g => ?_) | refine condE_not (fun g => ?_) (fun g => ?_)) <;> try (exfalso; omega)) | (simp -dsimp only [↓wkA, ↓wkE, ↓wkJ, wkB, ↓tt, Nat.reduceBEq, Nat.reduceEqDiff, ↓reduceIte, Nat.reduceLT, Array.toList, Nat.reduceAdd, Nat.reduceMul, Int.reduceToNat, Int.reducePow, UInt8.reduceToNat]) | (simp -dsimp (disch := first | assumption | omega) only [dec_t, dec_f])
        | (refine And.intro ?_ ?_
           · first | omega | decide | (simp (disch := omega) only [wkW, Int.reduceToNat, Int.reducePow] <;> omega) | (simp <;> omega)) | (simp (disch := omega) only [wkW, Int.reduceToNat, Int.reducePow])
    have d3 : decide (b.getD m 0 < a.getD (j + m) 0) = false := decide_eq_false k1
    by_cases k2 : a.getD (j + m) 0 < b.getD m 0
    · have d4 : decide (a.getD (j + m) 0 < b.getD m 0) = true := decide_eq_true k2
      have := vt_top had hb (show (a.drop j).getD m 0 < b.getD m 0 by rw [hg]; exact k2) n (by omega) fun k h1 h2 => he k (by omega) h2
      rw [decide_eq_false (Int.not_le.2 this)]
      repeat' first
        | (with_reducible first | refine PW.seq ?_ | refine PW.block ?_ | refine PW.fork ?_ | refine PW.skip ?_ | refine PW.exit ?_ | refine PW.ret ?_) | (simp only [e1, w1, w2, d3, d4, Int.toNat_natCast]) | ((with_reducible refine PW.region ttOk ?_ ?_); rfl) | ((with_reducible refine PW.regionD ttOk mixed ?_ ?_ ?_); rfl; rfl) | (with_reducible refine ifW_dec (fun g => ?_) (fun g => ?_) <;> first | (exfalso; omega) | (simp -dsimp only [g, wkI])) | ((with_reducible first | refine condE_dec (fun g => ?_) (fun g => ?_) | refine condE_not (fun g => ?_) (fun g => ?_)) <;> try (exfalso; omega)) | (simp -dsimp only [↓wkA, ↓wkE, ↓wkJ, wkB, ↓tt, Nat.reduceBEq, Nat.reduceEqDiff, ↓reduceIte, Nat.reduceLT, Array.toList, Nat.reduceAdd, Nat.reduceMul, Int.reduceToNat, Int.reducePow, UInt8.reduceToNat]) | (simp -dsimp (disch := first | assumption | omega) only [dec_t, dec_f])
        | (refine And.intro ?_ ?_
           · first | omega | decide | (simp (disch := omega) only [wkW, Int.reduceToNat, Int.reducePow] <;> omega) | (simp <;> omega)) | (simp (disch := omega) only [wkW, Int.reduceToNat, Int.reducePow])
    have d4 : decide (a.getD (j + m) 0 < b.getD m 0) = false := decide_eq_false k2
    repeat' first
      | (with_reducible first | refine PW.seq ?_ | refine PW.block ?_ | refine PW.fork ?_ | refine PW.skip ?_ | refine PW.exit ?_ | refine PW.ret ?_) | (simp only [e1, w1, w2, d3, d4, Int.toNat_natCast]) | ((with_reducible refine PW.region ttOk ?_ ?_); rfl) | ((with_reducible refine PW.regionD ttOk mixed ?_ ?_ ?_); rfl; rfl) | (with_reducible refine ifW_dec (fun g => ?_) (fun g => ?_) <;> first | (exfalso; omega) | (simp -dsimp only [g, wkI])) | ((with_reducible first | refine condE_dec (fun g => ?_) (fun g => ?_) | refine condE_not (fun g => ?_) (fun g => ?_)) <;> try (exfalso; omega)) | (simp -dsimp only [↓wkA, ↓wkE, ↓wkJ, wkB, ↓tt, Nat.reduceBEq, Nat.reduceEqDiff, ↓reduceIte, Nat.reduceLT, Array.toList, Nat.reduceAdd, Nat.reduceMul, Int.reduceToNat, Int.reducePow, UInt8.reduceToNat]) | (simp -dsimp (disch := first | assumption | omega) only [dec_t, dec_f])
      | (refine And.intro ?_ ?_
         · first | omega | decide | (simp (disch := omega) only [wkW, Int.reduceToNat, Int.reducePow] <;> omega) | (simp <;> omega)) | (simp (disch := omega) only [wkW, Int.reduceToNat, Int.reducePow])
    exact Again.mk m [(7, .int .i64 ((m : Int) - 1)), (0, .ints .u64 a), (1, .int .i64 (j : Int)), (2, .ints .u64 b)] ⟨0, [], [], []⟩ (by omega) (Sub.norm ⟨rfl, rfl, rfl, rfl, trivial⟩ trivial (Nat.le_refl _) rfl rfl rfl rfl) ⟨by omega, fun k h1 h2 => by
      by_cases h3 : k = m
      · subst h3; rw [hg]; omega
      · exact he k (by omega) h2, rfl, rfl⟩
abbrev tkF (v : List Int) (r off len : Nat) (full : Bool) (i : Nat) (b : Int) : PV.Frame := [(7, .int .i64 (i : Int)), (6, .int .u64 b), (0, .sl r 0 len full), (1, .int .i64 (off : Int)), (2, .ints .u64 v)]
theorem take_bits {x y b : Int} (hx : 0 ≤ x ∧ x < 18446744073709551616) (hy : 0 ≤ y ∧ y < 18446744073709551616) (hb : 0 ≤ b ∧ b ≤ 1) : (x - y - b) / 18446744073709551616 = if x < y ∨ (x = y ∧ b = 1) then -1 else 0 := by
  split <;> omega
theorem ref02_take_off (l v : List Int) (hl : Limbs l) (hv : Limbs v) (off n : Nat) (hvn : v.length = n) (hll : off + n ≤ l.length) (hl2 : l.length ≤ 100000) (full : Bool) (r nx : Nat) (rows : List (Nat × PV.Row)) (gg : List PV.Frame) (ty : List (Nat × TypeId)) (hr : getRow rows r = some (.ints .u64 l)) :
    HMeets Tryz.prog 111 [.sl r 0 l.length full, .int .i64 (off : Int), .ints .u64 v] ⟨nx, rows, gg, ty⟩ fun res H' => ∃ l' b, PartS l l' off n ∧ 0 ≤ b ∧ b ≤ 1 ∧ vt (l'.drop off) n = vt (l.drop off) n - vt v n + B64 ^ n * b ∧ H' = ⟨nx, setRow rows r (.ints .u64 l'), gg, ty⟩ := by
  refine hmeets_by ttOk Tryz.func111 Tryz.ntmps111 Tryz.results111 (by kernel_rfl) (c := _) rfl rfl fun E => ?_
  simp only [argsFrame]
  repeat' first
    | (with_reducible first | refine PW.seq ?_ | refine PW.block ?_ | refine PW.fork ?_ | refine PW.skip ?_ | refine PW.exit ?_ | refine PW.ret ?_) | ((with_reducible refine PW.region ttOk ?_ ?_); rfl) | ((with_reducible refine PW.regionD ttOk mixed ?_ ?_ ?_); rfl; rfl) | (with_reducible refine ifW_dec (fun g => ?_) (fun g => ?_) <;> first | (exfalso; omega) | (simp -dsimp only [g, wkI])) | ((with_reducible first | refine condE_dec (fun g => ?_) (fun g => ?_) | refine condE_not (fun g => ?_) (fun g => ?_)) <;> try (exfalso; omega)) | (simp -dsimp only [↓wkA, ↓wkE, ↓wkJ, wkB, ↓tt, Nat.reduceBEq, Nat.reduceEqDiff, ↓reduceIte, Nat.reduceLT, Array.toList, Nat.reduceAdd, Nat.reduceMul, Int.reduceToNat, Int.reducePow, UInt8.reduceToNat]) | (simp -dsimp (disch := first | assumption | omega) only [dec_t, dec_f])
    | (refine And.intro ?_ ?_
       · first | omega | decide | (simp (disch := omega) only [wkW, Int.reduceToNat, Int.reducePow] <;> omega) | (simp <;> omega)) | (simp (disch := omega) only [wkW, Int.reduceToNat, Int.reducePow])
  refine PW.loopA (fun m F H => ∃ i l' b, i + m = n ∧ PartS l l' off i ∧ (0 ≤ b ∧ b ≤ 1) ∧ vt (l'.drop off) i = vt (l.drop off) i - vt v i + B64 ^ i * b ∧ F = tkF v r off l.length full i b ∧ H = ⟨nx, setRow rows r (.ints .u64 l'), gg, ty⟩) n (tkF v r off l.length full 0 0) ⟨nx, setRow rows r (.ints .u64 l), gg, ty⟩ (Sub.less ⟨rfl, rfl, rfl, rfl, rfl, trivial⟩ (fun k row h => by
    rw [getRow_setRow] at h
    split at h
    · rename_i e; subst e; rw [← h]; exact hr
    · exact h) rfl rfl) ⟨0, l, 0, by omega, PartS.refl hl off, by decide, by simp [vt], rfl, rfl⟩ ?_
  rintro m F H ⟨i, l', b, hi, hS, hb, he, rfl, rfl⟩
  have hll' := hS.len
  cases m with
  | zero =>
    obtain rfl : i = n := by omega
    repeat' first
      | (with_reducible first | refine PW.seq ?_ | refine PW.block ?_ | refine PW.fork ?_ | refine PW.skip ?_ | refine PW.exit ?_ | refine PW.ret ?_) | (simp only [hvn]) | ((with_reducible refine PW.region ttOk ?_ ?_); rfl) | ((with_reducible refine PW.regionD ttOk mixed ?_ ?_ ?_); rfl; rfl) | (with_reducible refine ifW_dec (fun g => ?_) (fun g => ?_) <;> first | (exfalso; omega) | (simp -dsimp only [g, wkI])) | ((with_reducible first | refine condE_dec (fun g => ?_) (fun g => ?_) | refine condE_not (fun g => ?_) (fun g => ?_)) <;> try (exfalso; omega)) | (simp -dsimp only [↓wkA, ↓wkE, ↓wkJ, wkB, ↓tt, Nat.reduceBEq, Nat.reduceEqDiff, ↓reduceIte, Nat.reduceLT, Array.toList, Nat.reduceAdd, Nat.reduceMul, Int.reduceToNat, Int.reducePow, UInt8.reduceToNat]) | (simp -dsimp (disch := first | assumption | omega) only [dec_t, dec_f])
      | (refine And.intro ?_ ?_
         · first | omega | decide | (simp (disch := omega) only [wkW, Int.reduceToNat, Int.reducePow] <;> omega) | (simp <;> omega)) | (simp (disch := omega) only [wkW, Int.reduceToNat, Int.reducePow])
    exact ⟨l', b, hS, hb.1, hb.2, he, rfl⟩
  | succ m =>
    have hoi : off + i < l.length := by omega
    have hx := getD_limb hl (off + i)
    have hout := hS.out (off + i) (.inr (Nat.le_refl _))
    have hy := getD_limb hv i
    simp only [B64] at hx hy
    have w1 : IntKind.wrap .i64 ((i : Int) + 1) = ((i + 1 : Nat) : Int) := wrap_i64 (by omega)
    have w2 : IntKind.wrap .i64 ((off : Int) + (i : Int)) = ((off + i : Nat) : Int) := by rw [wrap_i64 (by omega)]; omega
    have hfin : vt ((l'.set (off + i) ((l.getD (off + i) 0 - v.getD i 0 - b) % 18446744073709551616)).drop off) (i + 1) = vt (l.drop off) (i + 1) - vt v (i + 1) + B64 ^ (i + 1) * (-((l.getD (off + i) 0 - v.getD i 0 - b) / 18446744073709551616)) := by
      rw [part_vt hS hoi, he]
      have hsum := Int.mul_ediv_add_emod (l.getD (off + i) 0 - v.getD i 0 - b) 18446744073709551616
      simp only [vt]
      rw [getD_drop', Int.pow_succ]
      simp only [B64]
      generalize (18446744073709551616 : Int) ^ i = p at *
      generalize (l.getD (off + i) 0 - v.getD i 0 - b) / 18446744073709551616 = q at *
      generalize (l.getD (off + i) 0 - v.getD i 0 - b) % 18446744073709551616 = t at *
      grind
    have hmod : 0 ≤ (l.getD (off + i) 0 - v.getD i 0 - b) % 18446744073709551616 ∧ (l.getD (off + i) 0 - v.getD i 0 - b) % 18446744073709551616 < B64 := ⟨Int.emod_nonneg _ (by decide), Int.emod_lt_of_pos _ (by decide)⟩
    have hset := hS.set hoi hmod
    have w3 : IntKind.wrap .u64 (IntKind.wrap .u64 (l.getD (off + i) 0 - v.getD i 0) - b) = (l.getD (off + i) 0 - v.getD i 0 - b) % 18446744073709551616 := by rw [wrap_u64', wrap_u64']; omega
    rw [take_bits hx hy hb] at hfin
    clear hmod he
    by_cases k1 : l.getD (off + i) 0 < v.getD i 0
    · have d1 : decide (l.getD (off + i) 0 < v.getD i 0) = true := decide_eq_true k1
      rw [if_pos (.inl k1)] at hfin
      repeat' first
        | (with_reducible first | refine PW.seq ?_ | refine PW.block ?_ | refine PW.fork ?_ | refine PW.skip ?_ | refine PW.exit ?_ | refine PW.ret ?_) | (simp only [hvn, hout, w1, w2, w3, d1, Int.toNat_natCast, getRow_setRow_self, Go.PV.setRow_setRow]) | ((with_reducible refine PW.region ttOk ?_ ?_); rfl) | ((with_reducible refine PW.regionD ttOk mixed ?_ ?_ ?_); rfl; rfl) | (with_reducible refine ifW_dec (fun g => ?_) (fun g => ?_) <;> first | (exfalso; omega) | (simp -dsimp only [g, wkI])) | ((with_reducible first | refine condE_dec (fun g => ?_) (fun g => ?_) | refine condE_not (fun g => ?_) (fun g => ?_)) <;> try (exfalso; omega)) | (simp -dsimp only [↓wkA, ↓wkE, ↓wkJ, wkB, ↓tt, Nat.reduceBEq, Nat.reduceEqDiff, ↓reduceIte, Nat.reduceLT, Array.toList, Nat.reduceAdd, Nat.reduceMul, Int.reduceToNat, Int.reducePow, UInt8.reduceToNat]) | (simp -dsimp (disch := first | assumption | omega) only [dec_t, dec_f])
        | (refine And.intro ?_ ?_
           · first | omega | decide | (simp (disch := omega) only [wkW, Int.reduceToNat, Int.reducePow] <;> omega) | (simp <;> omega)) | (simp (disch := omega) only [wkW, Int.reduceToNat, Int.reducePow])
      exact Again.mk m (tkF v r off l.length full (i + 1) 1) ⟨nx, setRow rows r (.ints .u64 _), gg, ty⟩ (by omega) (Sub.less ⟨rfl, rfl, rfl, rfl, rfl, trivial⟩ (fun _ _ h => h) rfl rfl) ⟨i + 1, _, 1, by omega, hset, by decide, hfin, rfl, rfl⟩
    have d1 : decide (l.getD (off + i) 0 < v.getD i 0) = false := decide_eq_false k1
    by_cases k2 : l.getD (off + i) 0 = v.getD i 0
    · have d2 : decide (l.getD (off + i) 0 = v.getD i 0) = true := decide_eq_true k2
      rcases (show b = 0 ∨ b = 1 by omega) with rfl | rfl
      · rw [if_neg (fun h => by rcases h with h | h <;> omega)] at hfin
        repeat' first
          | (with_reducible first | refine PW.seq ?_ | refine PW.block ?_ | refine PW.fork ?_ | refine PW.skip ?_ | refine PW.exit ?_ | refine PW.ret ?_) | (simp only [hvn, hout, w1, w2, w3, d1, d2, Int.toNat_natCast, getRow_setRow_self, Go.PV.setRow_setRow]) | ((with_reducible refine PW.region ttOk ?_ ?_); rfl) | ((with_reducible refine PW.regionD ttOk mixed ?_ ?_ ?_); rfl; rfl) | (with_reducible refine ifW_dec (fun g => ?_) (fun g => ?_) <;> first | (exfalso; omega) | (simp -dsimp only [g, wkI])) | ((with_reducible first | refine condE_dec (fun g => ?_) (fun g => ?_) | refine condE_not (fun g => ?_) (fun g => ?_)) <;> try (exfalso; omega)) | (simp -dsimp only [↓wkA, ↓wkE, ↓wkJ, wkB, ↓tt, Nat.reduceBEq, Nat.reduceEqDiff, ↓reduceIte, Nat.reduceLT, Array.toList, Nat.reduceAdd, Nat.reduceMul, Int.reduceToNat, Int.reducePow, UInt8.reduceToNat]) | (simp -dsimp (disch := first | assumption | omega) only [dec_t, dec_f])
          | (refine And.intro ?_ ?_
             · first | omega | decide | (simp (disch := omega) only [wkW, Int.reduceToNat, Int.reducePow] <;> omega) | (simp <;> omega)) | (simp (disch := omega) only [wkW, Int.reduceToNat, Int.reducePow])
        exact Again.mk m (tkF v r off l.length full (i + 1) 0) ⟨nx, setRow rows r (.ints .u64 _), gg, ty⟩ (by omega) (Sub.less ⟨rfl, rfl, rfl, rfl, rfl, trivial⟩ (fun _ _ h => h) rfl rfl) ⟨i + 1, _, 0, by omega, hset, by decide, hfin, rfl, rfl⟩
      · rw [if_pos (.inr ⟨k2, rfl⟩)] at hfin
        repeat' first
          | (with_reducible first | refine PW.seq ?_ | refine PW.block ?_ | refine PW.fork ?_ | refine PW.skip ?_ | refine PW.exit ?_ | refine PW.ret ?_) | (simp only [hvn, hout, w1, w2, w3, d1, d2, Int.toNat_natCast, getRow_setRow_self, Go.PV.setRow_setRow]) | ((with_reducible refine PW.region ttOk ?_ ?_); rfl) | ((with_reducible refine PW.regionD ttOk mixed ?_ ?_ ?_); rfl; rfl) | (with_reducible refine ifW_dec (fun g => ?_) (fun g => ?_) <;> first | (exfalso; omega) | (simp -dsimp only [g, wkI])) | ((with_reducible first | refine condE_dec (fun g => ?_) (fun g => ?_) | refine condE_not (fun g => ?_) (fun g => ?_)) <;> try (exfalso; omega)) | (simp -dsimp only [↓wkA, ↓wkE, ↓wkJ, wkB, ↓tt, Nat.reduceBEq, Nat.reduceEqDiff, ↓reduceIte, Nat.reduceLT, Array.toList, Nat.reduceAdd, Nat.reduceMul, Int.reduceToNat, Int.reducePow, UInt8.reduceToNat]) | (simp -dsimp (disch := first | assumption | omega) only [dec_t, dec_f])
          | (refine And.intro ?_ ?_
             · first | omega | decide | (simp (disch := omega) only [wkW, Int.reduceToNat, Int.reducePow] <;> omega) | (simp <;> omega)) | (simp (disch := omega) only [wkW, Int.reduceToNat, Int.reducePow])
        exact Again.mk m (tkF v r off l.length full (i + 1) 1) ⟨nx, setRow rows r (.ints .u64 _), gg, ty⟩ (by omega) (Sub.less ⟨rfl, rfl, rfl, rfl, rfl, trivial⟩ (fun _ _ h => h) rfl rfl) ⟨i + 1, _, 1, by omega, hset, by decide, hfin, rfl, rfl⟩
    · have d2 : decide (l.getD (off + i) 0 = v.getD i 0) = false := decide_eq_false k2
      rw [if_neg (fun h => by rcases h with h | h <;> omega)] at hfin
      repeat' first
        | (with_reducible first | refine PW.seq ?_ | refine PW.block ?_ | refine PW.fork ?_ | refine PW.skip ?_ | refine PW.exit ?_ | refine PW.ret ?_) | (simp only [hvn, hout, w1, w2, w3, d1, d2, Int.toNat_natCast, getRow_setRow_self, Go.PV.setRow_setRow]) | ((with_reducible refine PW.region ttOk ?_ ?_); rfl) | ((with_reducible refine PW.regionD ttOk mixed ?_ ?_ ?_); rfl; rfl) | (with_reducible refine ifW_dec (fun g => ?_) (fun g => ?_) <;> first | (exfalso; omega) | (simp -dsimp only [g, wkI])) | ((with_reducible first | refine condE_dec (fun g => ?_) (fun g => ?_) | refine condE_not (fun g => ?_) (fun g => ?_)) <;> try (exfalso; omega)) | (simp -dsimp only [↓wkA, ↓wkE, ↓wkJ, wkB, ↓tt, Nat.reduceBEq, Nat.reduceEqDiff, ↓reduceIte, Nat.reduceLT, Array.toList, Nat.reduceAdd, Nat.reduceMul, Int.reduceToNat, Int.reducePow, UInt8.reduceToNat]) | (simp -dsimp (disch := first | assumption | omega) only [dec_t, dec_f])
        | (refine And.intro ?_ ?_
           · first | omega | decide | (simp (disch := omega) only [wkW, Int.reduceToNat, Int.reducePow] <;> omega) | (simp <;> omega)) | (simp (disch := omega) only [wkW, Int.reduceToNat, Int.reducePow])
      exact Again.mk m (tkF v r off l.length full (i + 1) 0) ⟨nx, setRow rows r (.ints .u64 _), gg, ty⟩ (by omega) (Sub.less ⟨rfl, rfl, rfl, rfl, rfl, trivial⟩ (fun _ _ h => h) rfl rfl) ⟨i + 1, _, 0, by omega, hset, by decide, hfin, rfl, rfl⟩
section
variable {P : Program} {tt : Tab}
theorem opsE_nil {all : List Oper} {F : PV.Frame} {H H1 : PV.Heap} {K : PV.Frame → PV.Heap → Prop} : opsE P tt all [] F H H1 K = K F H1 := rfl
theorem opsE_cons {all : List Oper} {o : Oper} {rest : List Oper} {F : PV.Frame} {H H1 : PV.Heap} {K : PV.Frame → PV.Heap → Prop} : opsE P tt all (o :: rest) F H H1 K = match o.op with
    | .store t p v => storeW tt t (ev F.get p) (ev F.get v) H fun H' => opsE P tt all rest (F.put o.dst (.tup [])) H H' K
    | _ => wantW all F o (stepD P tt o (ev F.get) H fun q => opsE P tt all rest (F.put o.dst q) H H1 K) (opsE P tt all rest (F.put o.dst (.tup [])) H H1 K) := by
  obtain ⟨d, op, _, _, _, _⟩ := o
  cases op <;> rfl
theorem opsX_nil {all : List Oper} {F : PV.Frame} {H : PV.Heap} {K : PV.Frame → Prop} : opsX P tt all [] F H K = K F := rfl
theorem opsX_cons {all : List Oper} {o : Oper} {rest : List Oper} {F : PV.Frame} {H : PV.Heap} {K : PV.Frame → Prop} : opsX P tt all (o :: rest) F H K = match o.op with
    | .store t p v => opsX P tt all rest (F.put o.dst (.tup [])) H K
    | _ => wantW all F o (stepD P tt o (ev F.get) H fun q => opsX P tt all rest (F.put o.dst q) H K) (opsX P tt all rest (F.put o.dst (.tup [])) H K) := by
  obtain ⟨d, op, _, _, _, _⟩ := o
  cases op <;> rfl
end
theorem getD_left {s t : List Int} {j : Nat} (h : j < s.length) : (s ++ t).getD j 0 = s.getD j 0 := by
  rw [List.getD_eq_getElem?_getD, List.getD_eq_getElem?_getD, List.getElem?_append_left h]
theorem spN_get (a : List Int) {i : Nat} : ∀ n, i < n → (spN a n).getD (2 * i) 0 = a.getD i 0 % 4294967296 ∧ (spN a n).getD (2 * i + 1) 0 = a.getD i 0 / 4294967296
  | 0, h => by omega
  | n + 1, h => by
    have hl := spN_len a n
    unfold spN
    by_cases e : i = n
    · subst e
      refine ⟨?_, ?_⟩
      · rw [getD_left (by rw [len_snoc, hl]; omega), ← hl]; exact getD_snoc _ _
      · rw [show 2 * i + 1 = (spN a i ++ [a.getD i 0 % 4294967296]).length by rw [len_snoc, hl]]; exact getD_snoc _ _
    · obtain ⟨h1, h2⟩ := spN_get a n (show i < n by omega)
      rw [getD_left (by rw [len_snoc, hl]; omega), getD_left (by rw [hl]; omega), getD_left (by rw [len_snoc, hl]; omega), getD_left (by rw [hl]; omega)]
      exact ⟨h1, h2⟩
structure HwS (r o : List Int) (i : Nat) : Prop where
  len : o.length = r.length
  eq : ∀ j, j < 2 * i → o.getD j 0 = r.getD j 0
theorem HwS.step {r o : List Int} {i : Nat} {x y : Int} (h : HwS r o i) (hi : 2 * i + 1 < r.length) (hx : r.getD (2 * i) 0 = x) (hy : r.getD (2 * i + 1) 0 = y) : HwS r ((o.set (2 * i) x).set (2 * i + 1) y) (i + 1) :=
  ⟨by rw [List.length_set, List.length_set, h.len], fun j hj => by
    have h1 := h.len
    rw [getD_set _ _ _ _ (by rw [List.length_set]; omega)]
    split
    · rename_i e; rw [e, hy]
    · rw [getD_set _ _ _ _ (by omega)]
      split
      · rename_i e; rw [e, hx]
      · exact h.eq j (by omega)⟩
theorem HwS.fin {r o : List Int} {i : Nat} (h : HwS r o i) (hi : r.length = 2 * i) : o = r := list_ext h.len fun j hj => h.eq j (by rw [h.len, hi] at hj; exact hj)
theorem ref02_half_words (a : List Int) (ha : Limbs a) (hla : a.length ≤ 100000) : Meets Tryz.prog 172 [.ints .u64 a] (.ints .u64 (spN a (size a))) := by
  have h1 := ref02_top a (by omega)
  have hsz := size_le a
  have hrl := spN_len a (size a)
  have hget := fun i h => spN_get a (i := i) (size a) h
  generalize spN a (size a) = r at *
  have w0 : IntKind.wrap .i64 (2 * ((size a : Nat) : Int)) = ((2 * size a : Nat) : Int) := by rw [wrap_i64 (by omega)]; omega
  refine meets_by ttOk Tryz.func172 Tryz.ntmps172 Tryz.results172 (by kernel_rfl) (c := _) rfl rfl rfl fun E => ?_
  simp only [argsFrame]
  repeat' first
    | (with_reducible first | refine PW.seq ?_ | refine PW.block ?_ | refine PW.fork ?_ | refine PW.skip ?_ | refine PW.exit ?_ | refine PW.ret ?_) | (simp only [w0, Int.toNat_natCast]) | ((with_reducible refine PW.region ttOk ?_ ?_); rfl) | ((with_reducible refine PW.regionD ttOk mixed ?_ ?_ ?_); rfl; rfl) | (with_reducible refine ifW_dec (fun g => ?_) (fun g => ?_) <;> first | (exfalso; omega) | (simp -dsimp only [g, wkI])) | ((with_reducible first | refine condE_dec (fun g => ?_) (fun g => ?_) | refine condE_not (fun g => ?_) (fun g => ?_)) <;> try (exfalso; omega)) | (simp -dsimp only [↓wkA, ↓wkE, ↓wkJ, wkB, ↓tt, Nat.reduceBEq, Nat.reduceEqDiff, ↓reduceIte, Nat.reduceLT, Array.toList, Nat.reduceAdd, Nat.reduceMul, Int.reduceToNat, Int.reducePow, UInt8.reduceToNat]) | (refine call_by (h1) (views_data rfl) ⟨trivial, trivial⟩ rfl ?_) | (simp -dsimp (disch := first | assumption | omega) only [dec_t, dec_f])
    | (refine And.intro ?_ ?_
       · first | omega | decide | (simp (disch := omega) only [wkW, Int.reduceToNat, Int.reducePow] <;> omega) | (simp <;> omega)) | (simp (disch := omega) only [wkW, Int.reduceToNat, Int.reducePow])
  refine PW.loopA (fun m F H => ∃ i o, i + m = size a ∧ HwS r o i ∧ F = [(5, .int .i64 (i : Int)), (4, .sl 0 0 (2 * size a) true), (3, .int .i64 (size a : Int)), (0, .ints .u64 a)] ∧ H = ⟨1, [(0, .ints .u64 o)], [], []⟩) (size a) [(5, .int .i64 ((0 : Nat) : Int)), (4, .sl 0 0 (2 * size a) true), (3, .int .i64 (size a : Int)), (0, .ints .u64 a)] ⟨1, [(0, .ints .u64 (List.replicate (2 * size a) 0))], [], []⟩ (Sub.norm ⟨rfl, rfl, rfl, rfl, trivial⟩ ⟨rfl, trivial⟩ (Nat.le_refl _) rfl rfl rfl rfl) ⟨0, _, by omega, ⟨by simp [hrl], fun j hj => by omega⟩, rfl, rfl⟩ ?_
  rintro m F H ⟨i, o, hi, hS, rfl, rfl⟩
  have hol := hS.len
  cases m with
  | zero =>
    obtain rfl : i = size a := by omega
    obtain rfl := hS.fin hrl
    have htk : List.take (2 * size a) o = o := List.take_of_length_le (by omega)
    repeat' first
      | (with_reducible first | refine PW.seq ?_ | refine PW.block ?_ | refine PW.fork ?_ | refine PW.skip ?_ | refine PW.exit ?_ | refine PW.ret ?_) | ((with_reducible refine PW.region ttOk ?_ ?_); rfl) | ((with_reducible refine PW.regionD ttOk mixed ?_ ?_ ?_); rfl; rfl) | (with_reducible refine ifW_dec (fun g => ?_) (fun g => ?_) <;> first | (exfalso; omega) | (simp -dsimp only [g, wkI])) | ((with_reducible first | refine condE_dec (fun g => ?_) (fun g => ?_) | refine condE_not (fun g => ?_) (fun g => ?_)) <;> try (exfalso; omega)) | (simp -dsimp only [↓wkA, ↓wkE, ↓wkJ, wkB, ↓tt, Nat.reduceBEq, Nat.reduceEqDiff, ↓reduceIte, Nat.reduceLT, Array.toList, Nat.reduceAdd, Nat.reduceMul, Int.reduceToNat, Int.reducePow, UInt8.reduceToNat]) | (simp -dsimp (disch := first | assumption | omega) only [dec_t, dec_f])
      | (refine And.intro ?_ ?_
         · first | omega | decide | (simp (disch := omega) only [wkW, Int.reduceToNat, Int.reducePow] <;> omega) | (simp <;> omega)) | (simp (disch := omega) only [wkW, Int.reduceToNat, Int.reducePow])
    all_goals first | omega | rw [htk]
  | succ m =>
    obtain ⟨g1, g2⟩ := hget i (by omega)
    have hx := getD_limb ha i
    simp only [B64] at hx
    have h32 := and32 (a := a.getD i 0) (by omega)
    have hst := hS.step (by omega) g1 g2
    have w1 : IntKind.wrap .i64 ((i : Int) + 1) = ((i + 1 : Nat) : Int) := wrap_i64 (by omega)
    have w2 : IntKind.wrap .i64 (2 * (i : Int)) = ((2 * i : Nat) : Int) := by rw [wrap_i64 (by omega)]; omega
    have w3 : IntKind.wrap .i64 (((2 * i : Nat) : Int) + 1) = ((2 * i + 1 : Nat) : Int) := wrap_i64 (by omega)
    repeat' first
      | (with_reducible first | refine PW.seq ?_ | refine PW.block ?_ | refine PW.fork ?_ | refine PW.skip ?_ | refine PW.exit ?_ | refine PW.ret ?_) | (simp only [w1, w2, w3, h32, fdiv32, Int.toNat_natCast]) | ((with_reducible refine PW.region ttOk ?_ ?_); rfl) | ((with_reducible refine PW.regionD ttOk mixed ?_ ?_ ?_); rfl; rfl) | (with_reducible refine ifW_dec (fun g => ?_) (fun g => ?_) <;> first | (exfalso; omega) | (simp -dsimp only [g, wkI])) | ((with_reducible first | refine condE_dec (fun g => ?_) (fun g => ?_) | refine condE_not (fun g => ?_) (fun g => ?_)) <;> try (exfalso; omega)) | (simp -dsimp only [↓wkA, ↓wkE, ↓wkJ, wkB, ↓tt, Nat.reduceBEq, Nat.reduceEqDiff, ↓reduceIte, Nat.reduceLT, Array.toList, Nat.reduceAdd, Nat.reduceMul, Int.reduceToNat, Int.reducePow, UInt8.reduceToNat]) | (simp -dsimp (disch := first | assumption | omega) only [dec_t, dec_f])
      | (refine And.intro ?_ ?_
         · first | omega | decide | (simp (disch := omega) only [wkW, Int.reduceToNat, Int.reducePow] <;> omega) | (simp <;> omega)) | (simp (disch := omega) only [wkW, Int.reduceToNat, Int.reducePow])
    exact Again.mk m [(5, .int .i64 ((i + 1 : Nat) : Int)), (4, .sl 0 0 (2 * size a) true), (3, .int .i64 (size a : Int)), (0, .ints .u64 a)] ⟨1, [(0, .ints .u64 _)], [], []⟩ (by omega) (Sub.norm ⟨rfl, rfl, rfl, rfl, trivial⟩ ⟨rfl, trivial⟩ (Nat.le_refl _) rfl rfl rfl rfl) ⟨i + 1, _, by omega, hst, rfl, rfl⟩
theorem or_words {x y : Int} (hx : 0 ≤ x ∧ x < 4294967296) (hy : 0 ≤ y ∧ y < 4294967296) : ibits .or .u64 x (y * 4294967296) = x + y * 4294967296 := by
  obtain ⟨n, rfl⟩ := Int.eq_ofNat_of_zero_le hx.1
  obtain ⟨m, rfl⟩ := Int.eq_ofNat_of_zero_le hy.1
  have h := or_nat (x := n) (y := m * 4294967296) (k := 32) (by omega) (by omega) (by omega) (by omega)
  rw [show ((m * 4294967296 : Nat) : Int) = (m : Int) * 4294967296 by omega] at h
  rw [h]; omega
abbrev t2O (x y : List Int) (i : Nat) : PV.Frame := [(8, .int .i64 (i : Int)), (7, .sl 0 0 (x.length + y.length) true), (5, .ints .u64 x), (6, .ints .u64 y)]
abbrev t2I (x y : List Int) (i j : Nat) (c : Int) : PV.Frame := [(10, .int .i64 (j : Int)), (9, .int .u64 c), (8, .int .i64 (i : Int)), (7, .sl 0 0 (x.length + y.length) true), (5, .ints .u64 x), (6, .ints .u64 y)]
structure JoS (z o : List Int) (N i : Nat) : Prop where
  len : o.length = N
  eq : ∀ j, j < i → o.getD j 0 = (jnN z N).getD j 0
theorem jnN_get (h : List Int) {i : Nat} : ∀ n, i < n → (jnN h n).getD i 0 = h.getD (2 * i) 0 + h.getD (2 * i + 1) 0 * 4294967296
  | 0, hi => by omega
  | n + 1, hi => by
    have hl := jnN_len h n
    unfold jnN
    by_cases e : i = n
    · subst e
      conv => lhs; rw [← hl]
      rw [show (jnN h (jnN h i).length) = jnN h i by rw [hl]]
      rw [getD_snoc, hl]
    · rw [getD_left (by rw [hl]; omega)]
      exact jnN_get h n (by omega)
theorem JoS.step {z o : List Int} {N i : Nat} (h : JoS z o N i) (hi : i < N) : JoS z (o.set i (z.getD (2 * i) 0 + z.getD (2 * i + 1) 0 * 4294967296)) N (i + 1) :=
  ⟨by rw [List.length_set, h.len], fun j hj => by
    rw [getD_set _ _ _ _ (by rw [h.len]; exact hi)]
    split
    · rename_i e; rw [e, jnN_get z N hi]
    · exact h.eq j (by omega)⟩
theorem JoS.fin {z o : List Int} {N : Nat} (h : JoS z o N N) : o = jnN z N := list_ext (by rw [h.len, jnN_len]) fun j hj => h.eq j (by rw [h.len] at hj; exact hj)
theorem times02_walk (a b x y : List Int) (N : Nat) (ha : Meets Tryz.prog 172 [.ints .u64 a] (.ints .u64 x)) (hb : Meets Tryz.prog 172 [.ints .u64 b] (.ints .u64 y)) (hx : Words x) (hy : Words y) (hxl : x.length ≤ 1000000) (hyl : y.length ≤ 1000000) (hN : x.length + y.length = 2 * N) (v : Nat) (hv : wal x * wal y = v) :
    Meets Tryz.prog 166 [.ints .u64 a, .ints .u64 b] (.ints .u64 (natL v)) := by
  have w0 : IntKind.wrap .i64 ((x.length : Int) + (y.length : Int)) = ((x.length + y.length : Nat) : Int) := by rw [wrap_i64 (by omega)]; omega
  have hlim : ∀ o, MulOutW x y o x.length → Meets Tryz.prog 107 [.ints .u64 (jnN o N)] (.ints .u64 (natL v)) := fun o hS => by
    have h := ref02_short (jnN o N) (by rw [jnN_len]; omega)
    rw [trim_natLv (jnN_limbs hS.lim N) (v := v) (by rw [jnN_val, ← hN, hS.eq]; exact hv)] at h
    exact h
  generalize natL v = res at *
  clear hv
  refine meets_by ttOk Tryz.func166 Tryz.ntmps166 Tryz.results166 (by kernel_rfl) (c := _) rfl rfl rfl fun E => ?_
  simp only [argsFrame]
  repeat' first
    | (with_reducible first | refine PW.seq ?_ | refine PW.block ?_ | refine PW.fork ?_ | refine PW.skip ?_ | refine PW.exit ?_ | refine PW.ret ?_) | (simp only [w0, Int.toNat_natCast]) | ((with_reducible refine PW.region ttOk ?_ ?_); rfl) | ((with_reducible refine PW.regionD ttOk mixed ?_ ?_ ?_); rfl; rfl) | (with_reducible refine ifW_dec (fun g => ?_) (fun g => ?_) <;> first | (exfalso; omega) | (simp -dsimp only [g, wkI])) | ((with_reducible first | refine condE_dec (fun g => ?_) (fun g => ?_) | refine condE_not (fun g => ?_) (fun g => ?_)) <;> try (exfalso; omega)) | (simp -dsimp only [↓wkA, ↓wkE, ↓wkJ, wkB, ↓tt, Nat.reduceBEq, Nat.reduceEqDiff, ↓reduceIte, Nat.reduceLT, Array.toList, Nat.reduceAdd, Nat.reduceMul, Int.reduceToNat, Int.reducePow, UInt8.reduceToNat]) | (refine call_by (ha) (views_data rfl) ⟨trivial, trivial⟩ rfl ?_) | (refine call_by (hb) (views_data rfl) ⟨trivial, trivial⟩ rfl ?_) | (simp -dsimp (disch := first | assumption | omega) only [dec_t, dec_f])
    | (refine And.intro ?_ ?_
       · first | omega | decide | (simp (disch := omega) only [wkW, Int.reduceToNat, Int.reducePow] <;> omega) | (simp <;> omega)) | (simp (disch := omega) only [wkW, Int.reduceToNat, Int.reducePow])
  refine PW.loopA (fun m F H => ∃ i o, i + m = x.length ∧ MulOutW x y o i ∧ F = t2O x y i ∧ H = ⟨1, [(0, .ints .u64 o)], [], []⟩) x.length (t2O x y 0) ⟨1, [(0, .ints .u64 (List.replicate (x.length + y.length) 0))], [], []⟩ (Sub.norm ⟨rfl, rfl, rfl, rfl, trivial⟩ ⟨rfl, trivial⟩ (Nat.le_refl _) rfl rfl rfl rfl) ⟨0, _, by omega, mul_beginW x y, rfl, rfl⟩ ?_
  rintro m F H ⟨i, o, hi, hS, rfl, rfl⟩
  have hol := hS.len
  cases m with
  | zero =>
    obtain rfl : i = x.length := by omega
    have hm := hlim o hS
    have how := hS.lim
    have w1 : IntKind.wrap .i64 (Int.tdiv ((x.length + y.length : Nat) : Int) 2) = (N : Int) := by rw [hN, show (2 : Int) = ((2 : Nat) : Int) from rfl, ← Int.ofNat_tdiv, Nat.mul_div_cancel_left _ (by decide)]; exact wrap_i64 (by omega)
    repeat' first
      | (with_reducible first | refine PW.seq ?_ | refine PW.block ?_ | refine PW.fork ?_ | refine PW.skip ?_ | refine PW.exit ?_ | refine PW.ret ?_) | (simp only [w1, Int.toNat_natCast]) | ((with_reducible refine PW.region ttOk ?_ ?_); rfl) | ((with_reducible refine PW.regionD ttOk mixed ?_ ?_ ?_); rfl; rfl) | (with_reducible refine ifW_dec (fun g => ?_) (fun g => ?_) <;> first | (exfalso; omega) | (simp -dsimp only [g, wkI])) | ((with_reducible first | refine condE_dec (fun g => ?_) (fun g => ?_) | refine condE_not (fun g => ?_) (fun g => ?_)) <;> try (exfalso; omega)) | (simp -dsimp only [↓wkA, ↓wkE, ↓wkJ, wkB, ↓tt, Nat.reduceBEq, Nat.reduceEqDiff, ↓reduceIte, Nat.reduceLT, Array.toList, Nat.reduceAdd, Nat.reduceMul, Int.reduceToNat, Int.reducePow, UInt8.reduceToNat]) | (simp -dsimp (disch := first | assumption | omega) only [dec_t, dec_f])
      | (refine And.intro ?_ ?_
         · first | omega | decide | (simp (disch := omega) only [wkW, Int.reduceToNat, Int.reducePow] <;> omega) | (simp <;> omega)) | (simp (disch := omega) only [wkW, Int.reduceToNat, Int.reducePow])
    refine PW.loopA (fun m F H => ∃ i q, i + m = N ∧ JoS o q N i ∧ F = [(13, .int .i64 (i : Int)), (12, .sl 1 0 N true), (7, .sl 0 0 (x.length + y.length) true)] ∧ H = ⟨2, [(0, .ints .u64 o), (1, .ints .u64 q)], [], []⟩) N [(13, .int .i64 ((0 : Nat) : Int)), (12, .sl 1 0 N true), (7, .sl 0 0 (x.length + y.length) true)] ⟨2, [(0, .ints .u64 o), (1, .ints .u64 (List.replicate N 0))], [], []⟩ (Sub.norm ⟨rfl, rfl, rfl, trivial⟩ ⟨rfl, rfl, trivial⟩ (Nat.le_refl _) rfl rfl rfl rfl) ⟨0, _, by omega, ⟨by simp, fun j hj => by omega⟩, rfl, rfl⟩ ?_
    clear hi hS
    rintro m F H ⟨i, q, hi, hS, rfl, rfl⟩
    have hql := hS.len
    cases m with
    | zero =>
      obtain rfl : i = N := by omega
      rw [← hS.fin] at hm
      have htk : List.take i q = q := List.take_of_length_le (by omega)
      repeat' first
        | (with_reducible first | refine PW.seq ?_ | refine PW.block ?_ | refine PW.fork ?_ | refine PW.skip ?_ | refine PW.exit ?_ | refine PW.ret ?_) | (simp only [htk]) | ((with_reducible refine PW.region ttOk ?_ ?_); rfl) | ((with_reducible refine PW.regionD ttOk mixed ?_ ?_ ?_); rfl; rfl) | (with_reducible refine ifW_dec (fun g => ?_) (fun g => ?_) <;> first | (exfalso; omega) | (simp -dsimp only [g, wkI])) | ((with_reducible first | refine condE_dec (fun g => ?_) (fun g => ?_) | refine condE_not (fun g => ?_) (fun g => ?_)) <;> try (exfalso; omega)) | (simp -dsimp only [↓wkA, ↓wkE, ↓wkJ, wkB, ↓tt, Nat.reduceBEq, Nat.reduceEqDiff, ↓reduceIte, Nat.reduceLT, Array.toList, Nat.reduceAdd, Nat.reduceMul, Int.reduceToNat, Int.reducePow, UInt8.reduceToNat]) | (refine call_drop (args' := [.ints .u64 q]) (by simp -dsimp only [↓wkA, ↓wkE, ↓wkJ, wkB, ↓tt, Nat.reduceBEq, Nat.reduceEqDiff, ↓reduceIte, Nat.reduceLT, Array.toList, Nat.reduceAdd, Nat.reduceMul, Int.reduceToNat, Int.reducePow, UInt8.reduceToNat] <;> rw [htk]) hm (by simp -dsimp only [okViews, ↓wkA, ↓wkE, ↓wkJ, wkB, ↓tt, Nat.reduceBEq, Nat.reduceEqDiff, ↓reduceIte, Nat.reduceLT, Array.toList, Nat.reduceAdd, Nat.reduceMul, Int.reduceToNat, Int.reducePow, UInt8.reduceToNat] <;> omega) rfl ?_) | (simp -dsimp (disch := first | assumption | omega) only [dec_t, dec_f])
        | (refine And.intro ?_ ?_
           · first | omega | decide | (simp (disch := omega) only [wkW, Int.reduceToNat, Int.reducePow] <;> omega) | (simp <;> omega)) | (simp (disch := omega) only [wkW, Int.reduceToNat, Int.reducePow])
    | succ m =>
      have h1 := getD_word how (2 * i)
      have h2 := getD_word how (2 * i + 1)
      simp only [B32] at h1 h2
      have hst := hS.step (by omega)
      have w2 : IntKind.wrap .i64 ((i : Int) + 1) = ((i + 1 : Nat) : Int) := wrap_i64 (by omega)
      have w3 : IntKind.wrap .i64 (2 * (i : Int)) = ((2 * i : Nat) : Int) := by rw [wrap_i64 (by omega)]; omega
      have w4 : IntKind.wrap .i64 (((2 * i : Nat) : Int) + 1) = ((2 * i + 1 : Nat) : Int) := wrap_i64 (by omega)
      have w5 : IntKind.wrap .u64 (o.getD (2 * i + 1) 0 * 2 ^ min 32 64) = o.getD (2 * i + 1) 0 * 4294967296 := by rw [show (2 : Int) ^ min 32 64 = 4294967296 from rfl]; exact wrap_u64 (by omega)
      have h3 := or_words h1 h2
      repeat' first
        | (with_reducible first | refine PW.seq ?_ | refine PW.block ?_ | refine PW.fork ?_ | refine PW.skip ?_ | refine PW.exit ?_ | refine PW.ret ?_) | (simp only [w2, w3, w4, w5, h3, Int.toNat_natCast]) | ((with_reducible refine PW.region ttOk ?_ ?_); rfl)
        | (with_reducible refine PW.regionS ttOk mixed ?_ ?_ ?_ ?_
           · rfl
           · rfl
           · rfl) | ((with_reducible refine PW.regionD ttOk mixed ?_ ?_ ?_); rfl; rfl) | (with_reducible refine ifW_dec (fun g => ?_) (fun g => ?_) <;> first | (exfalso; omega) | (simp -dsimp only [g, wkI])) | ((with_reducible first | refine condE_dec (fun g => ?_) (fun g => ?_) | refine condE_not (fun g => ?_) (fun g => ?_)) <;> try (exfalso; omega)) | (simp -dsimp only [↓opsE_nil, ↓opsE_cons, ↓opsX_nil, ↓opsX_cons, same_self, and_true, true_and, ↓wkA, ↓wkE, ↓wkJ, wkB, ↓tt, Nat.reduceBEq, Nat.reduceEqDiff, ↓reduceIte, Nat.reduceLT, Array.toList, Nat.reduceAdd, Nat.reduceMul, Int.reduceToNat, Int.reducePow, UInt8.reduceToNat])
        | (with_reducible_and_instances refine And.intro rfl ?_)
        | (refine And.intro (Eq.refl 1) ?_) | (simp -dsimp (disch := first | assumption | omega) only [dec_t, dec_f])
        | (refine And.intro ?_ ?_
           · first | omega | decide | (simp (disch := omega) only [wkW, Int.reduceToNat, Int.reducePow] <;> omega) | (simp <;> omega)) | (simp (disch := omega) only [wkW, Int.reduceToNat, Int.reducePow])
      exact Again.mk m [(13, .int .i64 ((i + 1 : Nat) : Int)), (12, .sl 1 0 N true), (7, .sl 0 0 (x.length + y.length) true)] ⟨2, [(0, .ints .u64 o), (1, .ints .u64 _)], [], []⟩ (by omega) (Sub.norm ⟨rfl, rfl, rfl, trivial⟩ ⟨rfl, rfl, trivial⟩ (Nat.le_refl _) rfl rfl rfl rfl) ⟨i + 1, _, by omega, hst, rfl, rfl⟩
  | succ m =>
    have w1 : IntKind.wrap .i64 ((i : Int) + 1) = ((i + 1 : Nat) : Int) := wrap_i64 (by omega)
    have w2 : IntKind.wrap .i64 ((i : Int) + (y.length : Int)) = ((i + y.length : Nat) : Int) := by rw [wrap_i64 (by omega)]; omega
    repeat' first
      | (with_reducible first | refine PW.seq ?_ | refine PW.block ?_ | refine PW.fork ?_ | refine PW.skip ?_ | refine PW.exit ?_ | refine PW.ret ?_) | ((with_reducible refine PW.region ttOk ?_ ?_); rfl) | ((with_reducible refine PW.regionD ttOk mixed ?_ ?_ ?_); rfl; rfl) | (with_reducible refine ifW_dec (fun g => ?_) (fun g => ?_) <;> first | (exfalso; omega) | (simp -dsimp only [g, wkI])) | ((with_reducible first | refine condE_dec (fun g => ?_) (fun g => ?_) | refine condE_not (fun g => ?_) (fun g => ?_)) <;> try (exfalso; omega)) | (simp -dsimp only [↓wkA, ↓wkE, ↓wkJ, wkB, ↓tt, Nat.reduceBEq, Nat.reduceEqDiff, ↓reduceIte, Nat.reduceLT, Array.toList, Nat.reduceAdd, Nat.reduceMul, Int.reduceToNat, Int.reducePow, UInt8.reduceToNat]) | (simp -dsimp (disch := first | assumption | omega) only [dec_t, dec_f])
      | (refine And.intro ?_ ?_
         · first | omega | decide | (simp (disch := omega) only [wkW, Int.reduceToNat, Int.reducePow] <;> omega) | (simp <;> omega)) | (simp (disch := omega) only [wkW, Int.reduceToNat, Int.reducePow])
    refine PW.loopA (fun m F H => ∃ j q c, j + m = y.length ∧ MulInW x y o q i j c ∧ F = t2I x y i j c ∧ H = ⟨1, [(0, .ints .u64 q)], [], []⟩) y.length (t2I x y i 0 0) ⟨1, [(0, .ints .u64 o)], [], []⟩ (Sub.norm ⟨rfl, rfl, rfl, rfl, rfl, rfl, trivial⟩ ⟨rfl, trivial⟩ (Nat.le_refl _) rfl rfl rfl rfl) ⟨0, o, 0, by omega, MulInW.start hS, rfl, rfl⟩ ?_
    rintro k F H ⟨j, q, c, hj, hq, rfl, rfl⟩
    have hql := hq.len
    have hcar := hq.car
    cases k with
    | zero =>
      obtain rfl : j = y.length := by omega
      have hf := hq.fin hS (by omega)
      repeat' first
        | (with_reducible first | refine PW.seq ?_ | refine PW.block ?_ | refine PW.fork ?_ | refine PW.skip ?_ | refine PW.exit ?_ | refine PW.ret ?_) | (simp only [w1, w2, Int.toNat_natCast]) | ((with_reducible refine PW.region ttOk ?_ ?_); rfl) | ((with_reducible refine PW.regionD ttOk mixed ?_ ?_ ?_); rfl; rfl) | (with_reducible refine ifW_dec (fun g => ?_) (fun g => ?_) <;> first | (exfalso; omega) | (simp -dsimp only [g, wkI])) | ((with_reducible first | refine condE_dec (fun g => ?_) (fun g => ?_) | refine condE_not (fun g => ?_) (fun g => ?_)) <;> try (exfalso; omega)) | (simp -dsimp only [↓wkA, ↓wkE, ↓wkJ, wkB, ↓tt, Nat.reduceBEq, Nat.reduceEqDiff, ↓reduceIte, Nat.reduceLT, Array.toList, Nat.reduceAdd, Nat.reduceMul, Int.reduceToNat, Int.reducePow, UInt8.reduceToNat]) | (simp -dsimp (disch := first | assumption | omega) only [dec_t, dec_f])
        | (refine And.intro ?_ ?_
           · first | omega | decide | (simp (disch := omega) only [wkW, Int.reduceToNat, Int.reducePow] <;> omega) | (simp <;> omega)) | (simp (disch := omega) only [wkW, Int.reduceToNat, Int.reducePow])
      exact Again.mk m (t2O x y (i + 1)) ⟨1, [(0, .ints .u64 _)], [], []⟩ (by omega) (Sub.norm ⟨rfl, rfl, rfl, rfl, trivial⟩ ⟨rfl, trivial⟩ (by simp) rfl rfl rfl rfl) ⟨i + 1, _, by omega, hf, rfl, rfl⟩
    | succ k =>
      have h1 := getD_word hx i
      have h2 := getD_word hy j
      have h3 := getD_word hq.lim (i + j)
      simp only [B32] at h1 h2 h3 hcar
      have hm := mul_word h1 h2
      have hst := hq.step (by omega) (by omega) rfl (by simp only [B32]; omega)
      have w3 : IntKind.wrap .i64 ((i : Int) + (j : Int)) = ((i + j : Nat) : Int) := by rw [wrap_i64 (by omega)]; omega
      have w4 : IntKind.wrap .i64 ((j : Int) + 1) = ((j + 1 : Nat) : Int) := wrap_i64 (by omega)
      have w5 : IntKind.wrap .u64 (x.getD i 0 * y.getD j 0) = x.getD i 0 * y.getD j 0 := wrap_u64 (by omega)
      have w6 : IntKind.wrap .u64 (x.getD i 0 * y.getD j 0 + q.getD (i + j) 0) = x.getD i 0 * y.getD j 0 + q.getD (i + j) 0 := wrap_u64 (by omega)
      have w7 : IntKind.wrap .u64 (x.getD i 0 * y.getD j 0 + q.getD (i + j) 0 + c) = x.getD i 0 * y.getD j 0 + q.getD (i + j) 0 + c := wrap_u64 (by omega)
      have h4 := and32 (a := x.getD i 0 * y.getD j 0 + q.getD (i + j) 0 + c) (by omega)
      repeat' first
        | (with_reducible first | refine PW.seq ?_ | refine PW.block ?_ | refine PW.fork ?_ | refine PW.skip ?_ | refine PW.exit ?_ | refine PW.ret ?_) | (simp only [w3, w4, w5, w6, w7, h4, fdiv32, Int.toNat_natCast]) | ((with_reducible refine PW.region ttOk ?_ ?_); rfl) | ((with_reducible refine PW.regionD ttOk mixed ?_ ?_ ?_); rfl; rfl) | (with_reducible refine ifW_dec (fun g => ?_) (fun g => ?_) <;> first | (exfalso; omega) | (simp -dsimp only [g, wkI])) | ((with_reducible first | refine condE_dec (fun g => ?_) (fun g => ?_) | refine condE_not (fun g => ?_) (fun g => ?_)) <;> try (exfalso; omega)) | (simp -dsimp only [↓wkA, ↓wkE, ↓wkJ, wkB, ↓tt, Nat.reduceBEq, Nat.reduceEqDiff, ↓reduceIte, Nat.reduceLT, Array.toList, Nat.reduceAdd, Nat.reduceMul, Int.reduceToNat, Int.reducePow, UInt8.reduceToNat]) | (simp -dsimp (disch := first | assumption | omega) only [dec_t, dec_f])
        | (refine And.intro ?_ ?_
           · first | omega | decide | (simp (disch := omega) only [wkW, Int.reduceToNat, Int.reducePow] <;> omega) | (simp <;> omega)) | (simp (disch := omega) only [wkW, Int.reduceToNat, Int.reducePow])
      exact Again.mk k (t2I x y i (j + 1) _) ⟨1, [(0, .ints .u64 _)], [], []⟩ (by omega) (Sub.norm ⟨rfl, rfl, rfl, rfl, rfl, rfl, trivial⟩ ⟨rfl, trivial⟩ (by simp) rfl rfl rfl rfl) ⟨j + 1, _, _, by omega, hst, rfl, rfl⟩
theorem ref02_times {a b : List Int} (ha : Limbs a) (hb : Limbs b) (hla : a.length ≤ 100000) (hlb : b.length ≤ 100000) {u v : Nat} (hu : val a = u) (hv : val b = v) : Meets Tryz.prog 166 [.ints .u64 a, .ints .u64 b] (.ints .u64 (natL (u * v))) := by
  have z1 := size_le a
  have z2 := size_le b
  refine times02_walk a b _ _ (size a + size b) (ref02_half_words a ha hla) (ref02_half_words b hb hlb) (spN_words ha _) (spN_words hb _) (by rw [spN_len]; omega) (by rw [spN_len]; omega) (by rw [spN_len, spN_len]; omega) _ ?_
  rw [spN_wal, spN_wal, vt_size, vt_size, hu, hv, Int.natCast_mul]
theorem natL_len_le {v n : Nat} (h : v < 18446744073709551616 ^ n) : (natL v).length ≤ n := by
  refine Nat.le_of_not_lt fun h1 => ?_
  have h0 : v ≠ 0 := fun e => by rw [e, natL_zero] at h1; exact absurd h1 (by simp)
  obtain ⟨_, h2⟩ := natL_ge h0
  exact absurd (Nat.lt_of_le_of_lt h2 h) (Nat.not_lt.2 (Nat.pow_le_pow_right (by decide) (by omega)))
theorem pow_small {β n : Nat} (hβ : β ≤ 10) (hn : n ≤ 10000) : (natL (β ^ n)).length ≤ 700 := by
  refine natL_len_le ?_
  refine Nat.lt_of_le_of_lt (Nat.pow_le_pow_left hβ n) (Nat.lt_of_le_of_lt (Nat.pow_le_pow_right (by decide) hn) ?_)
  decide +kernel
theorem ref02_power (β : Nat) (hβ : 2 ≤ β ∧ β ≤ 10) : ∀ n : Nat, n ≤ 10000 → Meets Tryz.prog 153 [.ints .u64 [(β : Int)], .int .i64 (n : Int)] (.tup [.ints .u64 (natL (β ^ n)), .bool true]) := by
  intro n
  induction n using Nat.strongRecOn with
  | _ n ih =>
    intro hn
    by_cases h0 : n = 0
    · subst h0
      rw [Nat.pow_zero, natL_oneL]
      refine meets_by ttOk Tryz.func153 Tryz.ntmps153 Tryz.results153 (by kernel_rfl) (c := _) rfl rfl rfl fun E => ?_
      simp only [argsFrame]
      repeat' first
        | (with_reducible first | refine PW.seq ?_ | refine PW.block ?_ | refine PW.fork ?_ | refine PW.skip ?_ | refine PW.exit ?_ | refine PW.ret ?_) | ((with_reducible refine PW.region ttOk ?_ ?_); rfl) | ((with_reducible refine PW.regionD ttOk mixed ?_ ?_ ?_); rfl; rfl) | (with_reducible refine ifW_dec (fun g => ?_) (fun g => ?_) <;> first | (exfalso; omega) | (simp -dsimp only [g, wkI])) | ((with_reducible first | refine condE_dec (fun g => ?_) (fun g => ?_) | refine condE_not (fun g => ?_) (fun g => ?_)) <;> try (exfalso; omega)) | (simp -dsimp only [↓wkA, ↓wkE, ↓wkJ, wkB, ↓tt, Nat.reduceBEq, Nat.reduceEqDiff, ↓reduceIte, Nat.reduceLT, Array.toList, Nat.reduceAdd, Nat.reduceMul, Int.reduceToNat, Int.reducePow, UInt8.reduceToNat]) | (simp -dsimp (disch := first | assumption | omega) only [dec_t, dec_f])
        | (refine And.intro ?_ ?_
           · first | omega | decide | (simp (disch := omega) only [wkW, Int.reduceToNat, Int.reducePow] <;> omega) | (simp <;> omega)) | (simp (disch := omega) only [wkW, Int.reduceToNat, Int.reducePow])
      all_goals simp
    have hr := ih (n / 2) (by omega) (by omega)
    have l1 := pow_small (n := n / 2) hβ.2 (by omega)
    have l2 := pow_small (n := n / 2 + n / 2) hβ.2 (by omega)
    have l3 := pow_small hβ.2 hn
    have hb := limbs_one (x := β) (by omega)
    have ht := ref02_times (natL_limbs (β ^ (n / 2))) (natL_limbs (β ^ (n / 2))) (by omega) (by omega) (val_natL _) (val_natL _)
    rw [← Nat.pow_add] at ht
    have h2 := ref02_times (natL_limbs (β ^ (n / 2 + n / 2))) hb.1 (by omega) (by simp) (val_natL _) hb.2
    have htop := ref02_top [(β : Int)] (by simp)
    have hsz : size [(β : Int)] = 1 := by
      unfold size
      show sizeN [(β : Int)] (0 + 1) = 1
      unfold sizeN
      rw [if_neg (by show ¬ (β : Int) = 0; omega)]
    rw [hsz] at htop
    have wq : IntKind.wrap .i64 (Int.tdiv (n : Int) 2) = ((n / 2 : Nat) : Int) := by rw [show (2 : Int) = ((2 : Nat) : Int) from rfl, ← Int.ofNat_tdiv]; exact wrap_i64 (by omega)
    have wr : Int.tmod (n : Int) 2 = ((n % 2 : Nat) : Int) := by rw [tmod_pos (by omega)]; omega
    have d0 : decide ((n : Int) = 0) = false := decide_eq_false (by omega)
    have e1 : β ^ n = if n % 2 = 1 then β ^ (n / 2 + n / 2) * β else β ^ (n / 2 + n / 2) := by
      split
      · rw [← Nat.pow_succ]; congr 1; omega
      · congr 1; omega
    generalize β ^ (n / 2 + n / 2) * β = p2 at *
    generalize β ^ (n / 2 + n / 2) = p1 at *
    generalize β ^ (n / 2) = p0 at *
    generalize β ^ n = pn at *
    rcases (show n % 2 = 0 ∨ n % 2 = 1 by omega) with hp | hp
    · rw [hp] at e1 wr
      rw [if_neg (by decide)] at e1
      subst e1
      generalize natL p0 = a0 at *
      generalize natL pn = a1 at *
      have d1 : decide (4096 < IntKind.wrap .i64 (IntKind.wrap .i64 (2 * (a0.length : Int)) - 1)) = false := decide_eq_false (by rw [wrap_i64 (n := 2 * (a0.length : Int)) (by omega), wrap_i64 (by omega)]; omega)
      refine meets_by ttOk Tryz.func153 Tryz.ntmps153 Tryz.results153 (by kernel_rfl) (c := _) rfl rfl rfl fun E => ?_
      simp only [argsFrame]
      repeat' first
        | (with_reducible first | refine PW.seq ?_ | refine PW.block ?_ | refine PW.fork ?_ | refine PW.skip ?_ | refine PW.exit ?_ | refine PW.ret ?_) | (simp only [d0, d1, wq, wr]) | ((with_reducible refine PW.region ttOk ?_ ?_); rfl) | ((with_reducible refine PW.regionD ttOk mixed ?_ ?_ ?_); rfl; rfl) | (with_reducible refine ifW_dec (fun g => ?_) (fun g => ?_) <;> first | (exfalso; omega) | (simp -dsimp only [g, wkI])) | ((with_reducible first | refine condE_dec (fun g => ?_) (fun g => ?_) | refine condE_not (fun g => ?_) (fun g => ?_)) <;> try (exfalso; omega)) | (simp -dsimp only [↓wkA, ↓wkE, ↓wkJ, wkB, ↓tt, Nat.reduceBEq, Nat.reduceEqDiff, ↓reduceIte, Nat.reduceLT, Array.toList, Nat.reduceAdd, Nat.reduceMul, Int.reduceToNat, Int.reducePow, UInt8.reduceToNat]) | (refine call_by (hr) (views_data rfl) ⟨trivial, trivial, trivial⟩ rfl ?_) | (refine call_by (ht) (views_data rfl) ⟨trivial, trivial, trivial⟩ rfl ?_) | (simp -dsimp (disch := first | assumption | omega) only [dec_t, dec_f])
        | (refine And.intro ?_ ?_
           · first | omega | decide | (simp (disch := omega) only [wkW, Int.reduceToNat, Int.reducePow] <;> omega) | (simp <;> omega)) | (simp (disch := omega) only [wkW, Int.reduceToNat, Int.reducePow])
    · rw [hp] at e1 wr
      rw [if_pos rfl] at e1
      subst e1
      generalize natL p0 = a0 at *
      generalize natL p1 = a1 at *
      generalize natL pn = a2 at *
      have d1 : decide (4096 < IntKind.wrap .i64 (IntKind.wrap .i64 (2 * (a0.length : Int)) - 1)) = false := decide_eq_false (by rw [wrap_i64 (n := 2 * (a0.length : Int)) (by omega), wrap_i64 (by omega)]; omega)
      have d2 : decide (4096 < IntKind.wrap .i64 (IntKind.wrap .i64 ((a1.length : Int) + ((1 : Nat) : Int)) - 1)) = false := decide_eq_false (by rw [wrap_i64 (n := (a1.length : Int) + ((1 : Nat) : Int)) (by omega), wrap_i64 (by omega)]; omega)
      have d3 : decide (4096 < IntKind.wrap .i64 (IntKind.wrap .i64 ((a1.length : Int) + 1) - 1)) = false := d2
      refine meets_by ttOk Tryz.func153 Tryz.ntmps153 Tryz.results153 (by kernel_rfl) (c := _) rfl rfl rfl fun E => ?_
      simp only [argsFrame]
      repeat' first
        | (with_reducible first | refine PW.seq ?_ | refine PW.block ?_ | refine PW.fork ?_ | refine PW.skip ?_ | refine PW.exit ?_ | refine PW.ret ?_) | (simp only [d0, d1, d2, d3, wq, wr]) | ((with_reducible refine PW.region ttOk ?_ ?_); rfl) | ((with_reducible refine PW.regionD ttOk mixed ?_ ?_ ?_); rfl; rfl) | (with_reducible refine ifW_dec (fun g => ?_) (fun g => ?_) <;> first | (exfalso; omega) | (simp -dsimp only [g, wkI])) | ((with_reducible first | refine condE_dec (fun g => ?_) (fun g => ?_) | refine condE_not (fun g => ?_) (fun g => ?_)) <;> try (exfalso; omega)) | (simp -dsimp only [↓wkA, ↓wkE, ↓wkJ, wkB, ↓tt, Nat.reduceBEq, Nat.reduceEqDiff, ↓reduceIte, Nat.reduceLT, Array.toList, Nat.reduceAdd, Nat.reduceMul, Int.reduceToNat, Int.reducePow, UInt8.reduceToNat]) | (refine call_by (hr) (views_data rfl) ⟨trivial, trivial, trivial⟩ rfl ?_) | (refine call_by (ht) (views_data rfl) ⟨trivial, trivial, trivial⟩ rfl ?_) | (refine call_by (htop) (views_data rfl) ⟨trivial, trivial⟩ rfl ?_) | (refine callD_by (htop) (views_data rfl) ⟨trivial, trivial⟩ rfl ?_) | (refine call_by (h2) (views_data rfl) ⟨trivial, trivial, trivial⟩ rfl ?_) | (simp -dsimp (disch := first | assumption | omega) only [dec_t, dec_f])
        | (refine And.intro ?_ ?_
           · first | omega | decide | (simp (disch := omega) only [wkW, Int.reduceToNat, Int.reducePow] <;> omega) | (simp <;> omega)) | (simp (disch := omega) only [wkW, Int.reduceToNat, Int.reducePow])
theorem ref02_pow (β n : Nat) (hβ : 2 ≤ β ∧ β ≤ 10) (hn : n ≤ 10000) : Meets Tryz.prog 117 [.ints .u64 [(β : Int)], .int .i64 (n : Int)] (.tup [.ints .u64 (natL (β ^ n)), .int .i64 0]) := by
  have hb := limbs_one (x := β) (by omega)
  have h1 : Limbs [(1 : Int)] ∧ val [(1 : Int)] = ((1 : Nat) : Int) := limbs_one (x := 1) (by decide)
  have hs := ref02_same [(β : Int)] [1] hb.1 h1.1 (by simp) (by simp)
  have hne : decide (cmpN [(β : Int)] [1] = 0) = false := decide_eq_false (by
    rw [cmpN_nat hb.2 h1.2, if_neg (by omega), if_pos (by omega)]; decide)
  rw [hne] at hs
  have htop := ref02_top [(β : Int)] (by simp)
  have hsz : size [(β : Int)] = 1 := by
    unfold size
    show sizeN [(β : Int)] (0 + 1) = 1
    unfold sizeN
    rw [if_neg (by show ¬ (β : Int) = 0; omega)]
  rw [hsz] at htop
  have hp := ref02_power β hβ n hn
  by_cases h0 : n = 0
  · subst h0
    rw [Nat.pow_zero, natL_oneL]
    refine meets_by ttOk Tryz.func117 Tryz.ntmps117 Tryz.results117 (by kernel_rfl) (c := _) rfl rfl rfl fun E => ?_
    simp only [argsFrame]
    repeat' first
      | (with_reducible first | refine PW.seq ?_ | refine PW.block ?_ | refine PW.fork ?_ | refine PW.skip ?_ | refine PW.exit ?_ | refine PW.ret ?_) | ((with_reducible refine PW.region ttOk ?_ ?_); rfl) | ((with_reducible refine PW.regionD ttOk mixed ?_ ?_ ?_); rfl; rfl) | (with_reducible refine ifW_dec (fun g => ?_) (fun g => ?_) <;> first | (exfalso; omega) | (simp -dsimp only [g, wkI])) | ((with_reducible first | refine condE_dec (fun g => ?_) (fun g => ?_) | refine condE_not (fun g => ?_) (fun g => ?_)) <;> try (exfalso; omega)) | (simp -dsimp only [↓wkA, ↓wkE, ↓wkJ, wkB, ↓tt, Nat.reduceBEq, Nat.reduceEqDiff, ↓reduceIte, Nat.reduceLT, Array.toList, Nat.reduceAdd, Nat.reduceMul, Int.reduceToNat, Int.reducePow, UInt8.reduceToNat]) | (refine call_by (htop) (views_data rfl) ⟨trivial, trivial⟩ rfl ?_) | (simp -dsimp (disch := first | assumption | omega) only [dec_t, dec_f])
      | (refine And.intro ?_ ?_
         · first | omega | decide | (simp (disch := omega) only [wkW, Int.reduceToNat, Int.reducePow] <;> omega) | (simp <;> omega)) | (simp (disch := omega) only [wkW, Int.reduceToNat, Int.reducePow])
    all_goals simp
  · have d0 : decide ((n : Int) = 0) = false := decide_eq_false (by omega)
    generalize natL (β ^ n) = r at *
    refine meets_by ttOk Tryz.func117 Tryz.ntmps117 Tryz.results117 (by kernel_rfl) (c := _) rfl rfl rfl fun E => ?_
    simp only [argsFrame]
    repeat' first
      | (with_reducible first | refine PW.seq ?_ | refine PW.block ?_ | refine PW.fork ?_ | refine PW.skip ?_ | refine PW.exit ?_ | refine PW.ret ?_) | (simp only [d0]) | ((with_reducible refine PW.region ttOk ?_ ?_); rfl) | ((with_reducible refine PW.regionD ttOk mixed ?_ ?_ ?_); rfl; rfl) | (with_reducible refine ifW_dec (fun g => ?_) (fun g => ?_) <;> first | (exfalso; omega) | (simp -dsimp only [g, wkI])) | ((with_reducible first | refine condE_dec (fun g => ?_) (fun g => ?_) | refine condE_not (fun g => ?_) (fun g => ?_)) <;> try (exfalso; omega)) | (simp -dsimp only [↓wkA, ↓wkE, ↓wkJ, wkB, ↓tt, Nat.reduceBEq, Nat.reduceEqDiff, ↓reduceIte, Nat.reduceLT, Array.toList, Nat.reduceAdd, Nat.reduceMul, Int.reduceToNat, Int.reducePow, UInt8.reduceToNat]) | (refine call_by (htop) (views_data rfl) ⟨trivial, trivial⟩ rfl ?_) | (refine call_by (hp) (views_data rfl) ⟨trivial, trivial, trivial⟩ rfl ?_) | (refine call_by' (args' := [.ints .u64 [(β : Int)], .ints .u64 [1]]) rfl hs ⟨trivial, Nat.le_refl _, trivial⟩ rfl ?_) | (simp -dsimp (disch := first | assumption | omega) only [dec_t, dec_f])
      | (refine And.intro ?_ ?_
         · first | omega | decide | (simp (disch := omega) only [wkW, Int.reduceToNat, Int.reducePow] <;> omega) | (simp <;> omega)) | (simp (disch := omega) only [wkW, Int.reduceToNat, Int.reducePow])
theorem ref02_pow10 (n : Nat) (hn : n ≤ 10000) : Meets Tryz.prog 144 [.int .i64 (n : Int)] (.tup [.ints .u64 (natL (10 ^ n)), .int .i64 0]) := by
  have h1 := ref02_pow 10 n (by decide) hn
  generalize natL (10 ^ n) = r at *
  refine meets_by ttOk Tryz.func144 Tryz.ntmps144 Tryz.results144 (by kernel_rfl) (c := _) rfl rfl rfl fun E => ?_
  simp only [argsFrame]
  repeat' first
    | (with_reducible first | refine PW.seq ?_ | refine PW.block ?_ | refine PW.fork ?_ | refine PW.skip ?_ | refine PW.exit ?_ | refine PW.ret ?_) | ((with_reducible refine PW.region ttOk ?_ ?_); rfl) | ((with_reducible refine PW.regionD ttOk mixed ?_ ?_ ?_); rfl; rfl) | (with_reducible refine ifW_dec (fun g => ?_) (fun g => ?_) <;> first | (exfalso; omega) | (simp -dsimp only [g, wkI])) | ((with_reducible first | refine condE_dec (fun g => ?_) (fun g => ?_) | refine condE_not (fun g => ?_) (fun g => ?_)) <;> try (exfalso; omega)) | (simp -dsimp only [↓wkA, ↓wkE, ↓wkJ, wkB, ↓tt, Nat.reduceBEq, Nat.reduceEqDiff, ↓reduceIte, Nat.reduceLT, Array.toList, Nat.reduceAdd, Nat.reduceMul, Int.reduceToNat, Int.reducePow, UInt8.reduceToNat]) | (refine call_drop (args' := [.ints .u64 [10], .int .i64 (n : Int)]) rfl h1 ⟨Nat.le_refl _, trivial, trivial⟩ rfl ?_; simp only [wkD, Nat.reduceBEq]) | (simp -dsimp (disch := first | assumption | omega) only [dec_t, dec_f])
    | (refine And.intro ?_ ?_
       · first | omega | decide | (simp (disch := omega) only [wkW, Int.reduceToNat, Int.reducePow] <;> omega) | (simp <;> omega)) | (simp (disch := omega) only [wkW, Int.reduceToNat, Int.reducePow])
def cmpU (u v : Nat) : Int := if u < v then -1 else if v < u then 1 else 0
theorem cmpU_nat {a b : List Int} {u v : Nat} (hu : val a = u) (hv : val b = v) : cmpN a b = cmpU u v := by
  unfold cmpN cmpU
  rw [hu, hv]
  by_cases h : u < v
  · rw [if_pos (by omega), if_pos h]
  · rw [if_neg (by omega), if_neg h]
    by_cases h : v < u
    · rw [if_pos (by omega), if_pos h]
    · rw [if_neg (by omega), if_neg h]
theorem cmpU_cases (u v : Nat) : (cmpU u v = -1 ∧ u < v) ∨ (cmpU u v = 0 ∧ u = v) ∨ (cmpU u v = 1 ∧ v < u) := by
  unfold cmpU
  split
  · exact .inl ⟨rfl, by assumption⟩
  · split
    · exact .inr (.inr ⟨rfl, by assumption⟩)
    · exact .inr (.inl ⟨rfl, by omega⟩)
theorem cmp_natU {u v : Nat} (hu : u < NMax) (hv : v < NMax) : Meets Tryz.prog 55 [.ints .u64 (natL u), .ints .u64 (natL v)] (.int .i64 (cmpU u v)) := by
  have l1 := natL_small hu
  have l2 := natL_small hv
  have h := nat_cmp (natL u) (natL v) (natL_limbs u) (natL_limbs v) (by omega) (by omega)
  rw [cmpU_nat (val_natL u) (val_natL v)] at h
  exact h
def hdB (lo hi x : Nat) (cl : Bool) : Bool := decide (cmpU lo x < 0) && decide (cmpU x hi < 0) || (cl && decide (cmpU lo x ≤ 0) && decide (cmpU x hi ≤ 0))
theorem hdB_iff {lo hi x : Nat} {cl : Bool} : hdB lo hi x cl = true ↔ (lo < x ∧ x < hi) ∨ (cl = true ∧ lo ≤ x ∧ x ≤ hi) := by
  unfold hdB
  rcases cmpU_cases lo x with ⟨h1, h2⟩ | ⟨h1, h2⟩ | ⟨h1, h2⟩ <;> rcases cmpU_cases x hi with ⟨h3, h4⟩ | ⟨h3, h4⟩ | ⟨h3, h4⟩ <;> rw [h1, h3] <;> cases cl <;> simp <;> omega
theorem span_holds (lo V hi B k : Nat) (cl : Bool) (hlo : lo < NMax) (hhi : hi < NMax) (hB : B < NMax) (hk : k < NMax) (hkB : k * B < NMax) :
    Meets Tryz.prog 58 [.agg [.ints .u64 (natL lo), .ints .u64 (natL V), .ints .u64 (natL hi), .ints .u64 (natL B), .bool cl], .ints .u64 (natL k)] (.bool (hdB lo hi (k * B) cl)) := by
  have h1 := short_mul hk hB hkB
  have h2 := cmp_natU hlo hkB
  have h3 := cmp_natU hkB hhi
  unfold hdB
  have c1 := cmpU_cases lo (k * B)
  have c2 := cmpU_cases (k * B) hi
  generalize cmpU lo (k * B) = x at *
  generalize cmpU (k * B) hi = y at *
  generalize natL (k * B) = P at *
  generalize natL lo = L1 at *
  generalize natL V = L2 at *
  generalize natL hi = L3 at *
  generalize natL B = L4 at *
  generalize natL k = L5 at *
  rcases c1 with ⟨rfl, _⟩ | ⟨rfl, _⟩ | ⟨rfl, _⟩
  all_goals rcases c2 with ⟨rfl, _⟩ | ⟨rfl, _⟩ | ⟨rfl, _⟩
  all_goals cases cl
  all_goals (refine meets_by ttOk Tryz.func58 Tryz.ntmps58 Tryz.results58 (by kernel_rfl) (c := _) rfl rfl rfl fun E => ?_; simp only [argsFrame])
  all_goals
    repeat' first
      | (with_reducible first | refine PW.seq ?_ | refine PW.block ?_ | refine PW.fork ?_ | refine PW.skip ?_ | refine PW.exit ?_ | refine PW.ret ?_) | ((with_reducible refine PW.region ttOk ?_ ?_); rfl) | ((with_reducible refine PW.regionD ttOk mixed ?_ ?_ ?_); rfl; rfl) | (with_reducible refine ifW_dec (fun g => ?_) (fun g => ?_) <;> first | (exfalso; omega) | (simp -dsimp only [g, wkI])) | ((with_reducible first | refine condE_dec (fun g => ?_) (fun g => ?_) | refine condE_not (fun g => ?_) (fun g => ?_)) <;> try (exfalso; omega)) | (simp -dsimp only [↓wkA, ↓wkE, ↓wkJ, wkB, ↓tt, Nat.reduceBEq, Nat.reduceEqDiff, ↓reduceIte, Nat.reduceLT, Array.toList, Nat.reduceAdd, Nat.reduceMul, Int.reduceToNat, Int.reducePow, UInt8.reduceToNat]) | (refine call_by (h1) (views_data rfl) ⟨trivial, trivial, trivial⟩ rfl ?_) | (refine callD_by (h2) (views_data rfl) ⟨trivial, trivial, trivial⟩ rfl ?_) | (refine callD_by (h3) (views_data rfl) ⟨trivial, trivial, trivial⟩ rfl ?_) | (simp -dsimp (disch := first | assumption | omega) only [dec_t, dec_f])
      | (refine And.intro ?_ ?_
         · first | omega | decide | (simp (disch := omega) only [wkW, Int.reduceToNat, Int.reducePow] <;> omega) | (simp <;> omega)) | (simp (disch := omega) only [wkW, Int.reduceToNat, Int.reducePow])
  all_goals rfl
def GeT (m : Nat) (e k : Int) : Prop := beS e k ≤ m * upS e k
instance (m : Nat) (e k : Int) : Decidable (GeT m e k) := by unfold GeT; infer_instance
theorem ge_step {m : Nat} {e k : Int} (h : GeT m e (k + 1)) : GeT m e k := by
  unfold GeT beS upS at *
  by_cases hk : 0 ≤ k
  · rw [show (k + 1).toNat = k.toNat + 1 by omega, show (-(k + 1)).toNat = 0 by omega, Nat.pow_succ] at h
    rw [show (-k).toNat = 0 by omega]
    refine Nat.le_trans (Nat.mul_le_mul_left _ (Nat.le_mul_of_pos_right _ (by decide))) h
  · rw [show (k + 1).toNat = 0 by omega] at h
    rw [show k.toNat = 0 by omega, show (-k).toNat = (-(k + 1)).toNat + 1 by omega, Nat.pow_succ]
    refine Nat.le_trans h (Nat.mul_le_mul_left _ (Nat.mul_le_mul_left _ (Nat.le_mul_of_pos_right _ (by decide))))
theorem ge_mono {m : Nat} {e : Int} : ∀ (n : Nat) {k : Int}, GeT m e (k + n) → GeT m e k
  | 0, k, h => by rw [show k + ((0 : Nat) : Int) = k by omega] at h; exact h
  | n + 1, k, h => ge_mono n (ge_step (by rw [show k + ((n : Nat) : Int) + 1 = k + ((n + 1 : Nat) : Int) by omega]; exact h))
theorem ge_le {m : Nat} {e k l : Int} (h : GeT m e k) (hl : l ≤ k) : GeT m e l := ge_mono (k - l).toNat (by rw [show l + (((k - l).toNat : Nat) : Int) = k by omega]; exact h)
structure Ten (m : Nat) (e k : Int) : Prop where
  lo : GeT m e k
  hi : ¬ GeT m e (k + 1)
theorem ten_ex {m : Nat} {e : Int} : ∀ (n : Nat) {a : Int}, GeT m e a → ¬ GeT m e (a + n) → ∃ k, a ≤ k ∧ k < a + n ∧ Ten m e k
  | 0, a, h1, h2 => absurd (by rw [show a + ((0 : Nat) : Int) = a by omega]; exact h1) h2
  | n + 1, a, h1, h2 => by
    by_cases h : GeT m e (a + 1)
    · obtain ⟨k, h3, h4, h5⟩ := ten_ex n h (by rw [show a + 1 + ((n : Nat) : Int) = a + ((n + 1 : Nat) : Int) by omega]; exact h2)
      exact ⟨k, by omega, by omega, h5⟩
    · exact ⟨a, by omega, by omega, h1, h⟩
theorem ge_low {m : Nat} {e : Int} (hm : 1 ≤ m) (he : -1100 ≤ e) : GeT m e (-400) := by
  unfold GeT beS upS
  rw [show (-400 : Int).toNat = 0 by decide, show (-(-400) : Int).toNat = 400 by decide, Nat.pow_zero, Nat.mul_one]
  refine Nat.le_trans (Nat.pow_le_pow_right (by decide) (show (-e).toNat ≤ 1100 by omega)) ?_
  refine Nat.le_trans (show 2 ^ 1100 ≤ 1 * (1 * 10 ^ 400) by decide +kernel) (Nat.mul_le_mul hm (Nat.mul_le_mul_right _ (Nat.two_pow_pos _)))
theorem ge_high {m : Nat} {e : Int} (hm : m < 2 ^ 60) (he : e ≤ 1000) : ¬ GeT m e 400 := by
  unfold GeT beS upS
  rw [show (400 : Int).toNat = 400 by decide, show (-400 : Int).toNat = 0 by decide, Nat.pow_zero, Nat.mul_one]
  refine Nat.not_le.2 (Nat.lt_of_lt_of_le (Nat.mul_lt_mul_of_lt_of_le hm (Nat.pow_le_pow_right (by decide) (show e.toNat ≤ 1000 by omega)) (Nat.two_pow_pos _)) ?_)
  refine Nat.le_trans (show 2 ^ 60 * 2 ^ 1000 ≤ 1 * 10 ^ 400 by decide +kernel) (Nat.mul_le_mul_right _ (Nat.two_pow_pos _))
theorem ten_of {m : Nat} {e : Int} (hm : 1 ≤ m) (hm2 : m < 2 ^ 60) (he : -1100 ≤ e ∧ e ≤ 1000) : ∃ k, -400 ≤ k ∧ k < 400 ∧ Ten m e k := by
  obtain ⟨k, h1, h2, h3⟩ := ten_ex 800 (ge_low hm he.1) (by rw [show (-400 : Int) + ((800 : Nat) : Int) = 400 by decide]; exact ge_high hm2 he.2)
  exact ⟨k, h1, by omega, h3⟩
def startS (z : Int) : Int := (z * 30103).tdiv 100000 - 2
def startOk (i : Nat) : Bool :=
  let z : Int := (i : Int) - 1074
  Nat.ble (2 ^ (-z).toNat * 10 ^ (startS z).toNat) (2 ^ z.toNat * 10 ^ (-(startS z)).toNat) && decide (-340 ≤ startS z)
theorem start_table : (List.range 2100).all startOk = true := by decide +kernel
theorem start_at {z : Int} (hz : -1074 ≤ z ∧ z < 1026) : 2 ^ (-z).toNat * 10 ^ (startS z).toNat ≤ 2 ^ z.toNat * 10 ^ (-(startS z)).toNat ∧ -340 ≤ startS z := by
  have h := List.all_eq_true.1 start_table (z + 1074).toNat (List.mem_range.2 (by omega))
  unfold startOk at h
  rw [show (((z + 1074).toNat : Nat) : Int) - 1074 = z by omega] at h
  simp only [Bool.and_eq_true, decide_eq_true_eq] at h
  exact ⟨Nat.le_of_ble_eq_true h.1, h.2⟩
theorem start_ge {M : Nat} {E z : Int} (hM : M ≠ 0) (hz : (bitlen M : Int) + E - 1 = z) (hz2 : -1074 ≤ z ∧ z < 1026) : GeT (4 * M) (E - 2) (startS z) := by
  obtain ⟨b, hb, h1, h2⟩ := bitlen_spec hM
  obtain ⟨ht, _⟩ := start_at hz2
  unfold GeT beS upS
  generalize startS z = s at *
  have h4 : 2 ^ (b + 2) ≤ 4 * M := by rw [Nat.pow_add]; omega
  refine Nat.le_of_mul_le_mul_right (c := 2 ^ z.toNat) ?_ (Nat.two_pow_pos _)
  have e1 : 2 ^ (-(E - 2)).toNat * 10 ^ s.toNat * 2 ^ z.toNat = 2 ^ (b + 2) * 2 ^ (E - 2).toNat * (2 ^ (-z).toNat * 10 ^ s.toNat) := by
    have : 2 ^ (-(E - 2)).toNat * 2 ^ z.toNat = 2 ^ (b + 2) * 2 ^ (E - 2).toNat * 2 ^ (-z).toNat := by
      rw [← Nat.pow_add, ← Nat.pow_add, ← Nat.pow_add]
      congr 1
      omega
    rw [Nat.mul_right_comm, this, Nat.mul_assoc, Nat.mul_assoc]
  rw [e1]
  refine Nat.le_trans (Nat.mul_le_mul_left _ ht) ?_
  have e2 : 4 * M * (2 ^ (E - 2).toNat * 10 ^ (-s).toNat) * 2 ^ z.toNat = 4 * M * 2 ^ (E - 2).toNat * (2 ^ z.toNat * 10 ^ (-s).toNat) := by ac_rfl
  rw [e2]
  exact Nat.mul_le_mul_right _ (Nat.mul_le_mul_right _ h4)
structure LesS (x y s : List Int) (i : Nat) (c : Int) : Prop where
  len : s.length = i
  wds : Words s
  car : 0 ≤ c ∧ c ≤ 1
  eq : wal s - B32 ^ i * c = wt x i - wt y i
theorem LesS.step {x y s : List Int} {i : Nat} {c o t b : Int} (h : LesS x y s i c) (hx : Words x) (hy : Words y) (ho : c + y.getD i 0 = o) (ht : (x.getD i 0 < o ∧ t = x.getD i 0 + 4294967296 - o ∧ b = 1) ∨ (¬ x.getD i 0 < o ∧ t = x.getD i 0 - o ∧ b = 0)) : LesS x y (s ++ [t]) (i + 1) b := by
  have h1 := getD_word hx i
  have h2 := getD_word hy i
  have hc := h.car
  simp only [B32] at h1 h2
  refine ⟨by rw [len_snoc, h.len], words_snoc h.wds (by simp only [B32]; omega), by omega, ?_⟩
  rw [wal_snoc, h.len]
  simp only [wt]
  rw [Int.pow_succ]
  have he := h.eq
  have e : t - 4294967296 * b = x.getD i 0 - y.getD i 0 - c := by omega
  have e2 : t = x.getD i 0 - y.getD i 0 - c + 4294967296 * b := by omega
  rw [e2]
  simp only [B32] at he ⊢
  generalize (4294967296 : Int) ^ i = p at *
  grind
abbrev lsF (x y : List Int) (i : Nat) (c : Int) : PV.Frame := [(9, .int .i64 (i : Int)), (8, .int .u64 c), (7, .sl 0 0 i true), (5, .ints .u64 x), (6, .ints .u64 y)]
theorem less_walk (a b x y : List Int) (ha : Meets Tryz.prog 112 [.ints .u64 a] (.ints .u64 x)) (hb : Meets Tryz.prog 112 [.ints .u64 b] (.ints .u64 y)) (hx : Words x) (hy : Words y) (hxl : x.length ≤ 1000000) (hyx : wal y ≤ wal x) (v : Nat) (hv : wal x - wal y = v) :
    Meets Tryz.prog 73 [.ints .u64 a, .ints .u64 b] (.ints .u64 (natL v)) := by
  have hlim : ∀ s c, LesS x y s x.length c → Meets Tryz.prog 113 [.ints .u64 s] (.ints .u64 (natL v)) := fun s c hS => by
    have hc := hS.car
    have hy0 := (wt_bound hy x.length).2
    have hyl : wt y x.length ≤ wal x := by
      refine Int.le_trans ?_ hyx
      rcases Nat.le_total x.length y.length with h | h
      · obtain ⟨d, hd⟩ := Nat.exists_eq_add_of_le h
        unfold wal
        rw [hd]
        clear hd h
        induction d with
        | zero => exact Int.le_refl _
        | succ d ih =>
          rw [show x.length + (d + 1) = x.length + d + 1 by omega]
          simp only [wt]
          have := getD_word hy (x.length + d)
          have h3 := Int.mul_nonneg (Int.le_of_lt (pow_pos32 (x.length + d))) this.1
          omega
      · rw [wt_beyond _ h]; exact Int.le_refl _
    have he := hS.eq
    rw [show wt x x.length = wal x from rfl] at he
    have hb := wt_bound hS.wds s.length
    rw [show wt s s.length = wal s from rfl, hS.len] at hb
    have hc0 : c = 0 := by
      rcases (show c = 0 ∨ c = 1 by omega) with h | h
      · exact h
      · exfalso; rw [h, Int.mul_one] at he; omega
    have hyw : wt y x.length = wal y := by
      -- what lies above is zero, as the number is at most x
      rcases Nat.le_total y.length x.length with h | h
      · exact wt_beyond _ h
      · obtain ⟨d, hd⟩ := Nat.exists_eq_add_of_le h
        have hxb : wal x < B32 ^ x.length := (wt_bound hx x.length).2
        have hge : ∀ n, wt y x.length ≤ wt y (x.length + n) ∧ (wt y (x.length + n) = wt y x.length ∨ B32 ^ x.length ≤ wt y (x.length + n)) := by
          intro n
          induction n with
          | zero => exact ⟨Int.le_refl _, .inl rfl⟩
          | succ n ih =>
            rw [show x.length + (n + 1) = x.length + n + 1 by omega]
            simp only [wt]
            have hg := getD_word hy (x.length + n)
            have hp := pow_pos32 (x.length + n)
            have hw := (wt_bound hy (x.length + n)).1
            by_cases h0 : y.getD (x.length + n) 0 = 0
            · rw [h0, Int.mul_zero, Int.add_zero]; exact ih
            · have h4 : B32 ^ (x.length + n) * 1 ≤ B32 ^ (x.length + n) * y.getD (x.length + n) 0 := Int.mul_le_mul_of_nonneg_left (by omega) (Int.le_of_lt hp)
              have h5 : (B32 : Int) ^ x.length ≤ B32 ^ (x.length + n) := by
                have e : B32 = ((4294967296 : Nat) : Int) := rfl
                rw [e, ← Int.natCast_pow, ← Int.natCast_pow]
                exact Int.ofNat_le.2 (Nat.pow_le_pow_right (by decide) (by omega))
              exact ⟨by omega, .inr (by omega)⟩
        have h6 := hge d
        rw [← hd, show wt y y.length = wal y from rfl] at h6
        rcases h6.2 with h7 | h7
        · exact h7.symm
        · omega
    refine ref01_limbs _ hS.wds (by rw [hS.len]; omega) v ?_
    rw [hc0, Int.mul_zero, Int.sub_zero, hyw] at he
    rw [he, hv]
  generalize natL v = res at *
  clear hv
  refine meets_by ttOk Tryz.func73 Tryz.ntmps73 Tryz.results73 (by kernel_rfl) (c := _) rfl rfl rfl fun E => ?_
  simp only [argsFrame]
  repeat' first
    | (with_reducible first | refine PW.seq ?_ | refine PW.block ?_ | refine PW.fork ?_ | refine PW.skip ?_ | refine PW.exit ?_ | refine PW.ret ?_) | (simp only [Int.toNat_natCast]) | ((with_reducible refine PW.region ttOk ?_ ?_); rfl) | ((with_reducible refine PW.regionD ttOk mixed ?_ ?_ ?_); rfl; rfl) | (with_reducible refine ifW_dec (fun g => ?_) (fun g => ?_) <;> first | (exfalso; omega) | (simp -dsimp only [g, wkI])) | ((with_reducible first | refine condE_dec (fun g => ?_) (fun g => ?_) | refine condE_not (fun g => ?_) (fun g => ?_)) <;> try (exfalso; omega)) | (simp -dsimp only [↓wkA, ↓wkE, ↓wkJ, wkB, ↓tt, Nat.reduceBEq, Nat.reduceEqDiff, ↓reduceIte, Nat.reduceLT, Array.toList, Nat.reduceAdd, Nat.reduceMul, Int.reduceToNat, Int.reducePow, UInt8.reduceToNat]) | (refine call_by (ha) (views_data rfl) ⟨trivial, trivial⟩ rfl ?_) | (refine call_by (hb) (views_data rfl) ⟨trivial, trivial⟩ rfl ?_) | (simp -dsimp (disch := first | assumption | omega) only [dec_t, dec_f])
    | (refine And.intro ?_ ?_
       · first | omega | decide | (simp (disch := omega) only [wkW, Int.reduceToNat, Int.reducePow] <;> omega) | (simp <;> omega)) | (simp (disch := omega) only [wkW, Int.reduceToNat, Int.reducePow])
  refine PW.loopA (fun m F H => ∃ i s c, i + m = x.length ∧ LesS x y s i c ∧ F = lsF x y i c ∧ H = ⟨1, [(0, .ints .u64 s)], [], []⟩) x.length (lsF x y 0 0) ⟨1, [(0, .ints .u64 [])], [], []⟩ (Sub.norm ⟨rfl, rfl, rfl, rfl, rfl, trivial⟩ ⟨rfl, trivial⟩ (Nat.le_refl _) rfl rfl rfl rfl) ⟨0, [], 0, by omega, ⟨rfl, fun x hx => (by cases hx), by decide, by simp [wt, wal]⟩, rfl, rfl⟩ ?_
  rintro m F H ⟨i, s, c, hi, hS, rfl, rfl⟩
  have hsl := hS.len
  have hcar := hS.car
  have htk : List.take i s = s := List.take_of_length_le (by omega)
  cases m with
  | zero =>
    obtain rfl : i = x.length := by omega
    have hm := hlim s c hS
    repeat' first
      | (with_reducible first | refine PW.seq ?_ | refine PW.block ?_ | refine PW.fork ?_ | refine PW.skip ?_ | refine PW.exit ?_ | refine PW.ret ?_) | (simp only [htk]) | ((with_reducible refine PW.region ttOk ?_ ?_); rfl) | ((with_reducible refine PW.regionD ttOk mixed ?_ ?_ ?_); rfl; rfl) | (with_reducible refine ifW_dec (fun g => ?_) (fun g => ?_) <;> first | (exfalso; omega) | (simp -dsimp only [g, wkI])) | ((with_reducible first | refine condE_dec (fun g => ?_) (fun g => ?_) | refine condE_not (fun g => ?_) (fun g => ?_)) <;> try (exfalso; omega)) | (simp -dsimp only [↓wkA, ↓wkE, ↓wkJ, wkB, ↓tt, Nat.reduceBEq, Nat.reduceEqDiff, ↓reduceIte, Nat.reduceLT, Array.toList, Nat.reduceAdd, Nat.reduceMul, Int.reduceToNat, Int.reducePow, UInt8.reduceToNat]) | (refine call_drop (args' := [.ints .u64 s]) (by simp -dsimp only [↓wkA, ↓wkE, ↓wkJ, wkB, ↓tt, Nat.reduceBEq, Nat.reduceEqDiff, ↓reduceIte, Nat.reduceLT, Array.toList, Nat.reduceAdd, Nat.reduceMul, Int.reduceToNat, Int.reducePow, UInt8.reduceToNat] <;> rw [htk]) hm (by simp -dsimp only [okViews, ↓wkA, ↓wkE, ↓wkJ, wkB, ↓tt, Nat.reduceBEq, Nat.reduceEqDiff, ↓reduceIte, Nat.reduceLT, Array.toList, Nat.reduceAdd, Nat.reduceMul, Int.reduceToNat, Int.reducePow, UInt8.reduceToNat] <;> omega) rfl ?_) | (simp -dsimp (disch := first | assumption | omega) only [dec_t, dec_f])
      | (refine And.intro ?_ ?_
         · first | omega | decide | (simp (disch := omega) only [wkW, Int.reduceToNat, Int.reducePow] <;> omega) | (simp <;> omega)) | (simp (disch := omega) only [wkW, Int.reduceToNat, Int.reducePow])
  | succ m =>
    have h1 := getD_word hx i
    have h2 := getD_word hy i
    simp only [B32] at h1 h2
    have w2 : IntKind.wrap .i64 ((i : Int) + 1) = ((i + 1 : Nat) : Int) := wrap_i64 (by omega)
    have w3 : IntKind.wrap .u64 (c + y.getD i 0) = c + y.getD i 0 := wrap_u64 (by omega)
    have w4 : IntKind.wrap .u64 (x.getD i 0 + 4294967296) = x.getD i 0 + 4294967296 := wrap_u64 (by omega)
    have d0 : decide ((i : Int) < (x.length : Int)) = true := decide_eq_true (by omega)
    by_cases hiy : i < y.length
    case' pos =>
      have d1 : decide ((i : Int) < (y.length : Int)) = true := decide_eq_true (by omega)
      obtain ⟨o, ho⟩ : ∃ o, c + y.getD i 0 = o := ⟨_, rfl⟩
      have ho2 : c + y.getD i 0 = o := ho
    case' neg =>
      have d1 : decide ((i : Int) < (y.length : Int)) = false := decide_eq_false (by omega)
      have hy0 := getD_none (Nat.le_of_not_lt hiy)
      obtain ⟨o, ho⟩ : ∃ o, c = o := ⟨_, rfl⟩
      have ho2 : c + y.getD i 0 = o := by rw [hy0]; omega
    all_goals have w6 : IntKind.wrap .u64 o = o := wrap_u64 (by omega)
    all_goals by_cases hlt : x.getD i 0 < o
    all_goals first
      | (have d2 : decide (x.getD i 0 < o) = true := decide_eq_true hlt; have hst := hS.step hx hy ho2 (.inl ⟨hlt, rfl, rfl⟩); have w5 : IntKind.wrap .u64 (x.getD i 0 + 4294967296 - o) = x.getD i 0 + 4294967296 - o := wrap_u64 (by omega))
      | (have d2 : decide (x.getD i 0 < o) = false := decide_eq_false hlt; have hst := hS.step hx hy ho2 (.inr ⟨hlt, rfl, rfl⟩); have w5 : IntKind.wrap .u64 (x.getD i 0 - o) = x.getD i 0 - o := wrap_u64 (by omega))
    all_goals
      repeat' first
        | (with_reducible first | refine PW.seq ?_ | refine PW.block ?_ | refine PW.fork ?_ | refine PW.skip ?_ | refine PW.exit ?_ | refine PW.ret ?_) | (simp only [d0, d1, d2, w2, w3, w4, w5, w6, ho, htk]) | ((with_reducible refine PW.region ttOk ?_ ?_); rfl) | ((with_reducible refine PW.regionD ttOk mixed ?_ ?_ ?_); rfl; rfl) | (with_reducible refine ifW_dec (fun g => ?_) (fun g => ?_) <;> first | (exfalso; omega) | (simp -dsimp only [g, wkI])) | ((with_reducible first | refine condE_dec (fun g => ?_) (fun g => ?_) | refine condE_not (fun g => ?_) (fun g => ?_)) <;> try (exfalso; omega)) | (simp -dsimp only [↓wkA, ↓wkE, ↓wkJ, wkB, ↓tt, Nat.reduceBEq, Nat.reduceEqDiff, ↓reduceIte, Nat.reduceLT, Array.toList, Nat.reduceAdd, Nat.reduceMul, Int.reduceToNat, Int.reducePow, UInt8.reduceToNat]) | (simp -dsimp (disch := first | assumption | omega) only [dec_t, dec_f])
        | (refine And.intro ?_ ?_
           · first | omega | decide | (simp (disch := omega) only [wkW, Int.reduceToNat, Int.reducePow] <;> omega) | (simp <;> omega)) | (simp (disch := omega) only [wkW, Int.reduceToNat, Int.reducePow])
    all_goals simp only [hsl]
    all_goals exact Again.mk m (lsF x y (i + 1) _) ⟨1, [(0, .ints .u64 _)], [], []⟩ (by omega) (Sub.norm ⟨rfl, rfl, rfl, rfl, rfl, trivial⟩ ⟨rfl, trivial⟩ (by simp) rfl rfl rfl rfl) ⟨i + 1, _, _, by omega, hst, rfl, rfl⟩
theorem ref01_less {a b : List Int} (ha : Limbs a) (hb : Limbs b) (hla : a.length ≤ 100000) (hlb : b.length ≤ 100000) {u v : Nat} (hu : val a = u) (hv : val b = v) (hle : v ≤ u) : Meets Tryz.prog 73 [.ints .u64 a, .ints .u64 b] (.ints .u64 (natL (u - v))) := by
  have l1 := hv_len a
  exact less_walk a b _ _ (ref01_halves a ha (by omega)) (ref01_halves b hb (by omega)) (hv_words ha) (hv_words hb) (by omega) (by rw [hv_wal, hv_wal, hu, hv]; omega) _ (by rw [hv_wal, hv_wal, hu, hv]; omega)
theorem ref12_ten (n : Int) (hn : -10000 ≤ n ∧ n ≤ 10000) : Meets Tryz.prog 106 [.int .i64 n] (.ints .u64 (natL (10 ^ n.toNat))) := by
  have h1 := ref02_pow10 n.toNat (by omega)
  generalize natL (10 ^ n.toNat) = r at *
  by_cases h0 : n < 0
  · have d0 : decide (n < 0) = true := decide_eq_true h0
    rw [show ((n.toNat : Nat) : Int) = 0 by omega] at h1
    refine meets_by ttOk Tryz.func106 Tryz.ntmps106 Tryz.results106 (by kernel_rfl) (c := _) rfl rfl rfl fun E => ?_
    simp only [argsFrame]
    repeat' first
      | (with_reducible first | refine PW.seq ?_ | refine PW.block ?_ | refine PW.fork ?_ | refine PW.skip ?_ | refine PW.exit ?_ | refine PW.ret ?_) | (simp only [d0]) | ((with_reducible refine PW.region ttOk ?_ ?_); rfl) | ((with_reducible refine PW.regionD ttOk mixed ?_ ?_ ?_); rfl; rfl) | (with_reducible refine ifW_dec (fun g => ?_) (fun g => ?_) <;> first | (exfalso; omega) | (simp -dsimp only [g, wkI])) | ((with_reducible first | refine condE_dec (fun g => ?_) (fun g => ?_) | refine condE_not (fun g => ?_) (fun g => ?_)) <;> try (exfalso; omega)) | (simp -dsimp only [↓wkA, ↓wkE, ↓wkJ, wkB, ↓tt, Nat.reduceBEq, Nat.reduceEqDiff, ↓reduceIte, Nat.reduceLT, Array.toList, Nat.reduceAdd, Nat.reduceMul, Int.reduceToNat, Int.reducePow, UInt8.reduceToNat]) | (refine call_by (h1) (views_data rfl) ⟨trivial, trivial⟩ rfl ?_) | (simp -dsimp (disch := first | assumption | omega) only [dec_t, dec_f])
      | (refine And.intro ?_ ?_
         · first | omega | decide | (simp (disch := omega) only [wkW, Int.reduceToNat, Int.reducePow] <;> omega) | (simp <;> omega)) | (simp (disch := omega) only [wkW, Int.reduceToNat, Int.reducePow])
  · have d0 : decide (n < 0) = false := decide_eq_false h0
    rw [show ((n.toNat : Nat) : Int) = n by omega] at h1
    refine meets_by ttOk Tryz.func106 Tryz.ntmps106 Tryz.results106 (by kernel_rfl) (c := _) rfl rfl rfl fun E => ?_
    simp only [argsFrame]
    repeat' first
      | (with_reducible first | refine PW.seq ?_ | refine PW.block ?_ | refine PW.fork ?_ | refine PW.skip ?_ | refine PW.exit ?_ | refine PW.ret ?_) | (simp only [d0]) | ((with_reducible refine PW.region ttOk ?_ ?_); rfl) | ((with_reducible refine PW.regionD ttOk mixed ?_ ?_ ?_); rfl; rfl) | (with_reducible refine ifW_dec (fun g => ?_) (fun g => ?_) <;> first | (exfalso; omega) | (simp -dsimp only [g, wkI])) | ((with_reducible first | refine condE_dec (fun g => ?_) (fun g => ?_) | refine condE_not (fun g => ?_) (fun g => ?_)) <;> try (exfalso; omega)) | (simp -dsimp only [↓wkA, ↓wkE, ↓wkJ, wkB, ↓tt, Nat.reduceBEq, Nat.reduceEqDiff, ↓reduceIte, Nat.reduceLT, Array.toList, Nat.reduceAdd, Nat.reduceMul, Int.reduceToNat, Int.reducePow, UInt8.reduceToNat]) | (refine call_by (h1) (views_data rfl) ⟨trivial, trivial⟩ rfl ?_) | (simp -dsimp (disch := first | assumption | omega) only [dec_t, dec_f])
      | (refine And.intro ?_ ?_
         · first | omega | decide | (simp (disch := omega) only [wkW, Int.reduceToNat, Int.reducePow] <;> omega) | (simp <;> omega)) | (simp (disch := omega) only [wkW, Int.reduceToNat, Int.reducePow])
theorem scaled12_walk (m e j : Int) (N1 N2 D1 D2 T1 : List Int) (he : -2000 ≤ e ∧ e ≤ 2000) (hj : -2000 ≤ j ∧ j ≤ 2000) (h1 : Meets Tryz.prog 106 [.int .i64 (0 - j)] (.ints .u64 T1)) (h2 : Meets Tryz.prog 106 [.int .i64 j] (.ints .u64 D1)) (h3 : Meets Tryz.prog 80 [.ints .u64 [m], .ints .u64 T1] (.ints .u64 N1))
    (h4 : (0 ≤ e ∧ Meets Tryz.prog 78 [.ints .u64 N1, .int .i64 e] (.ints .u64 N2) ∧ D2 = D1) ∨ (¬ 0 ≤ e ∧ Meets Tryz.prog 78 [.ints .u64 D1, .int .i64 (0 - e)] (.ints .u64 D2) ∧ N2 = N1)) :
    Meets Tryz.prog 67 [.int .u64 m, .int .i64 e, .int .i64 j] (.tup [.ints .u64 N2, .ints .u64 D2]) := by
  have w1 : IntKind.wrap .i64 (0 - j) = 0 - j := wrap_i64 (by omega)
  have w2 : IntKind.wrap .i64 (0 - e) = 0 - e := wrap_i64 (by omega)
  rcases h4 with ⟨h0, h5, rfl⟩ | ⟨h0, h5, rfl⟩
  case' inl => have d0 : decide (0 ≤ e) = true := decide_eq_true h0
  case' inr => have d0 : decide (0 ≤ e) = false := decide_eq_false h0
  all_goals (refine meets_by ttOk Tryz.func67 Tryz.ntmps67 Tryz.results67 (by kernel_rfl) (c := _) rfl rfl rfl fun E => ?_; simp only [argsFrame])
  all_goals
    repeat' first
      | (with_reducible first | refine PW.seq ?_ | refine PW.block ?_ | refine PW.fork ?_ | refine PW.skip ?_ | refine PW.exit ?_ | refine PW.ret ?_) | (simp only [w1, w2, d0]) | ((with_reducible refine PW.region ttOk ?_ ?_); rfl) | ((with_reducible refine PW.regionD ttOk mixed ?_ ?_ ?_); rfl; rfl) | (with_reducible refine ifW_dec (fun g => ?_) (fun g => ?_) <;> first | (exfalso; omega) | (simp -dsimp only [g, wkI])) | ((with_reducible first | refine condE_dec (fun g => ?_) (fun g => ?_) | refine condE_not (fun g => ?_) (fun g => ?_)) <;> try (exfalso; omega)) | (simp -dsimp only [↓wkA, ↓wkE, ↓wkJ, wkB, ↓tt, Nat.reduceBEq, Nat.reduceEqDiff, ↓reduceIte, Nat.reduceLT, Array.toList, Nat.reduceAdd, Nat.reduceMul, Int.reduceToNat, Int.reducePow, UInt8.reduceToNat]) | (refine call_by (h1) (views_data rfl) ⟨trivial, trivial⟩ rfl ?_) | (refine call_by (h2) (views_data rfl) ⟨trivial, trivial⟩ rfl ?_) | (refine call_drop (args' := [.ints .u64 [m], .ints .u64 _]) rfl h3 ⟨Nat.le_refl _, trivial, trivial⟩ rfl ?_; simp only [wkD, Nat.reduceBEq]) | (refine call_by (h5) (views_data rfl) ⟨trivial, trivial, trivial⟩ rfl ?_) | (simp -dsimp (disch := first | assumption | omega) only [dec_t, dec_f])
      | (refine And.intro ?_ ?_
         · first | omega | decide | (simp (disch := omega) only [wkW, Int.reduceToNat, Int.reducePow] <;> omega) | (simp <;> omega)) | (simp (disch := omega) only [wkW, Int.reduceToNat, Int.reducePow])
theorem big_len {x : Nat} (h : x < 2 ^ 2700) : (natL x).length ≤ 100000 := by
  have := natL_len_le (v := x) (n := 43) (Nat.lt_of_lt_of_le h (by decide +kernel))
  omega
theorem ref12_scaled (m : Nat) (e j : Int) (hm : m < 2 ^ 60) (he : -1100 ≤ e ∧ e ≤ 1000) (hj : -420 ≤ j ∧ j ≤ 420) : Meets Tryz.prog 67 [.int .u64 (m : Int), .int .i64 e, .int .i64 j] (.tup [.ints .u64 (natL (m * upS e j)), .ints .u64 (natL (beS e j))]) := by
  have hm64 : m < 18446744073709551616 := Nat.lt_trans hm (by decide)
  have one := limbs_one hm64
  have t1 := ref12_ten (0 - j) (by omega)
  have t2 := ref12_ten j (by omega)
  rw [show (0 - j).toNat = (-j).toNat by omega] at t1
  have p10 : ∀ k : Nat, k ≤ 420 → 10 ^ k < 2 ^ 1500 := fun k hk => Nat.lt_of_le_of_lt (Nat.pow_le_pow_right (by decide) hk) (by decide +kernel)
  have lt1 := big_len (x := 10 ^ (-j).toNat) (Nat.lt_of_lt_of_le (p10 _ (by omega)) (Nat.pow_le_pow_right (by decide) (by decide)))
  have lt2 := big_len (x := 10 ^ j.toNat) (Nat.lt_of_lt_of_le (p10 _ (by omega)) (Nat.pow_le_pow_right (by decide) (by decide)))
  have h3 := ref01_times one.1 (natL_limbs (10 ^ (-j).toNat)) (by simp) lt1 one.2 (val_natL _)
  have ln := big_len (x := m * 10 ^ (-j).toNat) (Nat.lt_of_lt_of_le (Nat.mul_lt_mul'' hm (p10 _ (by omega))) (by rw [← Nat.pow_add]; exact Nat.pow_le_pow_right (by decide) (by decide)))
  refine scaled12_walk m e j (natL (m * 10 ^ (-j).toNat)) _ (natL (10 ^ j.toNat)) _ _ (by omega) (by omega) t1 t2 h3 ?_
  by_cases h : 0 ≤ e
  · refine .inl ⟨h, ?_, ?_⟩
    · have := ref01_lift (n := e.toNat) (natL_limbs (m * 10 ^ (-j).toNat)) ln (val_natL _) (by omega)
      rw [Int.toNat_of_nonneg h, show m * 10 ^ (-j).toNat * 2 ^ e.toNat = m * upS e j by unfold upS; rw [Nat.mul_assoc, Nat.mul_comm (10 ^ _)]] at this
      exact this
    · unfold beS; rw [show (-e).toNat = 0 by omega, Nat.pow_zero, Nat.one_mul]
  · refine .inr ⟨h, ?_, ?_⟩
    · have := ref01_lift (n := (-e).toNat) (natL_limbs (10 ^ j.toNat)) lt2 (val_natL _) (by omega)
      rw [show (((-e).toNat : Nat) : Int) = 0 - e by omega, show 10 ^ j.toNat * 2 ^ (-e).toNat = beS e j by unfold beS; rw [Nat.mul_comm]] at this
      exact this
    · unfold upS; rw [show e.toNat = 0 by omega, Nat.pow_zero, Nat.one_mul]
def pad (b : Nat) : Nat → Nat → List Nat
  | 0, _ => []
  | k + 1, d => d % b :: pad b k (d / b)
theorem pad_len (b : Nat) : ∀ k d, (pad b k d).length = k
  | 0, _ => rfl
  | k + 1, d => by rw [pad, List.length_cons, pad_len b k]
theorem pad_lt {b : Nat} (hb : 2 ≤ b) : ∀ k d, ∀ x ∈ pad b k d, x < b
  | 0, _, x, h => by cases h
  | k + 1, d, x, h => by
    rcases List.mem_cons.1 h with rfl | h
    · exact Nat.mod_lt _ (by omega)
    · exact pad_lt hb k _ x h
theorem pad_zero (b : Nat) : ∀ k, pad b k 0 = List.replicate k 0
  | 0 => rfl
  | k + 1 => by rw [pad, Nat.zero_mod, Nat.zero_div, pad_zero b k]; rfl
theorem pad_digs {b : Nat} (hb : 2 ≤ b) : ∀ k v, v < b ^ k → ∃ z, pad b k v = digs b v ++ List.replicate z 0
  | 0, v, h => ⟨0, by have : v = 0 := by simpa using h
                      subst this; simp [pad, digs_zero]⟩
  | k + 1, v, h => by
    by_cases h0 : v = 0
    · subst h0; exact ⟨k + 1, by rw [pad_zero, digs_zero]; rfl⟩
    · obtain ⟨z, hz⟩ := pad_digs hb k (v / b) (by rw [Nat.pow_succ, Nat.mul_comm] at h; exact Nat.div_lt_of_lt_mul h)
      exact ⟨z, by rw [pad, hz, digs_step hb h0]; rfl⟩
theorem digs_split {b : Nat} (hb : 2 ≤ b) : ∀ k v, v / b ^ k ≠ 0 → digs b v = pad b k (v % b ^ k) ++ digs b (v / b ^ k)
  | 0, v, h => by simp [pad]
  | k + 1, v, h => by
    have h0 : v ≠ 0 := by rintro rfl; simp at h
    have e1 : v / b ^ (k + 1) = v / b / b ^ k := by rw [Nat.pow_succ, Nat.mul_comm, Nat.div_div_eq_div_mul]
    have e2 : v % b ^ (k + 1) % b = v % b := Nat.mod_mod_of_dvd _ ⟨b ^ k, by rw [Nat.pow_succ, Nat.mul_comm]⟩
    have e3 : v % b ^ (k + 1) / b = v / b % b ^ k := by rw [Nat.pow_succ, Nat.mul_comm, Nat.mod_mul_right_div_self]
    rw [digs_step hb h0, pad, e1, e2, e3, digs_split hb k (v / b) (by rw [← e1]; exact h)]
    rfl
def flat (b k : Nat) (l : List Nat) : List Nat := l.flatMap (pad b k)
theorem flat_digs {b k : Nat} (hb : 2 ≤ b) (hk : 1 ≤ k) : ∀ v, ∃ z, flat b k (digs (b ^ k) v) = digs b v ++ List.replicate z 0 := by
  have hp : 2 ≤ b ^ k := Nat.le_trans hb (by simpa using Nat.pow_le_pow_right (show 0 < b by omega) hk)
  intro v
  induction v using Nat.strongRecOn with
  | _ v ih =>
    by_cases h0 : v = 0
    · subst h0; exact ⟨0, by simp [digs_zero, flat]⟩
    · rw [digs_step hp h0]
      obtain ⟨z, hz⟩ := ih (v / b ^ k) (Nat.div_lt_self (by omega) (by omega))
      by_cases h1 : v / b ^ k = 0
      · rw [h1, digs_zero]
        have hlt : v < b ^ k := by
          rcases Nat.lt_or_ge v (b ^ k) with h | h
          · exact h
          · have := Nat.div_pos h (by omega); omega
        obtain ⟨z', hz'⟩ := pad_digs hb k v hlt
        exact ⟨z', by simp only [flat, List.flatMap_cons, List.flatMap_nil, List.append_nil]; rw [Nat.mod_eq_of_lt hlt, hz']⟩
      · refine ⟨z, ?_⟩
        simp only [flat, List.flatMap_cons] at hz ⊢
        rw [hz, digs_split hb k v h1, List.append_assoc]
theorem flat_len (b k : Nat) : ∀ l : List Nat, (flat b k l).length = l.length * k
  | [] => by simp [flat]
  | d :: l => by
    have := flat_len b k l
    simp only [flat, List.flatMap_cons, List.length_append, List.length_cons, pad_len] at this ⊢
    rw [this, Nat.add_mul]; omega
theorem flat_lt {b : Nat} (hb : 2 ≤ b) (k : Nat) (l : List Nat) : ∀ x ∈ flat b k l, x < b := by
  intro x hx
  obtain ⟨d, _, h⟩ := List.mem_flatMap.1 hx
  exact pad_lt hb k d x h
def lets (u : Bool) (l : List Nat) : List Int := l.map (letter u)
theorem lets_len (u : Bool) (l : List Nat) : (lets u l).length = l.length := List.length_map ..
theorem text_lets (b : Nat) (u : Bool) (v : Nat) : text b u v = (lets u (digs b v)).reverse := rfl
theorem lets_append (u : Bool) (a b : List Nat) : lets u (a ++ b) = lets u a ++ lets u b := List.map_append ..
theorem digs_top {b : Nat} (hb : 2 ≤ b) : ∀ v, v ≠ 0 → (digs b v).getD ((digs b v).length - 1) 0 ≠ 0 := by
  intro v
  induction v using Nat.strongRecOn with
  | _ v ih =>
    intro h0
    rw [digs_step hb h0]
    by_cases h1 : v / b = 0
    · rw [h1, digs_zero]
      have : v % b = v := Nat.mod_eq_of_lt (by
        rcases Nat.lt_or_ge v b with h | h
        · exact h
        · have := Nat.div_pos h (by omega); omega)
      simpa [this] using h0
    · have := ih (v / b) (Nat.div_lt_self (by omega) (by omega)) h1
      have hne : (digs b (v / b)).length ≠ 0 := by rw [digs_step hb h1]; simp
      rw [List.length_cons, show (digs b (v / b)).length + 1 - 1 = ((digs b (v / b)).length - 1) + 1 by omega, List.getD_cons_succ]
      exact this
theorem letter_48 (u : Bool) {d : Nat} (hd : d < 36) (h : letter u d = 48) : d = 0 := (letter_all u ⟨d, hd⟩).2.1 h
end Go.Proofs.YtmoilbeomnapfaaGreatDoor

import Derived.Test.YtjfakpogfakicaaDoorT
set_option linter.unusedVariables false
set_option linter.unusedSimpArgs false
namespace Go.Proofs.YtjfakpogfakicaaDoor
open Go Go.PV

def sizeN (l : List Int) : Nat → Nat
  | 0 => 0
  | n + 1 => if l.getD n 0 = 0 then sizeN l n else n + 1

theorem sizeN_le (l : List Int) : ∀ n, sizeN l n ≤ n
  | 0 => Nat.le_refl _
  | n + 1 => by have := sizeN_le l n; unfold sizeN; split <;> omega

/-- The limbs without the high zero ones. -/
def size (l : List Int) : Nat := sizeN l l.length
theorem size_le (l : List Int) : size l ≤ l.length := sizeN_le l l.length
def trim (l : List Int) : List Int := l.take (size l)

theorem nat_size (l : List Int) (hl : l.length ≤ 9223372036854775807) : Meets Tryd.prog 17 [.ints .u64 l] (.int .i64 (size l)) := by
  refine meets_by ttOk Tryd.func17 Tryd.ntmps17 Tryd.results17 (by kernel_rfl) (c := _) rfl rfl rfl fun E => ?_
  simp only [argsFrame]
  repeat' first
    | (with_reducible first | refine PW.seq ?_ | refine PW.block ?_ | refine PW.fork ?_ | refine PW.skip ?_ | refine PW.exit ?_ | refine PW.ret ?_)
    | (with_reducible refine PW.region ttOk ?_ ?_
       · rfl)
    | (with_reducible refine PW.regionD ttOk mixed ?_ ?_ ?_
       · rfl
       · rfl)
    | (with_reducible refine ifW_dec (fun g => ?_) (fun g => ?_) <;> first | (exfalso; omega) | (simp -dsimp only [g, wkI]))
    | (with_reducible refine condE_dec (fun g => ?_) (fun g => ?_) <;> try (exfalso; omega))
    | (with_reducible refine condE_not (fun g => ?_) (fun g => ?_) <;> try (exfalso; omega))
    | (simp -dsimp only [↓wkA, wkB, ↓tt, Nat.reduceBEq, Nat.reduceEqDiff, ↓reduceIte, Nat.reduceLT, Array.toList, Nat.reduceAdd, Nat.reduceMul, Int.reduceToNat, Int.reducePow, UInt8.reduceToNat])
    | (simp -dsimp (disch := first | assumption | omega) only [dec_t, dec_f])
    | (refine And.intro ?_ ?_
       · first | omega | decide | (simp (disch := omega) only [wkW, Int.reduceToNat, Int.reducePow] <;> omega) | (simp <;> omega))
    | (simp (disch := omega) only [wkW, Int.reduceToNat, Int.reducePow])
    | fail
  refine PW.loopA (fun n F H => n ≤ l.length ∧ sizeN l n = size l ∧ F = [(3, .int .i64 n), (0, .ints .u64 l)] ∧ H = ⟨0, [], [], []⟩) l.length [(3, .int .i64 l.length), (0, .ints .u64 l)] ⟨0, [], [], []⟩ (Sub.frame ⟨rfl, rfl, trivial⟩) ⟨Nat.le_refl _, rfl, rfl, rfl⟩ ?_
  rintro n F H ⟨hn, hs, rfl, rfl⟩
  cases n with
  | zero =>
    repeat' first
      | (with_reducible first | refine PW.seq ?_ | refine PW.block ?_ | refine PW.fork ?_ | refine PW.skip ?_ | refine PW.exit ?_ | refine PW.ret ?_)
      | (with_reducible refine PW.region ttOk ?_ ?_
         · rfl)
      | (with_reducible refine PW.regionD ttOk mixed ?_ ?_ ?_
         · rfl
         · rfl)
      | (with_reducible refine ifW_dec (fun g => ?_) (fun g => ?_) <;> first | (exfalso; omega) | (simp -dsimp only [g, wkI]))
      | (with_reducible refine condE_dec (fun g => ?_) (fun g => ?_) <;> try (exfalso; omega))
      | (with_reducible refine condE_not (fun g => ?_) (fun g => ?_) <;> try (exfalso; omega))
      | (simp -dsimp only [↓wkA, wkB, ↓tt, Nat.reduceBEq, Nat.reduceEqDiff, ↓reduceIte, Nat.reduceLT, Array.toList, Nat.reduceAdd, Nat.reduceMul, Int.reduceToNat, Int.reducePow, UInt8.reduceToNat])
      | (simp -dsimp (disch := first | assumption | omega) only [dec_t, dec_f])
      | (refine And.intro ?_ ?_
         · first | omega | decide | (simp (disch := omega) only [wkW, Int.reduceToNat, Int.reducePow] <;> omega) | (simp <;> omega))
      | (simp (disch := omega) only [wkW, Int.reduceToNat, Int.reducePow])
      | fail
    rw [← hs]; rfl
  | succ n =>
    have e1 : (((n + 1 : Nat) : Int) - 1) = n := by omega
    repeat' first
      | (with_reducible first | refine PW.seq ?_ | refine PW.block ?_ | refine PW.fork ?_ | refine PW.skip ?_ | refine PW.exit ?_ | refine PW.ret ?_)
      | (with_reducible refine PW.region ttOk ?_ ?_
         · rfl)
      | (with_reducible refine PW.regionD ttOk mixed ?_ ?_ ?_
         · rfl
         · rfl)
      | (with_reducible refine ifW_dec (fun g => ?_) (fun g => ?_) <;> first | (exfalso; omega) | (simp -dsimp only [g, wkI]))
      | (with_reducible refine condE_dec (fun g => ?_) (fun g => ?_) <;> try (exfalso; omega))
      | (with_reducible refine condE_not (fun g => ?_) (fun g => ?_) <;> try (exfalso; omega))
      | (simp -dsimp only [↓wkA, wkB, ↓tt, Nat.reduceBEq, Nat.reduceEqDiff, ↓reduceIte, Nat.reduceLT, Array.toList, Nat.reduceAdd, Nat.reduceMul, Int.reduceToNat, Int.reducePow, UInt8.reduceToNat])
      | (simp -dsimp (disch := first | assumption | omega) only [dec_t, dec_f])
      | (refine And.intro ?_ ?_
         · first | omega | decide | (simp (disch := omega) only [wkW, Int.reduceToNat, Int.reducePow] <;> omega) | (simp <;> omega))
      | (simp (disch := omega) only [wkW, Int.reduceToNat, Int.reducePow])
      | fail
    all_goals simp (disch := omega) only [e1, Int.toNat_natCast, wkW, Int.reduceToNat, Int.reducePow] at *
    · have h2 : sizeN l n = size l := by rw [← hs, sizeN, if_pos (by assumption)]
      exact Again.mk n [(3, .int .i64 n), (0, .ints .u64 l)] ⟨0, [], [], []⟩ (by omega) (Sub.frame ⟨rfl, rfl, trivial⟩) ⟨by omega, h2, rfl, rfl⟩
    · rw [← hs, sizeN, if_neg (by assumption)]

theorem nat_big (l : List Int) (hl : l.length ≤ 9223372036854775807) : Meets Tryd.prog 16 [.ints .u64 l] (.bool (decide (4096 < size l))) := by
  refine meets_by ttOk Tryd.func16 Tryd.ntmps16 Tryd.results16 (by kernel_rfl) (c := _) rfl rfl rfl fun E => ?_
  simp only [argsFrame]
  repeat' first
    | (with_reducible first | refine PW.seq ?_ | refine PW.block ?_ | refine PW.fork ?_ | refine PW.skip ?_ | refine PW.exit ?_ | refine PW.ret ?_)
    | (with_reducible refine PW.region ttOk ?_ ?_
       · rfl)
    | (with_reducible refine PW.regionD ttOk mixed ?_ ?_ ?_
       · rfl
       · rfl)
    | (with_reducible refine ifW_dec (fun g => ?_) (fun g => ?_) <;> first | (exfalso; omega) | (simp -dsimp only [g, wkI]))
    | (with_reducible refine condE_dec (fun g => ?_) (fun g => ?_) <;> try (exfalso; omega))
    | (with_reducible refine condE_not (fun g => ?_) (fun g => ?_) <;> try (exfalso; omega))
    | (simp -dsimp only [↓wkA, wkB, ↓tt, Nat.reduceBEq, Nat.reduceEqDiff, ↓reduceIte, Nat.reduceLT, Array.toList, Nat.reduceAdd, Nat.reduceMul, Int.reduceToNat, Int.reducePow, UInt8.reduceToNat])
    | (refine call_by (nat_size _ (by first | assumption | omega)) (views_data rfl) ⟨trivial, trivial⟩ rfl ?_)
    | (simp -dsimp (disch := first | assumption | omega) only [dec_t, dec_f])
    | (refine And.intro ?_ ?_
       · first | omega | decide | (simp (disch := omega) only [wkW, Int.reduceToNat, Int.reducePow] <;> omega) | (simp <;> omega))
    | (simp (disch := omega) only [wkW, Int.reduceToNat, Int.reducePow])
    | fail
  simp only [PV.bool.injEq, decide_eq_decide]; omega

theorem nat_cut (l : List Int) (hl : l.length ≤ 9223372036854775807) : Meets Tryd.prog 20 [.ints .u64 l] (.tup (if 4096 < size l then [.nil, .int .i64 2] else [.ints .u64 (trim l), .int .i64 0])) := by
  refine meets_by ttOk Tryd.func20 Tryd.ntmps20 Tryd.results20 (by kernel_rfl) (c := _) rfl rfl rfl fun E => ?_
  simp only [argsFrame]
  have hsz := size_le l
  repeat' first
    | (with_reducible first | refine PW.seq ?_ | refine PW.block ?_ | refine PW.fork ?_ | refine PW.skip ?_ | refine PW.exit ?_ | refine PW.ret ?_)
    | (with_reducible refine PW.region ttOk ?_ ?_
       · rfl)
    | (with_reducible refine PW.regionD ttOk mixed ?_ ?_ ?_
       · rfl
       · rfl)
    | (with_reducible refine ifW_dec (fun g => ?_) (fun g => ?_) <;> first | (exfalso; omega) | (simp -dsimp only [g, wkI]))
    | (with_reducible refine condE_dec (fun g => ?_) (fun g => ?_) <;> try (exfalso; omega))
    | (with_reducible refine condE_not (fun g => ?_) (fun g => ?_) <;> try (exfalso; omega))
    | (simp -dsimp only [↓wkA, wkB, ↓tt, Nat.reduceBEq, Nat.reduceEqDiff, ↓reduceIte, Nat.reduceLT, Array.toList, Nat.reduceAdd, Nat.reduceMul, Int.reduceToNat, Int.reducePow, UInt8.reduceToNat])
    | (refine call_by (nat_size _ (by first | assumption | omega)) (views_data rfl) ⟨trivial, trivial⟩ rfl ?_)
    | (simp -dsimp (disch := first | assumption | omega) only [dec_t, dec_f])
    | (refine And.intro ?_ ?_
       · first | omega | decide | (simp (disch := omega) only [wkW, Int.reduceToNat, Int.reducePow] <;> omega) | (simp <;> omega))
    | (simp (disch := omega) only [wkW, Int.reduceToNat, Int.reducePow])
    | fail
  · rw [if_pos (by omega)]
  · rw [if_neg (by omega)]; rfl

theorem nat_trim (l : List Int) (hl : l.length ≤ 17592186043904) : Meets Tryd.prog 38 [.ints .u64 l] (.ints .u64 (trim l)) := by
  refine meets_by ttOk Tryd.func38 Tryd.ntmps38 Tryd.results38 (by kernel_rfl) (c := _) rfl rfl rfl fun E => ?_
  simp only [argsFrame]
  have hsz := size_le l
  repeat' first
    | (with_reducible first | refine PW.seq ?_ | refine PW.block ?_ | refine PW.fork ?_ | refine PW.skip ?_ | refine PW.exit ?_ | refine PW.ret ?_)
    | (with_reducible refine PW.region ttOk ?_ ?_
       · rfl)
    | (with_reducible refine PW.regionD ttOk mixed ?_ ?_ ?_
       · rfl
       · rfl)
    | (with_reducible refine ifW_dec (fun g => ?_) (fun g => ?_) <;> first | (exfalso; omega) | (simp -dsimp only [g, wkI]))
    | (with_reducible refine condE_dec (fun g => ?_) (fun g => ?_) <;> try (exfalso; omega))
    | (with_reducible refine condE_not (fun g => ?_) (fun g => ?_) <;> try (exfalso; omega))
    | (simp -dsimp only [↓wkA, wkB, ↓tt, Nat.reduceBEq, Nat.reduceEqDiff, ↓reduceIte, Nat.reduceLT, Array.toList, Nat.reduceAdd, Nat.reduceMul, Int.reduceToNat, Int.reducePow, UInt8.reduceToNat])
    | (refine call_by (nat_size _ (by first | assumption | omega)) (views_data rfl) ⟨trivial, trivial⟩ rfl ?_)
    | (simp -dsimp (disch := first | assumption | omega) only [dec_t, dec_f])
    | (refine And.intro ?_ ?_
       · first | omega | decide | (simp (disch := omega) only [wkW, Int.reduceToNat, Int.reducePow] <;> omega) | (simp <;> omega))
    | (simp (disch := omega) only [wkW, Int.reduceToNat, Int.reducePow])
    | fail
  rw [List.length_take, Nat.min_eq_left (by omega : size l ≤ l.length), Nat.min_self, List.take_take, Nat.min_self, List.drop_of_length_le (by simp), List.append_nil, List.take_take, Nat.min_self]
  rfl
end Go.Proofs.YtjfakpogfakicaaDoor


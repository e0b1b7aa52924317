import Derived.Test.YtjfakpogfakicaaDoorN1
set_option linter.unusedVariables false
set_option linter.unusedSimpArgs false
namespace Go.Proofs.YtjfakpogfakicaaDoor
open Go Go.PV

/-- Trim hands back memory of its caller's own. -/
theorem nat_trim_h (l : List Int) (hl : l.length ≤ 17592186043904) (nx : Nat) (rows : List (Nat × PV.Row)) (g : List PV.Frame) (ty : List (Nat × TypeId)) :
    HMeets Tryd.prog 38 [.ints .u64 l] ⟨nx, rows, g, ty⟩ fun res H' => res = .sl nx 0 (size l) true ∧ H' = ⟨nx + 1, setRow rows nx (.ints .u64 (trim l)), g, (nx, 38) :: ty⟩ := by
  refine hmeets_by ttOk Tryd.func38 Tryd.ntmps38 Tryd.results38 (by kernel_rfl) (c := _) rfl rfl fun E => ?_
  simp only [argsFrame]
  have hsz := size_le l
  repeat' first
    | (with_reducible first | refine PW.seq ?_ | refine PW.block ?_ | refine PW.fork ?_ | refine PW.skip ?_ | refine PW.exit ?_ | refine PW.ret ?_)
    | (with_reducible refine PW.region ttOk ?_ ?_
       · rfl)
    | (with_reducible refine PW.regionD ttOk mixed ?_ ?_ ?_
       · rfl
       · rfl)
    | (with_reducible refine ifW_dec (fun g => ?_) (fun g => ?_) <;> first | (exfalso; omega) | (simp -dsimp only [g, wkI]))
    | (with_reducible refine condE_dec (fun g => ?_) (fun g => ?_) <;> try (exfalso; omega))
    | (with_reducible refine condE_not (fun g => ?_) (fun g => ?_) <;> try (exfalso; omega))
    | (simp -dsimp only [getRow_setRow_self, Go.PV.setRow_setRow, ↓wkA, wkB, ↓tt, Nat.reduceBEq, Nat.reduceEqDiff, ↓reduceIte, Nat.reduceLT, Array.toList, Nat.reduceAdd, Nat.reduceMul, Int.reduceToNat, Int.reducePow, UInt8.reduceToNat])
    | (refine call_by (nat_size _ (by first | assumption | omega)) (views_data rfl) ⟨trivial, trivial⟩ rfl ?_)
    | (simp -dsimp (disch := first | assumption | omega) only [dec_t, dec_f])
    | (refine And.intro ?_ ?_
       · first | omega | decide | (simp (disch := omega) only [wkW, Int.reduceToNat, Int.reducePow] <;> omega) | (simp <;> omega))
    | (simp (disch := omega) only [wkW, Int.reduceToNat, Int.reducePow])
    | fail
  have e : List.take (min (List.take (size l) l).length (size l)) (List.take (size l) l) ++ List.drop (min (List.take (size l) l).length (size l)) (List.replicate (size l) 0) = trim l := by
    rw [List.length_take, Nat.min_eq_left (by omega : size l ≤ l.length), Nat.min_self, List.take_take, Nat.min_self, List.drop_of_length_le (by simp), List.append_nil]
    rfl
  rw [e]
end Go.Proofs.YtjfakpogfakicaaDoor


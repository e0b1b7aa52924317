import Derived.Test.YtmoigffjpijpaabVD
import Derived.Test.YtmoigffjpijpaabW10
set_option linter.unusedVariables false
set_option linter.unusedSimpArgs false
namespace Go.Proofs.Ytmoigffjpijpaab
open Go Go.PV

structure Ask where
  (v f w p : Int)
  neg : Bool
  n : List Int
  u : Int
  t : List Int

def Ask.pv (a : Ask) : PV := .agg [.int .u8 a.v, .int .i64 a.f, .int .i64 a.w, .int .i64 a.p, .bool a.neg, .ints .u64 a.n, .int .u64 a.u, .str a.t]

/-- What memory bears. -/
structure Ask.Ok (a : Ask) : Prop where
  v : 0 ≤ a.v ∧ a.v < 256
  f : -9223372036854775808 ≤ a.f ∧ a.f ≤ 9223372036854775807
  w : -9223372036854775808 ≤ a.w ∧ a.w ≤ 9223372036854775807
  p : -9223372036854775808 ≤ a.p ∧ a.p ≤ 9223372036854775807
  n : ∀ x ∈ a.n, 0 ≤ x ∧ x < 18446744073709551616
  nl : a.n.length * 8 ≤ 140737488351232
  u : 0 ≤ a.u ∧ a.u < 18446744073709551616
  t : a.t.length ≤ 140737488351232

theorem asks_get {asks : List Ask} {i : Nat} (h : i < asks.length) : ∃ a ∈ asks, (asks.map Ask.pv).getD i .undef = a.pv := by
  refine ⟨asks[i], List.getElem_mem h, ?_⟩
  rw [List.getD_eq_getElem?_getD, List.getElem?_map, List.getElem?_eq_getElem h]
  rfl

end Go.Proofs.Ytmoigffjpijpaab


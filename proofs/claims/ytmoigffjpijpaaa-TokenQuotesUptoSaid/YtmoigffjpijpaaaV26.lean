/- Pure values, part 26: bits as numbers. -/
import Derived.Test.YtmoigffjpijpaaaV25
set_option linter.unusedVariables false
set_option linter.unusedSimpArgs false
namespace Go.PV
open Go Go.RowKit

theorem and_mask {a : Nat} (m : Nat) : a &&& (2 ^ m - 1) = a % 2 ^ m := Nat.and_two_pow_sub_one_eq_mod a m

theorem ibits_and_u8 {a b : Int} (ha : 0 ≤ a ∧ a ≤ 255) (hb : 0 ≤ b ∧ b ≤ 255) : ibits .and .u8 a b = ((a.toNat &&& b.toNat : Nat) : Int) := by
  change IntKind.wrap .u8 (((BitVec.ofInt 8 a &&& BitVec.ofInt 8 b).toNat : Nat) : Int) = _
  rw [BitVec.toNat_and, BitVec.toNat_ofInt, BitVec.toNat_ofInt]
  have e1 : (a % ((2 ^ 8 : Nat) : Int)).toNat = a.toNat := by rw [Int.emod_eq_of_lt ha.1 (by simp; omega)]
  have e2 : (b % ((2 ^ 8 : Nat) : Int)).toNat = b.toNat := by rw [Int.emod_eq_of_lt hb.1 (by simp; omega)]
  rw [e1, e2]
  refine wrap_u8 ⟨by omega, ?_⟩
  have := Nat.and_le_left (n := a.toNat) (m := b.toNat)
  omega

theorem ibits_and_u64 {a b : Int} (ha : 0 ≤ a ∧ a ≤ 18446744073709551615) (hb : 0 ≤ b ∧ b ≤ 18446744073709551615) : ibits .and .u64 a b = ((a.toNat &&& b.toNat : Nat) : Int) := by
  change IntKind.wrap .u64 (((BitVec.ofInt 64 a &&& BitVec.ofInt 64 b).toNat : Nat) : Int) = _
  rw [BitVec.toNat_and, BitVec.toNat_ofInt, BitVec.toNat_ofInt]
  have e1 : (a % ((2 ^ 64 : Nat) : Int)).toNat = a.toNat := by rw [Int.emod_eq_of_lt ha.1 (by simp; omega)]
  have e2 : (b % ((2 ^ 64 : Nat) : Int)).toNat = b.toNat := by rw [Int.emod_eq_of_lt hb.1 (by simp; omega)]
  rw [e1, e2]
  refine wrap_u64 ⟨by omega, ?_⟩
  have := Nat.and_le_left (n := a.toNat) (m := b.toNat)
  omega

theorem and7_u8 {a : Int} (ha : 0 ≤ a ∧ a ≤ 255) : ibits .and .u8 a 7 = a % 8 := by
  rw [ibits_and_u8 ha (by omega)]
  have h := and_mask (a := a.toNat) 3
  simp only [Nat.reducePow, Nat.reduceSub] at h
  rw [show (7 : Int).toNat = 7 from rfl, h]
  omega

theorem fdiv_pos {a b : Int} (hb : 0 ≤ b) : a.fdiv b = a / b := Int.fdiv_eq_ediv_of_nonneg a hb
theorem tdiv_pos {a b : Int} (ha : 0 ≤ a) : a.tdiv b = a / b := Int.tdiv_eq_ediv_of_nonneg ha
theorem tmod_pos {a b : Int} (ha : 0 ≤ a) : a.tmod b = a % b := Int.tmod_eq_emod_of_nonneg ha
/-- A contract, as the rows' proofs want it. -/
theorem Meets.calls {P : Program} {f : FuncId} {fn : Func} {c : Code} {args : List PV} {res : PV} (hm : Meets P f args res) (hf : P.funcs[f]? = some fn) (hname : (fn.name == "runtime.NumGoroutine") = false) (hb : fn.body = some c) (w : World) (vs : Array Value)
    (hl : args.length = vs.size) (ha : ∀ i, i < args.length → RD w (fun _ => False) (args.getD i .undef) (vs.getD i undef)) : Calls P f vs w fun e w' => ∃ v, e = .returned v ∧ Back w (fun _ => False) res v w' := by
  rcases hm w (fun _ => False) vs (fun b h => h.elim) hl ha with ⟨_, h⟩ | ⟨v, w', h, _⟩
  · exact h
  · rw [call_enters hf hname hb] at h; cases h

theorem back_true {w w' : World} {A : Nat → Prop} {b : Bool} {v : Value} (h : Back w A (.bool b) v w') : v = .bool b ∧ Below w.heap.size w w' := by
  obtain ⟨h1, h2⟩ := h
  cases h2
  exact ⟨rfl, h1⟩

theorem bytesI_bytes (s : ByteArray) : ∀ c ∈ bytesI s, 0 ≤ c ∧ c < 256 := by
  intro c hc
  unfold bytesI at hc
  obtain ⟨b, _, rfl⟩ := List.mem_map.1 hc
  have := b.toNat_lt
  omega

/-- The i-th of few. -/
theorem args1 {w : World} {ow : Nat → Prop} {p : PV} {v : Value} (h : RD w ow p v) : ∀ i, i < [p].length → RD w ow ([p].getD i .undef) (#[v].getD i undef) := by
  intro i hi
  have : i = 0 := by simp at hi; exact hi
  subst this
  exact h
end Go.PV

import Derived.Test.YtmoigffjpijpaabG2
set_option linter.unusedVariables false
set_option linter.unusedSimpArgs false
namespace Go.Proofs.Ytmoigffjpijpaab
open Go Go.PV

/-- The greatest power of the base below 2^31. -/
theorem group_ex (b : Nat) (hb : 2 ≤ b ∧ b ≤ 36) : ∃ k, 1 ≤ k ∧ k ≤ 31 ∧ b ^ k < 2147483648 ∧ 2147483648 ≤ b ^ (k + 1) ∧ ∀ m, m < k → b ^ (m + 1) < 2147483648 := by
  have h64 : 2147483648 ≤ b ^ (30 + 1) := Nat.le_trans (by decide : 2147483648 ≤ 2 ^ 31) (Nat.pow_le_pow_left hb.1 31)
  obtain ⟨k, hk, hmin⟩ := least_of (fun n => 2147483648 ≤ b ^ (n + 1)) 30 h64
  have hk63 : k ≤ 30 := by
    rcases Nat.lt_or_ge 30 k with h | h
    · exact absurd h64 (hmin 30 h)
    · exact h
  have hk0 : k ≠ 0 := by
    rintro rfl
    rw [Nat.zero_add, Nat.pow_one] at hk; omega
  refine ⟨k, by omega, by omega, ?_, hk, fun m hm => by have := hmin m hm; omega⟩
  have := hmin (k - 1) (by omega)
  rw [show k - 1 + 1 = k by omega] at this
  omega

def GrI (b k : Nat) (n : Nat) (F : PV.Frame) (H : PV.Heap) : Prop :=
  ∃ i : Nat, i + n = k ∧ F = [(5, .int .u64 ((b ^ i : Nat) : Int)), (4, .int .i64 (i : Int)), (0, .int .i64 (b : Int))] ∧ H = ⟨0, [], [], []⟩

theorem letter_is (u : Bool) (d : Nat) (hd : d < 36) : letter u d = if d < 10 then 48 + (d : Int) else if u then 65 + (d : Int) - 10 else 97 + (d : Int) - 10 := by
  cases u
  · exact (by decide : ∀ d : Fin 36, letter false d.val = if d.val < 10 then 48 + (d.val : Int) else if false then 65 + (d.val : Int) - 10 else 97 + (d.val : Int) - 10) ⟨d, hd⟩
  · exact (by decide : ∀ d : Fin 36, letter true d.val = if d.val < 10 then 48 + (d.val : Int) else if true then 65 + (d.val : Int) - 10 else 97 + (d.val : Int) - 10) ⟨d, hd⟩

end Go.Proofs.Ytmoigffjpijpaab


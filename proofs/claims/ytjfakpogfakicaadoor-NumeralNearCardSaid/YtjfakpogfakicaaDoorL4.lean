import Derived.Test.YtjfakpogfakicaaDoorL2
set_option linter.unusedVariables false
set_option linter.unusedSimpArgs false
namespace Go.Proofs.YtjfakpogfakicaaDoor
open Go Go.PV

def valueOf (c : Int) : Int := if 48 ≤ c ∧ c ≤ 57 then c - 48 else if 97 ≤ c ∧ c ≤ 122 then c - 97 + 10 else if 65 ≤ c ∧ c ≤ 90 then c - 65 + 10 else 99

theorem value_worth (c base : Int) (h : base ≤ 36) : base ≤ valueOf c ↔ base ≤ worth c := by
  unfold valueOf worth
  repeat' split
  all_goals omega

def lower (c : Int) : Int := if 65 ≤ c ∧ c ≤ 90 then c - 65 + 97 else c

/-- What plain holds behind i bytes. -/
def pl (s : List Int) : Nat → List Int
  | 0 => []
  | i + 1 => if lower (s.getD i 0) ≠ 48 ∨ pl s i ≠ [] ∨ i + 1 = s.length then pl s i ++ [lower (s.getD i 0)] else pl s i

theorem pl_len (s : List Int) : ∀ i, (pl s i).length ≤ i
  | 0 => Nat.le_refl _
  | i + 1 => by
    have := pl_len s i
    simp only [pl]
    split <;> simp <;> omega

theorem lower_byte {c : Int} (hc : 0 ≤ c ∧ c < 256) : 0 ≤ lower c ∧ lower c < 256 := by
  unfold lower; split <;> omega

theorem pl_bytes {s : List Int} (hs : Bytes' s) : ∀ i, i ≤ s.length → Bytes' (pl s i)
  | 0, _ => fun x hx => by cases hx
  | i + 1, h => by
    have ih := pl_bytes hs i (by omega)
    simp only [pl]
    split
    · intro x hx
      rcases List.mem_append.1 hx with h1 | h1
      · exact ih x h1
      · rw [List.mem_singleton] at h1; subst h1
        exact lower_byte (getD_byte' hs (by omega))
    · exact ih

abbrev plF (s : List Int) (i n : Nat) : PV.Frame := [(4, .int .i64 (i : Int)), (3, .sl 0 0 n true), (0, .str s)]

end Go.Proofs.YtjfakpogfakicaaDoor


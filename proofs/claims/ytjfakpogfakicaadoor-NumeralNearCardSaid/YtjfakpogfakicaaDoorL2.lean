import Derived.Test.YtjfakpogfakicaaDoorL1
set_option linter.unusedVariables false
set_option linter.unusedSimpArgs false
namespace Go.Proofs.YtjfakpogfakicaaDoor
open Go Go.PV

theorem from_base_ok {s : List Int} (hs : Bytes' s) (hsl : s.length ≤ 1000000000000000) {b : Nat} (hb : 2 ≤ b ∧ b ≤ 36) (hne : s ≠ []) (hok : ∀ j, j < s.length → worth (s.getD j 0) < b) (hv : ((num b s : Nat) : Int) < B64 ^ 4096) :
    Meets Tryd.prog 15 [.str s, .int .i64 (b : Int)] (.tup [.ints .u64 (natL (num b s)), .int .i64 0, .int .i64 0]) :=
  from_base_main s hs hsl b hb hne hok _ (fun _ => rfl) (fun h => absurd hv h)
/-- What is written is read back. -/
theorem back_ok {a : List Int} (ha : Limbs a) {b : Nat} (hb : 2 ≤ b ∧ b ≤ 36) (u : Bool) (h : size a ≤ 4096) :
    Meets Tryd.prog 15 [.str (written b u (val a).toNat), .int .i64 (b : Int)] (.tup [.ints .u64 (trim a), .int .i64 0, .int .i64 0]) := by
  have hn := val_nonneg ha
  have hw := written_num hb u (val a).toNat
  have := from_base_ok (written_bytes hb u (val a).toNat) (by have := written_len ha h hb.1 u; omega) hb (written_ne hb u _) (fun j hj => by
    obtain ⟨d, hd, e⟩ := written_digit hb u _ j hj
    rw [e, (letter_all u ⟨d, by omega⟩).1]
    simp only
    omega) (by rw [hw]; have := val_small ha h; omega)
  rw [hw, ← trim_eq ha] at this
  exact this
end Go.Proofs.YtjfakpogfakicaaDoor


import Derived.Test.YtmoigffjpijpaabDoorN4
set_option linter.unusedVariables false
set_option linter.unusedSimpArgs false
namespace Go.Proofs.YtmoigffjpijpaabDoor
open Go Go.PV

theorem vt_inj {a b : List Int} (ha : Limbs a) (hb : Limbs b) : ∀ n, vt a n = vt b n → ∀ j, j < n → a.getD j 0 = b.getD j 0
  | 0, _, j, h => by omega
  | n + 1, h, j, hj => by
    have e : a.getD n 0 = b.getD n 0 := by
      rcases Int.lt_trichotomy (a.getD n 0) (b.getD n 0) with h1 | h1 | h1
      · have := vt_top ha hb h1 (n + 1) (by omega) fun j h1 h2 => by omega
        omega
      · exact h1
      · have := vt_top hb ha h1 (n + 1) (by omega) fun j h1 h2 => by omega
        omega
    by_cases hjn : j = n
    · subst hjn; exact e
    · simp only [vt, e] at h
      exact vt_inj ha hb n (by omega) j (by omega)

theorem val_inj {a b : List Int} (ha : Limbs a) (hb : Limbs b) (hl : a.length = b.length) (h : val a = val b) : a = b := by
  refine List.ext_getElem hl fun i h1 h2 => ?_
  have := vt_inj ha hb a.length (by unfold val at h; rw [h, hl]) i h1
  simpa [List.getD_eq_getElem?_getD, List.getElem?_eq_getElem h1, List.getElem?_eq_getElem h2] using this

/-- n limbs of a number. -/
def limbsOf (n v : Nat) : List Int := (List.range n).map fun i => ((v / 18446744073709551616 ^ i % 18446744073709551616 : Nat) : Int)
theorem limbsOf_length (n v : Nat) : (limbsOf n v).length = n := by simp [limbsOf]
theorem limbsOf_limbs (n v : Nat) : Limbs (limbsOf n v) := by
  intro x hx
  obtain ⟨i, _, rfl⟩ := List.mem_map.1 hx
  have := Nat.mod_lt (v / 18446744073709551616 ^ i) (show 18446744073709551616 > 0 by decide)
  omega
theorem limbsOf_getD {n v i : Nat} (h : i < n) : (limbsOf n v).getD i 0 = ((v / 18446744073709551616 ^ i % 18446744073709551616 : Nat) : Int) := by
  unfold limbsOf; rw [List.getD_eq_getElem?_getD, List.getElem?_map, List.getElem?_range h]; simp only [Option.map_some, Option.getD_some]
theorem limbsOf_vt (n v : Nat) : ∀ k, k ≤ n → vt (limbsOf n v) k = ((v % 18446744073709551616 ^ k : Nat) : Int)
  | 0, _ => by simp [vt, Nat.mod_one]
  | k + 1, h => by
    simp only [vt]
    rw [limbsOf_vt n v k (by omega), limbsOf_getD (by omega), Nat.pow_succ, Nat.mod_mul]
    have e : B64 ^ k = ((18446744073709551616 ^ k : Nat) : Int) := by rw [Int.natCast_pow]; rfl
    rw [e]
    generalize 18446744073709551616 ^ k = q
    generalize v / q % 18446744073709551616 = d
    rw [Int.natCast_add, Int.natCast_mul]
theorem limbsOf_val {n v : Nat} (h : v < 18446744073709551616 ^ n) : val (limbsOf n v) = v := by
  unfold val
  rw [limbsOf_length, limbsOf_vt n v n (Nat.le_refl _), Nat.mod_eq_of_lt h]

def MulO (a b : List Int) (n : Nat) (F : PV.Frame) (H : PV.Heap) : Prop :=
  ∃ (i : Nat) (o : List Int), i + n = a.length ∧ MulOut a b o i ∧ F = [(52, .int .i64 i), (51, .int .i64 a.length), (50, .ints .u64 a), (6, .sl 0 0 (a.length + b.length) true), (1, .ints .u64 b), (0, .ints .u64 a)] ∧ H = ⟨1, [(0, .ints .u64 o)], [], []⟩

def MulI (a b o0 : List Int) (i : Nat) (n : Nat) (F : PV.Frame) (H : PV.Heap) : Prop :=
  ∃ (j : Nat) (o : List Int) (c : Int), j + n = b.length ∧ MulIn a b o0 o i j c ∧ F = [(59, .int .i64 j), (58, .int .i64 b.length), (57, .ints .u64 b), (9, .int .u64 c), (8, .int .u64 (a.getD i 0)), (7, .int .i64 i), (52, .int .i64 i), (51, .int .i64 a.length), (50, .ints .u64 a), (6, .sl 0 0 (a.length + b.length) true), (1, .ints .u64 b), (0, .ints .u64 a)] ∧ H = ⟨1, [(0, .ints .u64 o)], [], []⟩

theorem vt_zeros (n : Nat) : ∀ k, vt (List.replicate n 0) k = 0
  | 0 => rfl
  | k + 1 => by
    simp only [vt]
    rw [vt_zeros n k]
    have : (List.replicate n (0 : Int)).getD k 0 = 0 := by simp [List.getD_eq_getElem?_getD, List.getElem?_replicate]; split <;> rfl
    rw [this]; simp

theorem mul_begin (a b : List Int) : MulOut a b (List.replicate (a.length + b.length) 0) 0 :=
  ⟨by simp, fun x hx => by have := List.eq_of_mem_replicate hx; subst this; decide, by rw [vt_zeros]; simp [vt], fun k _ => by simp [List.getD_eq_getElem?_getD, List.getElem?_replicate]; split <;> rfl⟩

end Go.Proofs.YtmoigffjpijpaabDoor


import Derived.Test.YtjfakpogfakicaaDoorL4
set_option linter.unusedVariables false
set_option linter.unusedSimpArgs false
namespace Go.Proofs.YtjfakpogfakicaaDoor
open Go Go.PV

theorem lower_all : ∀ c : Fin 256, worth (c.val : Int) < 36 → lower (c.val : Int) = letter false (worth (c.val : Int)).toNat := by decide +kernel

theorem lower_letter {c : Int} (hc : 0 ≤ c ∧ c < 256) (h : worth c < 36) : lower c = letter false (worth c).toNat := by
  have := lower_all ⟨c.toNat, by omega⟩
  simp only at this
  rw [show ((c.toNat : Nat) : Int) = c by omega] at this
  exact this h

theorem text_next {b : Nat} (hb : 2 ≤ b) (u : Bool) {v d : Nat} (hd : d < b) (h : v * b + d ≠ 0) : text b u (v * b + d) = text b u v ++ [letter u d] := by
  rw [text_step hb u h]
  have e1 : (v * b + d) / b = v := by
    rw [Nat.mul_comm, Nat.mul_add_div (by omega), Nat.div_eq_of_lt hd, Nat.add_zero]
  have e2 : (v * b + d) % b = d := by
    rw [Nat.mul_comm, Nat.mul_add_mod, Nat.mod_eq_of_lt hd]
  rw [e1, e2]

theorem pl_step {b : Nat} (hb : 2 ≤ b ∧ b ≤ 36) {s : List Int} (hs : Bytes' s) (hok : ∀ j, j < s.length → worth (s.getD j 0) < b) {i : Nat} (hi : i < s.length) (h : pl s i = text b false (numN b s i)) :
    pl s (i + 1) = if i + 1 = s.length then written b false (numN b s (i + 1)) else text b false (numN b s (i + 1)) := by
  have hc := getD_byte' hs hi
  have hw := hok i hi
  have hw0 := worth_nonneg (s.getD i 0)
  have hlow := lower_letter hc (by omega)
  have hd : (worth (s.getD i 0)).toNat < b := by omega
  have hl0 := (letter_all false ⟨(worth (s.getD i 0)).toNat, by omega⟩).2.1
  simp only at hl0
  have e : numN b s (i + 1) = numN b s i * b + (worth (s.getD i 0)).toNat := rfl
  have ep : pl s (i + 1) = if lower (s.getD i 0) ≠ 48 ∨ pl s i ≠ [] ∨ i + 1 = s.length then pl s i ++ [lower (s.getD i 0)] else pl s i := rfl
  rw [e, ep, hlow, h]
  generalize (worth (s.getD i 0)).toNat = d at *
  generalize numN b s i = v at *
  by_cases hv : v * b + d = 0
  · have hd0 : d = 0 := by omega
    have hv0 : v = 0 := by
      rcases Nat.eq_zero_or_pos v with h | h
      · exact h
      · have := Nat.mul_pos h (show 0 < b by omega); omega
    subst hd0 hv0
    rw [letter_zero, text_nil]
    by_cases hlast : i + 1 = s.length
    · rw [if_pos (.inr (.inr hlast)), if_pos hlast]
      simp [written]
    · rw [if_neg (by simp [hlast]), if_neg hlast]
      simp [text_nil]
  · rw [text_next hb.1 false hd hv]
    have hne : letter false d ≠ 48 ∨ text b false v ≠ [] ∨ i + 1 = s.length := by
      by_cases h1 : d = 0
      · right; left
        refine text_ne hb.1 false ?_
        rintro rfl
        omega
      · left; exact fun h => h1 (hl0 h)
    rw [if_pos hne]
    split
    · unfold written; rw [if_neg hv, text_next hb.1 false hd hv]
    · rfl

theorem pl_text {b : Nat} (hb : 2 ≤ b ∧ b ≤ 36) {s : List Int} (hs : Bytes' s) (hok : ∀ j, j < s.length → worth (s.getD j 0) < b) : ∀ i, i < s.length → pl s i = text b false (numN b s i)
  | 0, _ => by simp [pl, numN, text_nil]
  | i + 1, h => by
    rw [pl_step hb hs hok (show i < s.length by omega) (pl_text hb hs hok i (by omega)), if_neg (by omega)]

theorem pl_written {b : Nat} (hb : 2 ≤ b ∧ b ≤ 36) {s : List Int} (hs : Bytes' s) (hok : ∀ j, j < s.length → worth (s.getD j 0) < b) (hne : s ≠ []) : pl s s.length = written b false (num b s) := by
  obtain ⟨n, hn⟩ : ∃ n, s.length = n + 1 := ⟨s.length - 1, by have := List.length_pos_iff.2 hne; omega⟩
  have := pl_step hb hs hok (show n < s.length by omega) (pl_text hb hs hok n (by omega))
  rw [if_pos hn.symm] at this
  unfold num
  rw [hn]; exact this

theorem text_lt {b : Nat} (hb : 2 ≤ b) (u : Bool) : ∀ v, v < b ^ (text b u v).length := by
  intro v
  induction v using Nat.strongRecOn with
  | _ v ih =>
    by_cases h0 : v = 0
    · subst h0; exact Nat.pow_pos (by omega)
    · rw [text_step hb u h0, List.length_append, List.length_singleton, Nat.pow_succ]
      have h1 := ih _ (Nat.div_lt_self (by omega) (show 1 < b by omega))
      have h2 := Nat.div_add_mod' v b
      have h3 := Nat.mod_lt v (show b > 0 by omega)
      have h4 : (v / b + 1) * b ≤ b ^ (text b u (v / b)).length * b := Nat.mul_le_mul_right _ h1
      rw [Nat.add_mul, Nat.one_mul] at h4
      omega

set_option exponentiation.threshold 300000 in
theorem text_long {b : Nat} (hb : 2 ≤ b ∧ b ≤ 36) (u : Bool) {v : Nat} (h : ¬ ((v : Nat) : Int) < B64 ^ 4096) : 50000 < (text b u v).length := by
  rcases Nat.lt_or_ge 50000 (text b u v).length with h1 | h1
  · exact h1
  · exfalso
    refine h ?_
    have h2 := text_lt hb.1 u v
    have h3 : b ^ (text b u v).length ≤ 36 ^ 50000 := Nat.le_trans (Nat.pow_le_pow_left hb.2 _) (Nat.pow_le_pow_right (by decide) h1)
    have h4 : 36 ^ 50000 ≤ 2 ^ 262144 := by
      have e1 : 36 ^ 50000 = (36 ^ 25) ^ 2000 := by rw [← Nat.pow_mul]
      have e2 : (2 : Nat) ^ 262144 = (2 ^ 130) ^ 2000 * 2 ^ 2144 := by rw [← Nat.pow_mul, ← Nat.pow_add]
      have e3 : (36 : Nat) ^ 25 ≤ 2 ^ 130 := by decide
      rw [e1, e2]
      exact Nat.le_trans (Nat.pow_le_pow_left e3 2000) (Nat.le_mul_of_pos_right _ (Nat.two_pow_pos _))
    rw [pow4096]
    omega

-- limbs of a number
theorem natL_limbs : ∀ v, Limbs (natL v) := by
  intro v x hx
  unfold natL at hx
  obtain ⟨d, hd, rfl⟩ := List.mem_map.1 hx
  have := digs_lt (b := 18446744073709551616) (by decide) v d hd
  omega

theorem val_natL : ∀ v : Nat, val (natL v) = (v : Int) := by
  intro v
  induction v using Nat.strongRecOn with
  | _ v ih =>
    by_cases h0 : v = 0
    · subst h0; simp [natL, digs_zero, val, vt]
    · have e : natL v = ((v % 18446744073709551616 : Nat) : Int) :: natL (v / 18446744073709551616) := by
        unfold natL
        rw [digs_step (b := 18446744073709551616) (by decide) h0, List.map_cons]
      rw [e, val_cons, ih _ (Nat.div_lt_self (by omega) (by decide))]
      simp only [B64]
      omega

theorem natL_size {v : Nat} (h : ((v : Nat) : Int) < B64 ^ 4096) : size (natL v) ≤ 4096 := by
  have h1 := nrm_bound (nrm_trim (natL_limbs v)) (k := 4096) (by rw [val_trim, val_natL]; exact h)
  rwa [trim_len] at h1

set_option exponentiation.threshold 300000 in
theorem natL_len {v : Nat} (h : ((v : Nat) : Int) < B64 ^ 4096) : (natL v).length ≤ 262144 := by
  unfold natL
  rw [List.length_map]
  refine digs_len (by decide) 262144 v ?_
  rw [pow4096] at h
  omega

theorem from_base_over {s : List Int} (hs : Bytes' s) (hsl : s.length ≤ 1000000000000000) {b : Nat} (hb : 2 ≤ b ∧ b ≤ 36) (hne : s ≠ []) (hok : ∀ j, j < s.length → worth (s.getD j 0) < b) (hv : ¬ ((num b s : Nat) : Int) < B64 ^ 4096) :
    Meets Tryd.prog 15 [.str s, .int .i64 (b : Int)] (.tup [.nil, .int .i64 0, .int .i64 2]) :=
  from_base_main s hs hsl b hb hne hok _ (fun h => absurd h hv) (fun _ => rfl)
end Go.Proofs.YtjfakpogfakicaaDoor


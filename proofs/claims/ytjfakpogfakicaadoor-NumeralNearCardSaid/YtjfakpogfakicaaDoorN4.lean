import Derived.Test.YtjfakpogfakicaaDoorN3
set_option linter.unusedVariables false
set_option linter.unusedSimpArgs false
namespace Go.Proofs.YtjfakpogfakicaaDoor
open Go Go.PV

theorem add64 {x y c : Int} (hx : 0 ≤ x) (hy : 0 ≤ y) (hc : 0 ≤ c ∧ c ≤ 1) : Meets Tryd.prog 19 [.int .u64 x, .int .u64 y, .int .u64 c] (.tup [.int .u64 ((x + y + c) % 18446744073709551616), .int .u64 ((x + y + c) / 18446744073709551616)]) :=
  add64_meets Tryd.func19 (by kernel_rfl) (by kernel_rfl) (by kernel_rfl) (by kernel_rfl) hx hy hc

theorem getD_set (l : List Int) (k j : Nat) (v : Int) (hk : k < l.length) : (l.set k v).getD j 0 = if j = k then v else l.getD j 0 := by
  simp only [List.getD_eq_getElem?_getD, List.getElem?_set]
  by_cases h : k = j
  · subst h; simp [hk]
  · rw [if_neg h, if_neg (fun e => h e.symm)]

theorem vt_congr {a b : List Int} : ∀ n, (∀ j, j < n → a.getD j 0 = b.getD j 0) → vt a n = vt b n := fun n h => vt_same n h

theorem vt_set_ge (l : List Int) (k n : Nat) (v : Int) (hk : k < l.length) (h : n ≤ k) : vt (l.set k v) n = vt l n :=
  vt_same n fun j hj => by rw [getD_set l k j v hk, if_neg (by omega)]

theorem limbs_set {l : List Int} (h : Limbs l) (k : Nat) {v : Int} (hv : 0 ≤ v ∧ v < B64) : Limbs (l.set k v) := fun x hx => by
  rcases List.mem_or_eq_of_mem_set hx with h1 | h1
  · exact h x h1
  · subst h1; exact hv

theorem limbs_take {l : List Int} (h : Limbs l) (n : Nat) : Limbs (l.take n) := fun x hx => h x (List.mem_of_mem_take hx)

/-- What the rounds of a product keep: 'o0': the row when the round of limb i began. -/
structure MulIn (a b o0 o : List Int) (i j : Nat) (c : Int) : Prop where
  len : o.length = a.length + b.length
  lim : Limbs o
  car : 0 ≤ c ∧ c < B64
  eq : vt o (i + j) + B64 ^ (i + j) * c = vt o0 (i + j) + B64 ^ i * (a.getD i 0 * vt b j)
  rest : ∀ k, i + j ≤ k → o.getD k 0 = o0.getD k 0

structure MulOut (a b o : List Int) (i : Nat) : Prop where
  len : o.length = a.length + b.length
  lim : Limbs o
  eq : vt o (i + b.length) = vt a i * vt b b.length
  rest : ∀ k, i + b.length ≤ k → o.getD k 0 = 0

theorem MulIn.start {a b o : List Int} {i : Nat} (h : MulOut a b o i) : MulIn a b o o i 0 0 :=
  ⟨h.len, h.lim, by decide, by simp [vt], fun _ _ => rfl⟩

theorem mul_bound {x y : Int} (hx : 0 ≤ x ∧ x < B64) (hy : 0 ≤ y ∧ y < B64) : 0 ≤ x * y ∧ x * y ≤ 340282366920938463426481119284349108225 :=
  ⟨Int.mul_nonneg hx.1 hy.1, Int.le_trans (Int.mul_le_mul (c := 18446744073709551615) (d := 18446744073709551615) (by simp only [B64] at hx; omega) (by simp only [B64] at hy; omega) hy.1 (by omega)) (by decide)⟩

theorem MulIn.step {a b o0 o : List Int} {i j : Nat} {c s : Int} (h : MulIn a b o0 o i j c) (hi : i < a.length) (hj : j < b.length) (hs : s = a.getD i 0 * b.getD j 0 + o.getD (i + j) 0 + c) (hr : 0 ≤ s / B64 ∧ s / B64 < B64) :
    MulIn a b o0 (o.set (i + j) (s % B64)) i (j + 1) (s / B64) := by
  have hlt : i + j < o.length := by rw [h.len]; omega
  have hmod : 0 ≤ s % B64 ∧ s % B64 < B64 := ⟨Int.emod_nonneg _ (by decide), Int.emod_lt_of_pos _ (by decide)⟩
  refine ⟨by rw [List.length_set, h.len], limbs_set h.lim _ hmod, hr, ?_, fun k hk => ?_⟩
  · have e0 : i + (j + 1) = (i + j) + 1 := by omega
    rw [e0]
    simp only [vt]
    rw [vt_set_ge _ _ _ _ hlt (Nat.le_refl _), getD_set _ _ _ _ hlt, if_pos rfl, Int.pow_succ]
    have hsum : B64 * (s / B64) + s % B64 = s := Int.mul_ediv_add_emod s B64
    have h1 := h.eq
    have h2 := h.rest (i + j) (Nat.le_refl _)
    have e1 : B64 ^ (i + j) = B64 ^ i * B64 ^ j := Int.pow_add _ _ _
    rw [← h2]
    generalize s / B64 = q at *
    generalize s % B64 = r at *
    generalize vt o (i + j) = A at *
    generalize vt o0 (i + j) = A0 at *
    generalize o.getD (i + j) 0 = d at *
    generalize a.getD i 0 = x at *
    generalize b.getD j 0 = y at *
    generalize vt b j = V at *
    rw [e1] at *
    generalize B64 ^ i = p at *
    generalize B64 ^ j = t at *
    generalize B64 = B at *
    grind
  · rw [getD_set _ _ _ _ hlt, if_neg (by omega)]
    exact h.rest k (by omega)

theorem MulIn.fin {a b o0 o : List Int} {i : Nat} {c : Int} (h0 : MulOut a b o0 i) (h : MulIn a b o0 o i b.length c) (hi : i < a.length) : MulOut a b (o.set (i + b.length) c) (i + 1) := by
  have hlt : i + b.length < o.length := by rw [h.len]; omega
  refine ⟨by rw [List.length_set, h.len], limbs_set h.lim _ h.car, ?_, fun k hk => ?_⟩
  · have e0 : i + 1 + b.length = (i + b.length) + 1 := by omega
    rw [e0]
    simp only [vt]
    rw [vt_set_ge _ _ _ _ hlt (Nat.le_refl _), getD_set _ _ _ _ hlt, if_pos rfl]
    have h1 := h.eq
    have h2 := h0.eq
    rw [h1, h2]
    generalize B64 ^ i = p at *
    generalize a.getD i 0 = x at *
    generalize vt a i = A at *
    generalize vt b b.length = V at *
    grind
  · rw [getD_set _ _ _ _ hlt, if_neg (by omega), h.rest k (by omega)]
    exact h0.rest k (by omega)
end Go.Proofs.YtjfakpogfakicaaDoor


import Derived.Test.YtjfakpogfakicaaDoorR3
import Derived.Test.YtjfakpogfakicaaDoorK2
import Derived.Test.YtjfakpogfakicaaDoorR1
set_option linter.unusedVariables false
set_option linter.unusedSimpArgs false
namespace Go.Proofs.YtjfakpogfakicaaDoor
open Go Go.PV

set_option exponentiation.threshold 300000 in
theorem nmax_pos : 0 < NMax := Nat.pow_pos (by decide)

theorem shl_zero (n : Nat) (hn : n ≤ 9223372036854775807) : Meets Tryd.prog 11 [.ints .u64 [], .int .i64 (n : Int)] (.tup [.ints .u64 [], .int .i64 0]) := by
  have s1 := size_as (a := []) (by decide) rfl
  have b1 := big_as (a := []) (by decide) rfl
  refine Meets.nil_head .u64 ?_
  refine meets_by ttOk Tryd.func11 Tryd.ntmps11 Tryd.results11 (by kernel_rfl) (c := _) rfl rfl rfl fun E => ?_
  simp only [argsFrame]
  repeat' first
    | (with_reducible first | refine PW.seq ?_ | refine PW.block ?_ | refine PW.fork ?_ | refine PW.skip ?_ | refine PW.exit ?_ | refine PW.ret ?_)
    | (with_reducible refine PW.region ttOk ?_ ?_
       · rfl)
    | (with_reducible refine PW.regionD ttOk mixed ?_ ?_ ?_
       · rfl
       · rfl)
    | (with_reducible refine ifW_dec (fun g => ?_) (fun g => ?_) <;> first | (exfalso; omega) | (simp -dsimp only [g, wkI]))
    | (with_reducible refine condE_dec (fun g => ?_) (fun g => ?_) <;> try (exfalso; omega))
    | (with_reducible refine condE_not (fun g => ?_) (fun g => ?_) <;> try (exfalso; omega))
    | (simp -dsimp only [↓wkA, wkB, ↓tt, Nat.reduceBEq, Nat.reduceEqDiff, ↓reduceIte, Nat.reduceLT, Array.toList, Nat.reduceAdd, Nat.reduceMul, Int.reduceToNat, Int.reducePow, UInt8.reduceToNat])
    | (refine call_by b1 (views_data rfl) ⟨trivial, trivial⟩ rfl ?_)
    | (refine call_by s1 (views_data rfl) ⟨trivial, trivial⟩ rfl ?_)
    | (simp -dsimp (disch := first | assumption | omega) only [dec_t, dec_f])
    | (refine And.intro ?_ ?_
       · first | omega | decide | (simp (disch := omega) only [wkW, Int.reduceToNat, Int.reducePow] <;> omega) | (simp <;> omega))
    | (simp (disch := omega) only [wkW, Int.reduceToNat, Int.reducePow])
    | fail

theorem shl_nat {u n : Nat} (hu : u < NMax) (hn : n ≤ 262144) (h : u * 2 ^ n < NMax) : Meets Tryd.prog 11 [.ints .u64 (natL u), .int .i64 (n : Int)] (.tup [.ints .u64 (natL (u * 2 ^ n)), .int .i64 0]) := by
  by_cases h0 : u = 0
  · subst h0
    rw [Nat.zero_mul, natL_zero]
    exact shl_zero n (by omega)
  · refine shl_list _ (natL_limbs u) (natL_small hu) (size_natL u) (fun e => h0 (natL_len0.1 e)) n (n / 64) (n % 64) hn rfl rfl _ ?_ h
    rw [val_natL]
    have e : (2 : Nat) ^ n = 2 ^ (n % 64) * 18446744073709551616 ^ (n / 64) := by
      rw [show (18446744073709551616 : Nat) = 2 ^ 64 from rfl, ← Nat.pow_mul, ← Nat.pow_add, show n % 64 + 64 * (n / 64) = n by omega]
    rw [e, Int.natCast_mul, Int.natCast_mul, Int.natCast_pow, Int.natCast_pow]
    simp only [B64]
    grind

theorem digs_getD {b : Nat} (hb : 2 ≤ b) : ∀ (k v : Nat), (digs b v).getD k 0 = v / b ^ k % b
  | 0, v => by
    by_cases h0 : v = 0
    · subst h0; simp [digs_zero]
    · rw [digs_step hb h0]; simp
  | k + 1, v => by
    by_cases h0 : v = 0
    · subst h0; simp [digs_zero]
    · rw [digs_step hb h0, List.getD_cons_succ, digs_getD hb k (v / b), Nat.div_div_eq_div_mul, Nat.pow_succ, Nat.mul_comm b]
theorem natL_getD (v k : Nat) : (natL v).getD k 0 = ((v / 18446744073709551616 ^ k % 18446744073709551616 : Nat) : Int) := by
  have h := digs_getD (b := 18446744073709551616) (by decide) k v
  rw [← h]
  unfold natL
  rw [List.getD_eq_getElem?_getD, List.getElem?_map, List.getD_eq_getElem?_getD]
  cases (digs 18446744073709551616 v)[k]? <;> rfl

theorem bit_parts (v k p : Nat) (hp : p < 64) : v / 18446744073709551616 ^ k % 18446744073709551616 / 2 ^ p % 2 = v / 2 ^ (64 * k + p) % 2 := by
  have e : (18446744073709551616 : Nat) = 2 ^ p * 2 ^ (64 - p) := by rw [← Nat.pow_add, show p + (64 - p) = 64 by omega]
  rw [Nat.pow_add, ← Nat.div_div_eq_div_mul, Nat.pow_mul]
  have e2 : (2 : Nat) ^ 64 = 18446744073709551616 := rfl
  rw [e2]
  generalize v / 18446744073709551616 ^ k = m
  rw [e, Nat.mod_mul_right_div_self, Nat.mod_mod_of_dvd _ (by rw [show 64 - p = (63 - p) + 1 by omega, Nat.pow_succ]; exact Nat.dvd_mul_left ..)]

theorem nat64 (y : Nat) (h : y < 18446744073709551616) : (y : Int) < 18446744073709551616 := by omega
/-- nat.Bit. -/
theorem bit_nat (v i : Nat) (hv : v < NMax) (hi : i ≤ 1000000000000) : Meets Tryd.prog 12 [.ints .u64 (natL v), .int .i64 (i : Int)] (.int .i64 ((v / 2 ^ i % 2 : Nat) : Int)) := by
  have hl := natL_small hv
  have hlt := natL_lt v
  have hg := natL_getD v (i / 64)
  have hgl := getD_limb (natL_limbs v) (i / 64)
  have hb := bit_parts v (i / 64) (i % 64) (by omega)
  rw [show 64 * (i / 64) + i % 64 = i by omega] at hb
  have e1 : ((i : Int)).tdiv 64 = ((i / 64 : Nat) : Int) := by rw [Int.tdiv_eq_ediv_of_nonneg (by omega)]; omega
  have e2 : ((i : Int)).tmod 64 = ((i % 64 : Nat) : Int) := by rw [Int.tmod_eq_emod_of_nonneg (by omega)]; omega
  have w1 : IntKind.wrap .i64 ((i / 64 : Nat) : Int) = ((i / 64 : Nat) : Int) := wrap_i64 (by omega)
  have w2 : IntKind.wrap .u64 ((i % 64 : Nat) : Int) = ((i % 64 : Nat) : Int) := wrap_u64 (by omega)
  have ez : (natL v).length ≤ i / 64 → v / 2 ^ i % 2 = 0 := fun h => by
    have h1 : 18446744073709551616 ^ (natL v).length ≤ 2 ^ i := by
      rw [show (18446744073709551616 : Nat) = 2 ^ 64 from rfl, ← Nat.pow_mul]
      exact Nat.pow_le_pow_right (by omega) (by omega)
    rw [Nat.div_eq_of_lt (by omega)]
  have e3 : ((natL v).getD (i / 64) 0).fdiv (2 ^ min (i % 64) 64) = ((v / 18446744073709551616 ^ (i / 64) % 18446744073709551616 / 2 ^ (i % 64) : Nat) : Int) := by
    rw [hg, Nat.min_eq_left (by omega), Int.fdiv_eq_ediv_of_nonneg _ (by exact_mod_cast Nat.zero_le _)]
    simp
  have hsm : v / 18446744073709551616 ^ (i / 64) % 18446744073709551616 / 2 ^ (i % 64) < 18446744073709551616 := Nat.lt_of_le_of_lt (Nat.div_le_self _ _) (Nat.mod_lt _ (by decide))
  have e4 := and_low 1 (by omega) (a := ((v / 18446744073709551616 ^ (i / 64) % 18446744073709551616 / 2 ^ (i % 64) : Nat) : Int)) ⟨Int.natCast_nonneg _, nat64 _ hsm⟩
  have e5 : ibits .and .u64 ((v / 18446744073709551616 ^ (i / 64) % 18446744073709551616 / 2 ^ (i % 64) : Nat) : Int) 1 = ((v / 2 ^ i % 2 : Nat) : Int) := by
    rw [← hb]
    refine e4.trans ?_
    simp
  have w3 : IntKind.wrap .i64 ((v / 2 ^ i % 2 : Nat) : Int) = ((v / 2 ^ i % 2 : Nat) : Int) := wrap_i64 (by omega)
  refine meets_by ttOk Tryd.func12 Tryd.ntmps12 Tryd.results12 (by kernel_rfl) (c := _) rfl rfl rfl fun E => ?_
  simp only [argsFrame]
  clear hlt hg hb e4 hsm
  by_cases hk : (natL v).length ≤ i / 64
  · rw [ez hk]
    clear e3 e5 w3 ez
    generalize natL v = a at *
    repeat' first
      | (simp only [e1, w1])
      | (with_reducible first | refine PW.seq ?_ | refine PW.block ?_ | refine PW.fork ?_ | refine PW.skip ?_ | refine PW.exit ?_ | refine PW.ret ?_)
      | (with_reducible refine PW.region ttOk ?_ ?_
         · rfl)
      | (with_reducible refine PW.regionD ttOk mixed ?_ ?_ ?_
         · rfl
         · rfl)
      | (with_reducible refine ifW_dec (fun g => ?_) (fun g => ?_) <;> first | (exfalso; omega) | (simp -dsimp only [g, wkI]))
      | (with_reducible refine condE_dec (fun g => ?_) (fun g => ?_) <;> try (exfalso; omega))
      | (with_reducible refine condE_not (fun g => ?_) (fun g => ?_) <;> try (exfalso; omega))
      | (simp -dsimp only [↓wkA, wkB, ↓tt, Nat.reduceBEq, Nat.reduceEqDiff, ↓reduceIte, Nat.reduceLT, Array.toList, Nat.reduceAdd, Nat.reduceMul, Int.reduceToNat, Int.reducePow, UInt8.reduceToNat])
      | (simp -dsimp (disch := first | assumption | omega) only [dec_t, dec_f])
      | (refine And.intro ?_ ?_
         · first | omega | decide | (simp (disch := omega) only [wkW, Int.reduceToNat, Int.reducePow] <;> omega) | (simp <;> omega))
      | (simp (disch := omega) only [wkW, Int.reduceToNat, Int.reducePow])
      | fail
  · clear ez
    generalize v / 18446744073709551616 ^ (i / 64) % 18446744073709551616 / 2 ^ (i % 64) = y at *
    generalize v / 2 ^ i % 2 = z at *
    generalize natL v = a at *
    repeat' first
      | (simp only [e1, e2, w1, w2, w3, e3, e5, Int.toNat_natCast])
      | (with_reducible first | refine PW.seq ?_ | refine PW.block ?_ | refine PW.fork ?_ | refine PW.skip ?_ | refine PW.exit ?_ | refine PW.ret ?_)
      | (with_reducible refine PW.region ttOk ?_ ?_
         · rfl)
      | (with_reducible refine PW.regionD ttOk mixed ?_ ?_ ?_
         · rfl
         · rfl)
      | (with_reducible refine ifW_dec (fun g => ?_) (fun g => ?_) <;> first | (exfalso; omega) | (simp -dsimp only [g, wkI]))
      | (with_reducible refine condE_dec (fun g => ?_) (fun g => ?_) <;> try (exfalso; omega))
      | (with_reducible refine condE_not (fun g => ?_) (fun g => ?_) <;> try (exfalso; omega))
      | (simp -dsimp only [↓wkA, wkB, ↓tt, Nat.reduceBEq, Nat.reduceEqDiff, ↓reduceIte, Nat.reduceLT, Array.toList, Nat.reduceAdd, Nat.reduceMul, Int.reduceToNat, Int.reducePow, UInt8.reduceToNat])
      | (simp -dsimp (disch := first | assumption | omega) only [dec_t, dec_f])
      | (refine And.intro ?_ ?_
         · first | omega | decide | (simp (disch := omega) only [wkW, Int.reduceToNat, Int.reducePow] <;> omega) | (simp <;> omega))
      | (simp (disch := omega) only [wkW, Int.reduceToNat, Int.reducePow])
      | fail

set_option exponentiation.threshold 300000 in
theorem ten_small {n : Nat} (h : n ≤ 65000) : 10 ^ n < NMax := by
  rw [nmax_two]
  have h1 : 10 ^ n ≤ (2 ^ 4) ^ n := Nat.pow_le_pow_left (by decide) n
  rw [← Nat.pow_mul] at h1
  exact Nat.lt_of_le_of_lt h1 (Nat.pow_lt_pow_right (by decide) (by omega))
/-- numeral.Read of digits. -/
theorem read_nat {s : List Int} (hs : Digs s) (hne : s ≠ []) (hl : s.length ≤ 50000) : Meets Tryd.prog 7 [.str s] (.tup [.ints .u64 (natL (num 10 s)), .int .i64 0, .int .i64 0]) := by
  have hf := from_base_ok (digs_bytes hs) (by omega) (b := 10) (by omega) hne (fun j hj => by have := digs_get hs hj; rw [worth_digit this]; omega) (by
    rw [nmax_int]
    have h1 := num_digs_lt hs
    have h2 := ten_small (n := s.length) (by omega)
    omega)
  refine meets_by ttOk Tryd.func7 Tryd.ntmps7 Tryd.results7 (by kernel_rfl) (c := _) rfl rfl rfl fun E => ?_
  simp only [argsFrame]
  repeat' first
    | (with_reducible first | refine PW.seq ?_ | refine PW.block ?_ | refine PW.fork ?_ | refine PW.skip ?_ | refine PW.exit ?_ | refine PW.ret ?_)
    | (with_reducible refine PW.region ttOk ?_ ?_
       · rfl)
    | (with_reducible refine PW.regionD ttOk mixed ?_ ?_ ?_
       · rfl
       · rfl)
    | (with_reducible refine ifW_dec (fun g => ?_) (fun g => ?_) <;> first | (exfalso; omega) | (simp -dsimp only [g, wkI]))
    | (with_reducible refine condE_dec (fun g => ?_) (fun g => ?_) <;> try (exfalso; omega))
    | (with_reducible refine condE_not (fun g => ?_) (fun g => ?_) <;> try (exfalso; omega))
    | (simp -dsimp only [↓wkA, wkB, ↓tt, Nat.reduceBEq, Nat.reduceEqDiff, ↓reduceIte, Nat.reduceLT, Array.toList, Nat.reduceAdd, Nat.reduceMul, Int.reduceToNat, Int.reducePow, UInt8.reduceToNat])
    | (refine call_by hf (views_data rfl) ⟨trivial, trivial, trivial⟩ rfl ?_)
    | (simp -dsimp (disch := first | assumption | omega) only [dec_t, dec_f])
    | (refine And.intro ?_ ?_
       · first | omega | decide | (simp (disch := omega) only [wkW, Int.reduceToNat, Int.reducePow] <;> omega) | (simp <;> omega))
    | (simp (disch := omega) only [wkW, Int.reduceToNat, Int.reducePow])
    | fail
end Go.Proofs.YtjfakpogfakicaaDoor


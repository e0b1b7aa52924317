/- Contracts and laws that the row leans on, part 6: texts that were built one by one, laid together. -/
import Derived.Test.YtjhkpjddcaglnaaDoorPart5
import Derived.Test.YtjhkpjddcaglnaaDoorPart4
import Derived.Shelf.Spec.TrailingZeros
set_option linter.unusedVariables false
set_option linter.unusedSimpArgs false
namespace Go.Proofs.YtjhkpjddcaglnaaDoor
open Go Go.PV

theorem getD_zeros (n k : Nat) : (List.replicate n (0 : Int)).getD k 0 = 0 := by
  rw [List.getD_eq_getElem?_getD, List.getElem?_replicate]; split <;> rfl
theorem natL_zero : natL 0 = [] := by unfold natL; rw [digs_zero]; rfl
theorem natL_len0 {v : Nat} : (natL v).length = 0 ↔ v = 0 := by
  constructor
  · intro h
    apply Classical.byContradiction
    intro h0
    have := (natL_ge h0).1
    omega
  · rintro rfl; rw [natL_zero]; rfl
theorem natL_mono {u v : Nat} (h : u ≤ v) : (natL u).length ≤ (natL v).length := by
  apply Classical.byContradiction
  intro h1
  have h2 := size_lt_val (natL_limbs v) (natL_limbs u) (by rw [size_natL, size_natL]; omega)
  rw [val_natL, val_natL] at h2
  omega

theorem sub_nat {u v : Nat} (hu : u < NMax) (hv : v < NMax) (h : v ≤ u) : Meets Tryd.prog 16 [.ints .u64 (natL u), .ints .u64 (natL v)] (.tup [.ints .u64 (natL (u - v)), .int .i64 0]) :=
  sub_list _ _ (natL_limbs u) (natL_limbs v) (natL_small hu) (natL_small hv) (size_natL u) (size_natL v) (natL_mono h) (by rw [val_natL, val_natL]; omega) _ (by rw [val_natL, val_natL]; omega) (by omega)

theorem sub_below {u v : Nat} (hu : u < NMax) (hv : v < NMax) (h : u < v) : Meets Tryd.prog 16 [.ints .u64 (natL u), .ints .u64 (natL v)] (.tup [.ints .u64 [], .int .i64 10]) := by
  have hcm := nat_cmp (natL u) (natL v) (natL_limbs u) (natL_limbs v) (by have := natL_small hu; omega) (by have := natL_small hv; omega)
  have hc : cmpN (natL u) (natL v) = -1 := by unfold cmpN; rw [val_natL, val_natL, if_pos (by omega)]
  rw [hc] at hcm
  have b1 := big_as (natL_small hu) (size_natL u)
  have b2 := big_as (natL_small hv) (size_natL v)
  refine Meets.nil_head .u64 ?_
  refine meets_by ttOk Tryd.func16 Tryd.ntmps16 Tryd.results16 (by kernel_rfl) (c := _) rfl rfl rfl fun E => ?_
  simp only [argsFrame]
  generalize natL u = a at *
  generalize natL v = b at *
  repeat' first
    | (with_reducible first | refine PW.seq ?_ | refine PW.block ?_ | refine PW.fork ?_ | refine PW.skip ?_ | refine PW.exit ?_ | refine PW.ret ?_)
    | (with_reducible refine PW.region ttOk ?_ ?_
       · rfl)
    | (with_reducible refine PW.regionD ttOk mixed ?_ ?_ ?_
       · rfl
       · rfl)
    | (with_reducible refine ifW_dec (fun g => ?_) (fun g => ?_) <;> first | (exfalso; omega) | (simp -dsimp only [g, wkI]))
    | (with_reducible refine condE_dec (fun g => ?_) (fun g => ?_) <;> try (exfalso; omega))
    | (with_reducible refine condE_not (fun g => ?_) (fun g => ?_) <;> try (exfalso; omega))
    | (simp -dsimp only [↓wkA, ↓wkE, wkB, ↓tt, Nat.reduceBEq, Nat.reduceEqDiff, ↓reduceIte, Nat.reduceLT, Array.toList, Nat.reduceAdd, Nat.reduceMul, Int.reduceToNat, Int.reducePow, UInt8.reduceToNat])
    | (refine call_by b1 (views_data rfl) ⟨trivial, trivial⟩ rfl ?_)
    | (refine call_by b2 (views_data rfl) ⟨trivial, trivial⟩ rfl ?_)
    | (refine call_by hcm (views_data rfl) ⟨trivial, trivial, trivial⟩ rfl ?_)
    | (simp -dsimp (disch := first | assumption | omega) only [dec_t, dec_f])
    | (refine And.intro ?_ ?_
       · first | omega | decide | (simp (disch := omega) only [wkW, Int.reduceToNat, Int.reducePow] <;> omega) | (simp <;> omega))
    | (simp (disch := omega) only [wkW, Int.reduceToNat, Int.reducePow])
    | fail

theorem mul_zero {a b : List Int} (hla : a.length ≤ 4096) (hlb : b.length ≤ 4096) (hsa : size a = a.length) (hsb : size b = b.length) (h : a.length = 0 ∨ b.length = 0) : Meets Tryd.prog 14 [.ints .u64 a, .ints .u64 b] (.tup [.ints .u64 [], .int .i64 0]) := by
  have s1 := size_as hla hsa
  have s2 := size_as hlb hsb
  have b1 := big_as hla hsa
  have b2 := big_as hlb hsb
  refine Meets.nil_head .u64 ?_
  refine meets_by ttOk Tryd.func14 Tryd.ntmps14 Tryd.results14 (by kernel_rfl) (c := _) rfl rfl rfl fun E => ?_
  simp only [argsFrame]
  repeat' first
    | (with_reducible first | refine PW.seq ?_ | refine PW.block ?_ | refine PW.fork ?_ | refine PW.skip ?_ | refine PW.exit ?_ | refine PW.ret ?_)
    | (with_reducible refine PW.region ttOk ?_ ?_
       · rfl)
    | (with_reducible refine PW.regionD ttOk mixed ?_ ?_ ?_
       · rfl
       · rfl)
    | (with_reducible refine ifW_dec (fun g => ?_) (fun g => ?_) <;> first | (exfalso; omega) | (simp -dsimp only [g, wkI]))
    | (with_reducible refine condE_dec (fun g => ?_) (fun g => ?_) <;> try (exfalso; omega))
    | (with_reducible refine condE_not (fun g => ?_) (fun g => ?_) <;> try (exfalso; omega))
    | (simp -dsimp only [↓wkA, ↓wkE, wkB, ↓tt, Nat.reduceBEq, Nat.reduceEqDiff, ↓reduceIte, Nat.reduceLT, Array.toList, Nat.reduceAdd, Nat.reduceMul, Int.reduceToNat, Int.reducePow, UInt8.reduceToNat])
    | (refine call_by b1 (views_data rfl) ⟨trivial, trivial⟩ rfl ?_)
    | (refine call_by b2 (views_data rfl) ⟨trivial, trivial⟩ rfl ?_)
    | (refine callD_by s1 (views_data rfl) ⟨trivial, trivial⟩ rfl ?_)
    | (refine callD_by s2 (views_data rfl) ⟨trivial, trivial⟩ rfl ?_)
    | (simp -dsimp (disch := first | assumption | omega) only [dec_t, dec_f])
    | (refine And.intro ?_ ?_
       · first | omega | decide | (simp (disch := omega) only [wkW, Int.reduceToNat, Int.reducePow] <;> omega) | (simp <;> omega))
    | (simp (disch := omega) only [wkW, Int.reduceToNat, Int.reducePow])
    | fail

/-- nat.Mul of any two, nothing among them. -/
theorem mul_nat0 {u v : Nat} (hu : u < NMax) (hv : v < NMax) (h : u * v < NMax) : Meets Tryd.prog 14 [.ints .u64 (natL u), .ints .u64 (natL v)] (.tup [.ints .u64 (natL (u * v)), .int .i64 0]) := by
  by_cases h0 : u = 0 ∨ v = 0
  · have e : u * v = 0 := by rcases h0 with rfl | rfl <;> simp
    rw [e, natL_zero]
    exact mul_zero (natL_small hu) (natL_small hv) (size_natL u) (size_natL v) (by rw [natL_len0, natL_len0]; exact h0)
  · exact mul_nat (fun e => h0 (.inl e)) (fun e => h0 (.inr e)) hu hv h

theorem cmp_nat {u v : Nat} (hu : u < NMax) (hv : v < NMax) : Meets Tryd.prog 15 [.ints .u64 (natL u), .ints .u64 (natL v)] (.int .i64 (if u < v then -1 else if v < u then 1 else 0)) := by
  have hcm := nat_cmp (natL u) (natL v) (natL_limbs u) (natL_limbs v) (by have := natL_small hu; omega) (by have := natL_small hv; omega)
  have e : cmpN (natL u) (natL v) = (if u < v then -1 else if v < u then 1 else 0) := by
    unfold cmpN
    rw [val_natL, val_natL]
    simp only [Int.ofNat_lt]
  rwa [e] at hcm

/-- What the rounds of a shift to the left keep. -/
structure ShlS (a o : List Int) (q p i : Nat) : Prop where
  len : o.length = q + a.length + 1
  lim : Limbs o
  top : o.getD (q + i) 0 < 2 ^ p
  eq : vt o (q + i + 1) = 2 ^ p * (B64 ^ q * vt a i)
  rest : ∀ k, q + i < k → o.getD k 0 = 0

theorem shl_parts {x : Int} (p : Nat) (hp : p < 64) (hx : 0 ≤ x ∧ x < B64) : x * 2 ^ p / B64 < 2 ^ p ∧ x * 2 ^ p % B64 % 2 ^ p = 0 ∧ x * 2 ^ p % B64 ≤ B64 - 2 ^ p ∧ 0 ≤ x * 2 ^ p / B64 := by
  obtain ⟨x, rfl⟩ := Int.eq_ofNat_of_zero_le hx.1
  have hB : B64 = ((2 ^ p * 2 ^ (64 - p) : Nat) : Int) := by rw [← Nat.pow_add, show p + (64 - p) = 64 by omega]; rfl
  have h2 : ((2 : Int) ^ p) = ((2 ^ p : Nat) : Int) := by simp
  have hP : 0 < 2 ^ p := Nat.pow_pos (by omega)
  have hR : 0 < 2 ^ (64 - p) := Nat.pow_pos (by omega)
  have hx2 : x < 2 ^ p * 2 ^ (64 - p) := by have := hx.2; rw [hB] at this; exact_mod_cast this
  rw [hB, h2]
  clear hx hB h2
  generalize 2 ^ p = P at *
  generalize 2 ^ (64 - p) = R at *
  have hdiv : x * P / (P * R) = x / R := by rw [Nat.mul_comm x P]; exact Nat.mul_div_mul_left _ _ hP
  have hmod : x * P % (P * R) = P * (x % R) := by rw [Nat.mul_comm x P]; exact Nat.mul_mod_mul_left _ _ _
  have hlt : x % R + 1 ≤ R := Nat.mod_lt _ hR
  have hle : P * (x % R + 1) ≤ P * R := Nat.mul_le_mul_left P hlt
  rw [Nat.mul_add, Nat.mul_one] at hle
  refine ⟨?_, ?_, ?_, ?_⟩
  · have : x * P / (P * R) < P := by rw [hdiv]; exact Nat.div_lt_of_lt_mul (by rw [Nat.mul_comm]; exact hx2)
    exact_mod_cast this
  · have : x * P % (P * R) % P = 0 := by rw [hmod]; exact Nat.mul_mod_right _ _
    exact_mod_cast this
  · have : x * P % (P * R) + P ≤ P * R := by rw [hmod]; exact hle
    have h3 : (((x * P % (P * R) : Nat)) : Int) + (P : Int) ≤ ((P * R : Nat) : Int) := by exact_mod_cast this
    have h4 : (((x * P % (P * R) : Nat)) : Int) = (x : Int) * (P : Int) % ((P * R : Nat) : Int) := by simp
    omega
  · have : 0 ≤ x * P / (P * R) := Nat.zero_le _
    exact_mod_cast this

theorem ShlS.step {a o : List Int} {q p i : Nat} (h : ShlS a o q p i) (ha : Limbs a) (hp : p < 64) (hi : i < a.length) {x : Int} (hx : a.getD i 0 = x) :
    ShlS a ((o.set (q + i) (o.getD (q + i) 0 + x * 2 ^ p % B64)).set (q + i + 1) (x * 2 ^ p / B64)) q p (i + 1) := by
  have hlt : q + i < o.length := by rw [h.len]; omega
  have hlt2 : q + i + 1 < o.length := by rw [h.len]; omega
  have hxl : 0 ≤ x ∧ x < B64 := by rw [← hx]; exact getD_limb ha i
  obtain ⟨p1, p2, p3, p4⟩ := shl_parts p hp hxl
  have hd := getD_limb h.lim (q + i)
  have ht := h.top
  have hm0 : 0 ≤ x * 2 ^ p % B64 := Int.emod_nonneg _ (by decide)
  have h64 : (2 : Int) ^ p ≤ B64 := by
    have : (2 : Nat) ^ p ≤ 2 ^ 64 := Nat.pow_le_pow_right (by omega) (by omega)
    have e : B64 = ((2 ^ 64 : Nat) : Int) := rfl
    rw [e]; exact_mod_cast this
  have hs1 : (o.set (q + i) (o.getD (q + i) 0 + x * 2 ^ p % B64)).length = o.length := List.length_set
  refine ⟨by rw [List.length_set, hs1, h.len], limbs_set (limbs_set h.lim _ ⟨by omega, by omega⟩) _ ⟨p4, by omega⟩, ?_, ?_, fun k hk => ?_⟩
  · rw [show q + (i + 1) = q + i + 1 by omega, getD_set _ _ _ _ (by rw [hs1]; exact hlt2), if_pos rfl]
    exact p1
  · rw [show q + (i + 1) + 1 = (q + i + 1) + 1 by omega]
    simp only [vt]
    have g1 := getD_set (o.set (q + i) (o.getD (q + i) 0 + x * 2 ^ p % B64)) (q + i + 1) (q + i + 1) (x * 2 ^ p / B64) (by rw [hs1]; exact hlt2)
    have g2 := getD_set (o.set (q + i) (o.getD (q + i) 0 + x * 2 ^ p % B64)) (q + i + 1) (q + i) (x * 2 ^ p / B64) (by rw [hs1]; exact hlt2)
    have g3 := getD_set o (q + i) (q + i) (o.getD (q + i) 0 + x * 2 ^ p % B64) hlt
    rw [if_pos rfl] at g1 g3
    rw [if_neg (by omega), g3] at g2
    rw [g1, g2, vt_set_ge _ _ _ _ (by rw [hs1]; exact hlt2) (by omega), vt_set_ge _ _ _ _ hlt (Nat.le_refl _), hx]
    have he := h.eq
    simp only [vt] at he
    have hsum : B64 * (x * 2 ^ p / B64) + x * 2 ^ p % B64 = x * 2 ^ p := Int.mul_ediv_add_emod _ _
    have e1 : B64 ^ (q + i + 1) = B64 ^ q * B64 ^ i * B64 := by rw [Int.pow_succ, Int.pow_add]
    have e2 : B64 ^ (q + i) = B64 ^ q * B64 ^ i := Int.pow_add _ _ _
    rw [e1]
    rw [e2] at he ⊢
    generalize x * 2 ^ p / B64 = hi at *
    generalize x * 2 ^ p % B64 = lo at *
    generalize vt o (q + i) = V at *
    generalize o.getD (q + i) 0 = d at *
    generalize B64 ^ q = Q at *
    generalize B64 ^ i = I at *
    generalize vt a i = A at *
    generalize (2 : Int) ^ p = T at *
    generalize B64 = B at *
    grind
  · rw [getD_set _ _ _ _ (by rw [hs1]; exact hlt2), if_neg (by omega), getD_set _ _ _ _ hlt, if_neg (by omega)]
    exact h.rest k (by omega)

abbrev shF (a : List Int) (q p i n : Nat) : PV.Frame := [(39, .int .i64 (i : Int)), (38, .int .i64 a.length), (37, .ints .u64 a), (8, .sl 0 0 n true), (7, .int .u64 (p : Int)), (6, .int .i64 (q : Int)), (0, .ints .u64 a)]

theorem shl_list (a : List Int) (ha : Limbs a) (hla : a.length ≤ 4096) (hsa : size a = a.length) (h0 : a.length ≠ 0) (n q p : Nat) (hn : n ≤ 262144) (hq : n / 64 = q) (hp : n % 64 = p) (v : Nat) (hv : 2 ^ p * (B64 ^ q * val a) = v) (hm : v < NMax) :
    Meets Tryd.prog 17 [.ints .u64 a, .int .i64 (n : Int)] (.tup [.ints .u64 (natL v), .int .i64 0]) := by
  have hp64 : p < 64 := by omega
  have s1 := size_as hla hsa
  have b1 := big_as hla hsa
  have hcut : ∀ o, Limbs o → o.length ≤ 100000 → val o = v → Meets Tryd.prog 38 [.ints .u64 o] (.tup [.ints .u64 (natL v), .int .i64 0]) := fun o h1 h2 h3 => cut_as h1 h2 h3 hm
  generalize natL v = res at *
  clear hm hsa
  have hq2 : q ≤ 4096 := by omega
  have e1 : ((n : Int)).tdiv 64 = (q : Int) := by rw [Int.tdiv_eq_ediv_of_nonneg (by omega)]; omega
  have e2 : ((n : Int)).tmod 64 = (p : Int) := by rw [Int.tmod_eq_emod_of_nonneg (by omega)]; omega
  have w1 : IntKind.wrap .i64 (q : Int) = (q : Int) := wrap_i64 (by omega)
  have w2 : IntKind.wrap .u64 (p : Int) = (p : Int) := wrap_u64 (by omega)
  have w3 : IntKind.wrap .i64 ((q : Int) + (a.length : Int)) = ((q + a.length : Nat) : Int) := by rw [wrap_i64 (by omega)]; omega
  have w4 : IntKind.wrap .i64 (((q + a.length : Nat) : Int) + 1) = ((q + a.length + 1 : Nat) : Int) := by rw [wrap_i64 (by omega)]; omega
  have hpow : (2 : Nat) ^ p ≤ 2 ^ 63 := Nat.pow_le_pow_right (by omega) (by omega)
  have hpow0 : 0 < (2 : Nat) ^ p := Nat.pow_pos (by omega)
  have e3 : (1 : Int) * 2 ^ min p 64 = ((2 ^ p : Nat) : Int) := by rw [Nat.min_eq_left (by omega)]; simp
  have w5 : IntKind.wrap .u64 ((2 ^ p : Nat) : Int) = ((2 ^ p : Nat) : Int) := wrap_u64 (by omega)
  refine meets_by ttOk Tryd.func17 Tryd.ntmps17 Tryd.results17 (by kernel_rfl) (c := _) rfl rfl rfl fun E => ?_
  simp only [argsFrame]
  repeat' first
    | (simp only [e1, e2, w1, w2, w3, w4])
    | (with_reducible first | refine PW.seq ?_ | refine PW.block ?_ | refine PW.fork ?_ | refine PW.skip ?_ | refine PW.exit ?_ | refine PW.ret ?_)
    | (with_reducible refine PW.region ttOk ?_ ?_
       · rfl)
    | (with_reducible refine PW.regionD ttOk mixed ?_ ?_ ?_
       · rfl
       · rfl)
    | (with_reducible refine ifW_dec (fun g => ?_) (fun g => ?_) <;> first | (exfalso; omega) | (simp -dsimp only [g, wkI]))
    | (with_reducible refine condE_dec (fun g => ?_) (fun g => ?_) <;> try (exfalso; omega))
    | (with_reducible refine condE_not (fun g => ?_) (fun g => ?_) <;> try (exfalso; omega))
    | (simp -dsimp only [↓wkA, ↓wkE, wkB, ↓tt, Nat.reduceBEq, Nat.reduceEqDiff, ↓reduceIte, Nat.reduceLT, Array.toList, Nat.reduceAdd, Nat.reduceMul, Int.reduceToNat, Int.reducePow, UInt8.reduceToNat])
    | (refine call_by b1 (views_data rfl) ⟨trivial, trivial⟩ rfl ?_)
    | (refine call_by s1 (views_data rfl) ⟨trivial, trivial⟩ rfl ?_)
    | (simp -dsimp (disch := first | assumption | omega) only [dec_t, dec_f])
    | (refine And.intro ?_ ?_
       · first | omega | decide | (simp (disch := omega) only [wkW, Int.reduceToNat, Int.reducePow] <;> omega) | (simp <;> omega))
    | (simp (disch := omega) only [wkW, Int.reduceToNat, Int.reducePow])
    | fail
  refine PW.loopA (fun m F H => ∃ i o, i + m = a.length ∧ ShlS a o q p i ∧ F = shF a q p i (q + a.length + 1) ∧ H = ⟨1, [(0, .ints .u64 o)], [], []⟩) a.length (shF a q p 0 (q + a.length + 1)) ⟨1, [(0, .ints .u64 (List.replicate (q + a.length + 1) 0))], [], []⟩ (Sub.norm ⟨rfl, rfl, rfl, rfl, rfl, rfl, rfl, trivial⟩ ⟨rfl, trivial⟩ (by simp) rfl rfl rfl rfl) ⟨0, _, by omega, ⟨by simp, fun x hx => by rw [List.eq_of_mem_replicate hx]; decide, ?_, ?_, fun k hk => ?_⟩, rfl, rfl⟩ ?_
  · rw [getD_zeros]; exact_mod_cast hpow0
  · rw [vt_zeros]; simp [vt]
  · rw [getD_zeros]
  rintro m F H ⟨i, o, hi, hS, rfl, rfl⟩
  have hol := hS.len
  cases m with
  | zero =>
    obtain rfl : i = a.length := by omega
    have hc := hcut o hS.lim (by omega) (by rw [val, hol, hS.eq]; exact hv)
    repeat' first
      | (with_reducible first | refine PW.seq ?_ | refine PW.block ?_ | refine PW.fork ?_ | refine PW.skip ?_ | refine PW.exit ?_ | refine PW.ret ?_)
      | (with_reducible refine PW.region ttOk ?_ ?_
         · rfl)
      | (with_reducible refine PW.regionD ttOk mixed ?_ ?_ ?_
         · rfl
         · rfl)
      | (with_reducible refine ifW_dec (fun g => ?_) (fun g => ?_) <;> first | (exfalso; omega) | (simp -dsimp only [g, wkI]))
      | (with_reducible refine condE_dec (fun g => ?_) (fun g => ?_) <;> try (exfalso; omega))
      | (with_reducible refine condE_not (fun g => ?_) (fun g => ?_) <;> try (exfalso; omega))
      | (simp -dsimp only [↓wkA, ↓wkE, wkB, ↓tt, Nat.reduceBEq, Nat.reduceEqDiff, ↓reduceIte, Nat.reduceLT, Array.toList, Nat.reduceAdd, Nat.reduceMul, Int.reduceToNat, Int.reducePow, UInt8.reduceToNat])
      | (refine call_drop (args' := [.ints .u64 o]) (by simp -dsimp only [↓wkA, ↓wkE, wkB, ↓tt, Nat.reduceBEq, Nat.reduceEqDiff, ↓reduceIte, Nat.reduceLT, Array.toList, Nat.reduceAdd, Nat.reduceMul, Int.reduceToNat, Int.reducePow, UInt8.reduceToNat] <;> rw [List.take_of_length_le (by omega)]) hc (by simp -dsimp only [okViews, ↓wkA, ↓wkE, wkB, ↓tt, Nat.reduceBEq, Nat.reduceEqDiff, ↓reduceIte, Nat.reduceLT, Array.toList, Nat.reduceAdd, Nat.reduceMul, Int.reduceToNat, Int.reducePow, UInt8.reduceToNat] <;> omega) rfl ?_)
      | (simp -dsimp (disch := first | assumption | omega) only [dec_t, dec_f])
      | (refine And.intro ?_ ?_
         · first | omega | decide | (simp (disch := omega) only [wkW, Int.reduceToNat, Int.reducePow] <;> omega) | (simp <;> omega))
      | (simp (disch := omega) only [wkW, Int.reduceToNat, Int.reducePow])
      | fail
  | succ m =>
    have hx := getD_limb ha i
    have hstep := hS.step ha hp64 (by omega) rfl
    obtain ⟨p1, p2, p3, p4⟩ := shl_parts p hp64 hx
    have hd := getD_limb hS.lim (q + i)
    have ht := hS.top
    have h2 : ((2 : Int) ^ p) = ((2 ^ p : Nat) : Int) := by simp
    rw [h2] at p1 p3 p2 hstep
    have h64 := mul64 (a.getD i 0) ((2 ^ p : Nat) : Int) hx (by simp only [B64]; omega)
    have hlo : 0 ≤ a.getD i 0 * ((2 ^ p : Nat) : Int) % B64 := Int.emod_nonneg _ (by decide)
    have hlo2 : a.getD i 0 * ((2 ^ p : Nat) : Int) % B64 < 18446744073709551616 := Int.emod_lt_of_pos _ (by decide)
    have hor := or_apart p ⟨hd.1, ht⟩ ⟨hlo, hlo2⟩ (by rw [h2]; exact p2) hd.2
    have w6 : IntKind.wrap .i64 ((q : Int) + (i : Int)) = ((q + i : Nat) : Int) := by rw [wrap_i64 (by omega)]; omega
    have w7 : IntKind.wrap .i64 (((q + i : Nat) : Int) + 1) = ((q + i + 1 : Nat) : Int) := by rw [wrap_i64 (by omega)]; omega
    generalize a.getD i 0 * ((2 ^ p : Nat) : Int) % B64 = lo at *
    generalize a.getD i 0 * ((2 ^ p : Nat) : Int) / B64 = hi' at *
    repeat' first
      | (simp only [e3, w5, w6, w7, hor, Int.toNat_natCast])
      | (with_reducible first | refine PW.seq ?_ | refine PW.block ?_ | refine PW.fork ?_ | refine PW.skip ?_ | refine PW.exit ?_ | refine PW.ret ?_)
      | (with_reducible refine PW.region ttOk ?_ ?_
         · rfl)
      | (with_reducible refine PW.regionD ttOk mixed ?_ ?_ ?_
         · rfl
         · rfl)
      | (with_reducible refine ifW_dec (fun g => ?_) (fun g => ?_) <;> first | (exfalso; omega) | (simp -dsimp only [g, wkI]))
      | (with_reducible refine condE_dec (fun g => ?_) (fun g => ?_) <;> try (exfalso; omega))
      | (with_reducible refine condE_not (fun g => ?_) (fun g => ?_) <;> try (exfalso; omega))
      | (simp -dsimp only [↓wkA, ↓wkE, wkB, ↓tt, Nat.reduceBEq, Nat.reduceEqDiff, ↓reduceIte, Nat.reduceLT, Array.toList, Nat.reduceAdd, Nat.reduceMul, Int.reduceToNat, Int.reducePow, UInt8.reduceToNat])
      | (refine call_by h64 (views_data rfl) ⟨trivial, trivial, trivial⟩ rfl ?_)
      | (simp -dsimp (disch := first | assumption | omega) only [dec_t, dec_f])
      | (refine And.intro ?_ ?_
         · first | omega | decide | (simp (disch := omega) only [wkW, Int.reduceToNat, Int.reducePow] <;> omega) | (simp <;> omega))
      | (simp (disch := omega) only [wkW, Int.reduceToNat, Int.reducePow])
      | fail
    exact Again.mk m (shF a q p (i + 1) (q + a.length + 1)) ⟨1, [(0, .ints .u64 _)], [], []⟩ (by omega) (Sub.norm ⟨rfl, rfl, rfl, rfl, rfl, rfl, rfl, trivial⟩ ⟨rfl, trivial⟩ (Nat.le_refl _) rfl rfl rfl rfl) ⟨i + 1, _, by omega, hstep, rfl, rfl⟩
end Go.Proofs.YtjhkpjddcaglnaaDoor
set_option linter.unusedVariables false
set_option linter.unusedSimpArgs false
namespace Go.Proofs.YtjhkpjddcaglnaaDoor
open Go Go.PV

theorem and1_i64 {a : Int} (ha : 0 ≤ a ∧ a ≤ 9223372036854775807) : ibits .and .i64 a 1 = a % 2 := by
  change IntKind.wrap .i64 (((BitVec.ofInt 64 a &&& BitVec.ofInt 64 1).toNat : Nat) : Int) = _
  rw [BitVec.toNat_and, BitVec.toNat_ofInt, BitVec.toNat_ofInt]
  have e1 : (a % ((2 ^ 64 : Nat) : Int)).toNat = a.toNat := by rw [Int.emod_eq_of_lt ha.1 (by simp; omega)]
  have e2 : ((1 : Int) % ((2 ^ 64 : Nat) : Int)).toNat = 2 ^ 1 - 1 := by decide
  rw [e1, e2, and_mask, wrap_i64 (by omega)]
  omega

theorem bits_len (x : Int) (hx : 0 ≤ x ∧ x < B64) : Meets Tryd.prog 61 [.int .u64 x] (.int .i64 ((bitlen x.toNat : Nat) : Int)) := by
  have h := len64 x hx
  refine meets_by ttOk Tryd.func61 Tryd.ntmps61 Tryd.results61 (by kernel_rfl) (c := _) rfl rfl rfl fun E => ?_
  simp only [argsFrame]
  repeat' first
    | (with_reducible first | refine PW.seq ?_ | refine PW.block ?_ | refine PW.fork ?_ | refine PW.skip ?_ | refine PW.exit ?_ | refine PW.ret ?_)
    | (with_reducible refine PW.region ttOk ?_ ?_
       · rfl)
    | (with_reducible refine PW.regionD ttOk mixed ?_ ?_ ?_
       · rfl
       · rfl)
    | (with_reducible refine ifW_dec (fun g => ?_) (fun g => ?_) <;> first | (exfalso; omega) | (simp -dsimp only [g, wkI]))
    | (with_reducible refine condE_dec (fun g => ?_) (fun g => ?_) <;> try (exfalso; omega))
    | (with_reducible refine condE_not (fun g => ?_) (fun g => ?_) <;> try (exfalso; omega))
    | (simp -dsimp only [↓wkA, ↓wkE, wkB, ↓tt, Nat.reduceBEq, Nat.reduceEqDiff, ↓reduceIte, Nat.reduceLT, Array.toList, Nat.reduceAdd, Nat.reduceMul, Int.reduceToNat, Int.reducePow, UInt8.reduceToNat])
    | (refine call_by h (views_data rfl) ⟨trivial, trivial⟩ rfl ?_)
    | (simp -dsimp (disch := first | assumption | omega) only [dec_t, dec_f])
    | (refine And.intro ?_ ?_
       · first | omega | decide | (simp (disch := omega) only [wkW, Int.reduceToNat, Int.reducePow] <;> omega) | (simp <;> omega))
    | (simp (disch := omega) only [wkW, Int.reduceToNat, Int.reducePow])
    | fail

theorem size_ten : size [10] = 1 := by decide

theorem bitlen_ten : Meets Tryd.prog 60 [.ints .u64 [10]] (.int .i64 4) := by
  have hs := nat_size [10] (by simp)
  rw [size_ten] at hs
  have hl := len64 10 (by decide)
  have e : bitlen (10 : Int).toNat = 4 := by decide
  rw [e] at hl
  refine meets_by ttOk Tryd.func60 Tryd.ntmps60 Tryd.results60 (by kernel_rfl) (c := _) rfl rfl rfl fun E => ?_
  simp only [argsFrame]
  repeat' first
    | (with_reducible first | refine PW.seq ?_ | refine PW.block ?_ | refine PW.fork ?_ | refine PW.skip ?_ | refine PW.exit ?_ | refine PW.ret ?_)
    | (with_reducible refine PW.region ttOk ?_ ?_
       · rfl)
    | (with_reducible refine PW.regionD ttOk mixed ?_ ?_ ?_
       · rfl
       · rfl)
    | (with_reducible refine ifW_dec (fun g => ?_) (fun g => ?_) <;> first | (exfalso; omega) | (simp -dsimp only [g, wkI]))
    | (with_reducible refine condE_dec (fun g => ?_) (fun g => ?_) <;> try (exfalso; omega))
    | (with_reducible refine condE_not (fun g => ?_) (fun g => ?_) <;> try (exfalso; omega))
    | (simp -dsimp only [↓wkA, ↓wkE, wkB, ↓tt, Nat.reduceBEq, Nat.reduceEqDiff, ↓reduceIte, Nat.reduceLT, Array.toList, Nat.reduceAdd, Nat.reduceMul, Int.reduceToNat, Int.reducePow, UInt8.reduceToNat])
    | (refine call_by hs (views_data rfl) ⟨trivial, trivial⟩ rfl ?_)
    | (refine call_by hl (views_data rfl) ⟨trivial, trivial⟩ rfl ?_)
    | (simp -dsimp (disch := first | assumption | omega) only [dec_t, dec_f])
    | (refine And.intro ?_ ?_
       · first | omega | decide | (simp (disch := omega) only [wkW, Int.reduceToNat, Int.reducePow] <;> omega) | (simp <;> omega))
    | (simp (disch := omega) only [wkW, Int.reduceToNat, Int.reducePow])
    | fail
  all_goals (refine congrArg _ ?_; omega)

theorem small_ten : Meets Tryd.prog 59 [.ints .u64 [10], .int .i64 4096] (.tup [.ints .u64 [10], .bool true]) := by
  have h := nat_trim [10] (by simp)
  have e : trim [10] = [10] := by decide
  rw [e] at h
  refine meets_by ttOk Tryd.func59 Tryd.ntmps59 Tryd.results59 (by kernel_rfl) (c := _) rfl rfl rfl fun E => ?_
  simp only [argsFrame]
  repeat' first
    | (with_reducible first | refine PW.seq ?_ | refine PW.block ?_ | refine PW.fork ?_ | refine PW.skip ?_ | refine PW.exit ?_ | refine PW.ret ?_)
    | (with_reducible refine PW.region ttOk ?_ ?_
       · rfl)
    | (with_reducible refine PW.regionD ttOk mixed ?_ ?_ ?_
       · rfl
       · rfl)
    | (with_reducible refine ifW_dec (fun g => ?_) (fun g => ?_) <;> first | (exfalso; omega) | (simp -dsimp only [g, wkI]))
    | (with_reducible refine condE_dec (fun g => ?_) (fun g => ?_) <;> try (exfalso; omega))
    | (with_reducible refine condE_not (fun g => ?_) (fun g => ?_) <;> try (exfalso; omega))
    | (simp -dsimp only [↓wkA, ↓wkE, wkB, ↓tt, Nat.reduceBEq, Nat.reduceEqDiff, ↓reduceIte, Nat.reduceLT, Array.toList, Nat.reduceAdd, Nat.reduceMul, Int.reduceToNat, Int.reducePow, UInt8.reduceToNat])
    | (refine call_by h (views_data rfl) ⟨trivial, trivial⟩ rfl ?_)
    | (simp -dsimp (disch := first | assumption | omega) only [dec_t, dec_f])
    | (refine And.intro ?_ ?_
       · first | omega | decide | (simp (disch := omega) only [wkW, Int.reduceToNat, Int.reducePow] <;> omega) | (simp <;> omega))
    | (simp (disch := omega) only [wkW, Int.reduceToNat, Int.reducePow])
    | fail

theorem natL_ten : natL 10 = [10] := by simp [natL, digs]
theorem natL_oneL : natL 1 = [1] := by simp [natL, digs]

set_option exponentiation.threshold 300000 in
theorem nmax_two : NMax = 2 ^ 262144 := by
  unfold NMax
  rw [show (262144 : Nat) = 64 * 4096 from rfl, Nat.pow_mul]

set_option exponentiation.threshold 300000 in
theorem ten_big {n : Nat} (h : 262144 ≤ 3 * n) : ¬ 10 ^ n < NMax := by
  have h1 : 2 ^ (3 * n) ≤ 10 ^ n := by
    rw [Nat.pow_mul]; exact Nat.pow_le_pow_left (by decide) n
  have h2 : 2 ^ 262144 ≤ 2 ^ (3 * n) := Nat.pow_le_pow_right (by decide) h
  rw [nmax_two]; omega

abbrev pwF (n : Nat) (l : List Int) (i : Nat) : PV.Frame := [(10, .int .i64 ((i : Int) - 1)), (9, .ints .u64 l), (6, .ints .u64 [10]), (1, .int .i64 (n : Int))]

set_option exponentiation.threshold 300000 in
set_option maxHeartbeats 4000000 in
theorem pow_ten (n : Nat) (hn : n < 9223372036854775807) (R : PV) (hR1 : 10 ^ n < NMax → R = .tup [.ints .u64 (natL (10 ^ n)), .int .i64 0]) (hR2 : ¬ 10 ^ n < NMax → R = .tup [.nil, .int .i64 2]) :
    Meets Tryd.prog 32 [.ints .u64 [10], .int .i64 (n : Int)] R := by
  refine meets_by ttOk Tryd.func32 Tryd.ntmps32 Tryd.results32 (by kernel_rfl) (c := _) rfl rfl rfl fun E => ?_
  simp only [argsFrame]
  have hbl := bits_len (n : Int) (by simp only [B64]; omega)
  rw [Int.toNat_natCast] at hbl
  have hmul3 : IntKind.wrap .i64 (3 * (n : Int)) = 3 * (n : Int) ∨ ¬ (n : Int) < 262144 := by
    by_cases h : (n : Int) < 262144
    · left; exact wrap_i64 (by omega)
    · exact .inr h
  have hw : IntKind.wrap .u64 (n : Int) = (n : Int) := wrap_u64 (by omega)
  have h1 : 10 ^ 0 < NMax := Nat.lt_of_lt_of_le (by decide) (pow64_mono (show 1 ≤ 4096 by decide))
  by_cases h0 : n = 0
  · subst h0
    rw [hR1 h1, Nat.pow_zero, natL_oneL]
    repeat' first
      | (with_reducible first | refine PW.seq ?_ | refine PW.block ?_ | refine PW.fork ?_ | refine PW.skip ?_ | refine PW.exit ?_ | refine PW.ret ?_)
      | (with_reducible refine PW.region ttOk ?_ ?_
         · rfl)
      | (with_reducible refine PW.regionD ttOk mixed ?_ ?_ ?_
         · rfl
         · rfl)
      | (with_reducible refine ifW_dec (fun g => ?_) (fun g => ?_) <;> first | (exfalso; omega) | (simp -dsimp only [g, wkI]))
      | (with_reducible refine condE_dec (fun g => ?_) (fun g => ?_) <;> try (exfalso; omega))
      | (with_reducible refine condE_not (fun g => ?_) (fun g => ?_) <;> try (exfalso; omega))
      | (simp -dsimp only [↓wkA, ↓wkE, wkB, ↓tt, Nat.reduceBEq, Nat.reduceEqDiff, ↓reduceIte, Nat.reduceLT, Array.toList, Nat.reduceAdd, Nat.reduceMul, Int.reduceToNat, Int.reducePow, UInt8.reduceToNat])
      | (refine call_by small_ten (views_data rfl) ⟨trivial, trivial, trivial⟩ rfl ?_)
      | (refine call_by bitlen_ten (views_data rfl) ⟨trivial, trivial⟩ rfl ?_)
      | (exact Nat.le_refl _)
      | (simp -dsimp (disch := first | assumption | omega) only [dec_t, dec_f])
      | (refine And.intro ?_ ?_
         · first | omega | decide | (simp (disch := omega) only [wkW, Int.reduceToNat, Int.reducePow] <;> omega) | (simp <;> omega))
      | (simp (disch := omega) only [wkW, Int.reduceToNat, Int.reducePow])
      | fail
  by_cases hbig : 262144 ≤ 3 * n
  · rw [hR2 (ten_big hbig)]
    repeat' first
      | (simp (disch := omega) only [hw, show (4 : Int) - 1 = 3 from rfl, wkW, Int.reduceToNat, Int.reducePow])
      | (with_reducible first | refine PW.seq ?_ | refine PW.block ?_ | refine PW.fork ?_ | refine PW.skip ?_ | refine PW.exit ?_ | refine PW.ret ?_)
      | (with_reducible refine PW.region ttOk ?_ ?_
         · rfl)
      | (with_reducible refine PW.regionD ttOk mixed ?_ ?_ ?_
         · rfl
         · rfl)
      | (with_reducible refine ifW_dec (fun g => ?_) (fun g => ?_) <;> first | (exfalso; omega) | (simp -dsimp only [g, wkI]))
      | (with_reducible refine condE_dec (fun g => ?_) (fun g => ?_) <;> try (exfalso; omega))
      | (with_reducible refine condE_not (fun g => ?_) (fun g => ?_) <;> try (exfalso; omega))
      | (simp -dsimp only [↓wkA, ↓wkE, wkB, ↓tt, Nat.reduceBEq, Nat.reduceEqDiff, ↓reduceIte, Nat.reduceLT, Array.toList, Nat.reduceAdd, Nat.reduceMul, Int.reduceToNat, Int.reducePow, UInt8.reduceToNat])
      | (refine call_by small_ten (views_data rfl) ⟨trivial, trivial, trivial⟩ rfl ?_)
      | (refine call_by bitlen_ten (views_data rfl) ⟨trivial, trivial⟩ rfl ?_)
      | (simp -dsimp (disch := first | assumption | omega) only [dec_t, dec_f])
      | (refine And.intro ?_ ?_
         · first | omega | decide | (simp (disch := omega) only [wkW, Int.reduceToNat, Int.reducePow] <;> omega) | (simp <;> omega))
      | (simp (disch := omega) only [wkW, Int.reduceToNat, Int.reducePow])
      | fail
  obtain ⟨L, hL, hL1, hL2⟩ := bitlen_spec h0
  rw [hL] at hbl
  have hL63 : L < 64 := by
    have h3 : 2 ^ L < 2 ^ 64 := Nat.lt_of_le_of_lt hL1 (by simp only [Nat.reducePow]; omega)
    exact (Nat.pow_lt_pow_iff_right (by decide)).1 h3
  repeat' first
    | (simp (disch := omega) only [hw, show (4 : Int) - 1 = 3 from rfl, wkW, Int.reduceToNat, Int.reducePow])
    | (with_reducible first | refine PW.seq ?_ | refine PW.block ?_ | refine PW.fork ?_ | refine PW.skip ?_ | refine PW.exit ?_ | refine PW.ret ?_)
    | (with_reducible refine PW.region ttOk ?_ ?_
       · rfl)
    | (with_reducible refine PW.regionD ttOk mixed ?_ ?_ ?_
       · rfl
       · rfl)
    | (with_reducible refine ifW_dec (fun g => ?_) (fun g => ?_) <;> first | (exfalso; omega) | (simp -dsimp only [g, wkI]))
    | (with_reducible refine condE_dec (fun g => ?_) (fun g => ?_) <;> try (exfalso; omega))
    | (with_reducible refine condE_not (fun g => ?_) (fun g => ?_) <;> try (exfalso; omega))
    | (simp -dsimp only [↓wkA, ↓wkE, wkB, ↓tt, Nat.reduceBEq, Nat.reduceEqDiff, ↓reduceIte, Nat.reduceLT, Array.toList, Nat.reduceAdd, Nat.reduceMul, Int.reduceToNat, Int.reducePow, UInt8.reduceToNat])
    | (refine call_by small_ten (views_data rfl) ⟨trivial, trivial, trivial⟩ rfl ?_)
    | (refine call_by bitlen_ten (views_data rfl) ⟨trivial, trivial⟩ rfl ?_)
    | (refine call_by hbl (views_data rfl) ⟨trivial, trivial⟩ rfl ?_)
    | (simp -dsimp (disch := first | assumption | omega) only [dec_t, dec_f])
    | (refine And.intro ?_ ?_
       · first | omega | decide | (simp (disch := omega) only [wkW, Int.reduceToNat, Int.reducePow] <;> omega) | (simp <;> omega))
    | (simp (disch := omega) only [wkW, Int.reduceToNat, Int.reducePow])
    | fail
  have hten : natL (10 ^ 0) = [1] := natL_oneL
  refine PW.meetB (fun F H => 10 ^ n < NMax ∧ F = [(9, .ints .u64 (natL (10 ^ n)))] ∧ H = ⟨1, [], [], []⟩) ?_ ?_
  · refine PW.loopA (fun i F H => i ≤ L + 1 ∧ 10 ^ (n / 2 ^ i) < NMax ∧ F = pwF n (natL (10 ^ (n / 2 ^ i))) i ∧ H = ⟨1, [], [], []⟩) (L + 1) (pwF n (natL (10 ^ (n / 2 ^ (L + 1)))) (L + 1)) ⟨1, [], [], []⟩ (Sub.trans (toData 9 0 0 1 true rfl (Nat.le_refl _)) (Sub.norm ⟨?_, ?_, rfl, rfl, trivial⟩ trivial (Nat.le_refl _) rfl rfl rfl rfl)) ⟨Nat.le_refl _, ?_, rfl, rfl⟩ ?_
    · simp (disch := omega) only [↓wkA, ↓wkE, wkB, ↓tt, Nat.reduceBEq, Nat.reduceEqDiff, ↓reduceIte, Nat.reduceLT, Array.toList, Nat.reduceAdd, Nat.reduceMul, Int.reduceToNat, Int.reducePow, UInt8.reduceToNat, wkW, Int.reduceToNat, Int.reducePow]
    · rw [Nat.div_eq_of_lt hL2, hten]; rfl
    · rw [Nat.div_eq_of_lt hL2]; exact h1
    rintro i F H ⟨hi, hlt, rfl, rfl⟩
    cases i with
    | zero =>
      rw [Nat.pow_zero, Nat.div_one] at hlt ⊢
      repeat' first
        | (with_reducible first | refine PW.seq ?_ | refine PW.block ?_ | refine PW.fork ?_ | refine PW.skip ?_ | refine PW.exit ?_ | refine PW.ret ?_)
        | (with_reducible refine PW.region ttOk ?_ ?_
           · rfl)
        | (with_reducible refine PW.regionD ttOk mixed ?_ ?_ ?_
           · rfl
           · rfl)
        | (with_reducible refine ifW_dec (fun g => ?_) (fun g => ?_) <;> first | (exfalso; omega) | (simp -dsimp only [g, wkI]))
        | (with_reducible refine condE_dec (fun g => ?_) (fun g => ?_) <;> try (exfalso; omega))
        | (with_reducible refine condE_not (fun g => ?_) (fun g => ?_) <;> try (exfalso; omega))
        | (simp -dsimp only [↓wkA, ↓wkE, wkB, ↓tt, Nat.reduceBEq, Nat.reduceEqDiff, ↓reduceIte, Nat.reduceLT, Array.toList, Nat.reduceAdd, Nat.reduceMul, Int.reduceToNat, Int.reducePow, UInt8.reduceToNat])
        | (simp -dsimp (disch := first | assumption | omega) only [dec_t, dec_f])
        | (refine And.intro ?_ ?_
           · first | omega | decide | (simp (disch := omega) only [wkW, Int.reduceToNat, Int.reducePow] <;> omega) | (simp <;> omega))
        | (simp (disch := omega) only [wkW, Int.reduceToNat, Int.reducePow])
        | fail
      exact Meet.mk [(9, .ints .u64 (natL (10 ^ n)))] ⟨1, [], [], []⟩ (Sub.norm ⟨rfl, trivial⟩ trivial (Nat.le_refl _) rfl rfl rfl rfl) ⟨hlt, rfl, rfl⟩
    | succ i =>
      have e1 : (((i + 1 : Nat)) : Int) - 1 = (i : Int) := by omega
      simp only [pwF, e1]
      have hne : ∀ k, 10 ^ k ≠ 0 := fun k => Nat.ne_of_gt (Nat.pow_pos (by decide))
      have hstep : n / 2 ^ i = 2 * (n / 2 ^ (i + 1)) + n / 2 ^ i % 2 := by rw [Nat.pow_succ, ← Nat.div_div_eq_div_mul]; omega
      have hmono : ∀ k, k ≤ n / 2 ^ i → ¬ 10 ^ k < NMax → R = .tup [.nil, .int .i64 2] := fun k hk hb => hR2 fun h => hb (Nat.lt_of_le_of_lt (Nat.pow_le_pow_right (by decide) (Nat.le_trans hk (Nat.div_le_self _ _))) h)
      have hsq : 10 ^ (n / 2 ^ (i + 1)) * 10 ^ (n / 2 ^ (i + 1)) = 10 ^ (2 * (n / 2 ^ (i + 1))) := by rw [← Nat.pow_add]; congr 1; omega
      have hshr : ((n : Int)).fdiv (2 ^ min ((i : Int)).toNat 64) = ((n / 2 ^ i : Nat) : Int) := by
        rw [Int.toNat_natCast, Nat.min_eq_left (by omega), fdiv_pos (Int.le_of_lt (Int.pow_pos (by decide)))]
        simp
      have hwi : IntKind.wrap .u64 (i : Int) = (i : Int) := wrap_u64 (by omega)
      have hqn : n / 2 ^ i ≤ n := Nat.div_le_self _ _
      generalize n / 2 ^ (i + 1) = p at *
      generalize hqe : n / 2 ^ i = q at *
      have hand : ibits .and .i64 ((q : Nat) : Int) 1 = ((q % 2 : Nat) : Int) := by rw [and1_i64 (by omega)]; omega
      by_cases hs : 10 ^ (2 * p) < NMax
      · have hm1 := mul_nat (hne p) (hne p) hlt hlt (by rw [hsq]; exact hs)
        rw [hsq] at hm1
        by_cases hbit : q % 2 = 1
        · have hq : 10 ^ (2 * p) * 10 = 10 ^ q := by rw [← Nat.pow_succ]; congr 1; omega
          by_cases hs2 : 10 ^ q < NMax
          · have hm2 := mul_nat (hne (2 * p)) (show (10 : Nat) ≠ 0 by decide) hs (Nat.lt_of_lt_of_le (by decide) (pow64_mono (show 1 ≤ 4096 by decide))) (by rw [hq]; exact hs2)
            rw [hq, natL_ten] at hm2
            repeat' first
              | (simp only [hwi, hshr, hand])
              | (with_reducible first | refine PW.seq ?_ | refine PW.block ?_ | refine PW.fork ?_ | refine PW.skip ?_ | refine PW.exit ?_ | refine PW.ret ?_)
              | (with_reducible refine PW.region ttOk ?_ ?_
                 · rfl)
              | (with_reducible refine PW.regionD ttOk mixed ?_ ?_ ?_
                 · rfl
                 · rfl)
              | (with_reducible refine ifW_dec (fun g => ?_) (fun g => ?_) <;> first | (exfalso; omega) | (simp -dsimp only [g, wkI]))
              | (with_reducible refine condE_dec (fun g => ?_) (fun g => ?_) <;> try (exfalso; omega))
              | (with_reducible refine condE_not (fun g => ?_) (fun g => ?_) <;> try (exfalso; omega))
              | (simp -dsimp only [↓wkA, ↓wkE, wkB, ↓tt, Nat.reduceBEq, Nat.reduceEqDiff, ↓reduceIte, Nat.reduceLT, Array.toList, Nat.reduceAdd, Nat.reduceMul, Int.reduceToNat, Int.reducePow, UInt8.reduceToNat])
              | (refine call_by hm1 (views_data rfl) ⟨trivial, trivial, trivial⟩ rfl ?_)
              | (refine call_by hm2 (views_data rfl) ⟨trivial, trivial, trivial⟩ rfl ?_)
              | (simp -dsimp (disch := first | assumption | omega) only [dec_t, dec_f])
              | (refine And.intro ?_ ?_
                 · first | omega | decide | (simp (disch := omega) only [wkW, Int.reduceToNat, Int.reducePow] <;> omega) | (simp <;> omega))
              | (simp (disch := omega) only [wkW, Int.reduceToNat, Int.reducePow])
              | fail
            exact Again.mk i (pwF n (natL (10 ^ q)) i) ⟨1, [], [], []⟩ (by omega) (Sub.norm ⟨rfl, rfl, rfl, rfl, trivial⟩ trivial (Nat.le_refl _) rfl rfl rfl rfl) ⟨by omega, by rw [hqe]; exact hs2, by rw [hqe], rfl⟩
          · have hm2 := mul_over (hne (2 * p)) (show (10 : Nat) ≠ 0 by decide) hs (Nat.lt_of_lt_of_le (by decide) (pow64_mono (show 1 ≤ 4096 by decide))) (by rw [hq]; exact hs2)
            rw [natL_ten] at hm2
            rw [hmono q (Nat.le_refl _) hs2]
            repeat' first
              | (simp only [hwi, hshr, hand])
              | (with_reducible first | refine PW.seq ?_ | refine PW.block ?_ | refine PW.fork ?_ | refine PW.skip ?_ | refine PW.exit ?_ | refine PW.ret ?_)
              | (with_reducible refine PW.region ttOk ?_ ?_
                 · rfl)
              | (with_reducible refine PW.regionD ttOk mixed ?_ ?_ ?_
                 · rfl
                 · rfl)
              | (with_reducible refine ifW_dec (fun g => ?_) (fun g => ?_) <;> first | (exfalso; omega) | (simp -dsimp only [g, wkI]))
              | (with_reducible refine condE_dec (fun g => ?_) (fun g => ?_) <;> try (exfalso; omega))
              | (with_reducible refine condE_not (fun g => ?_) (fun g => ?_) <;> try (exfalso; omega))
              | (simp -dsimp only [↓wkA, ↓wkE, wkB, ↓tt, Nat.reduceBEq, Nat.reduceEqDiff, ↓reduceIte, Nat.reduceLT, Array.toList, Nat.reduceAdd, Nat.reduceMul, Int.reduceToNat, Int.reducePow, UInt8.reduceToNat])
              | (refine call_by hm1 (views_data rfl) ⟨trivial, trivial, trivial⟩ rfl ?_)
              | (refine call_by hm2 (views_data rfl) ⟨trivial, trivial, trivial⟩ rfl ?_)
              | (simp -dsimp (disch := first | assumption | omega) only [dec_t, dec_f])
              | (refine And.intro ?_ ?_
                 · first | omega | decide | (simp (disch := omega) only [wkW, Int.reduceToNat, Int.reducePow] <;> omega) | (simp <;> omega))
              | (simp (disch := omega) only [wkW, Int.reduceToNat, Int.reducePow])
              | fail
        · have hq : 2 * p = q := by omega
          rw [hq] at hm1 hs
          repeat' first
            | (simp only [hwi, hshr, hand])
            | (with_reducible first | refine PW.seq ?_ | refine PW.block ?_ | refine PW.fork ?_ | refine PW.skip ?_ | refine PW.exit ?_ | refine PW.ret ?_)
            | (with_reducible refine PW.region ttOk ?_ ?_
               · rfl)
            | (with_reducible refine PW.regionD ttOk mixed ?_ ?_ ?_
               · rfl
               · rfl)
            | (with_reducible refine ifW_dec (fun g => ?_) (fun g => ?_) <;> first | (exfalso; omega) | (simp -dsimp only [g, wkI]))
            | (with_reducible refine condE_dec (fun g => ?_) (fun g => ?_) <;> try (exfalso; omega))
            | (with_reducible refine condE_not (fun g => ?_) (fun g => ?_) <;> try (exfalso; omega))
            | (simp -dsimp only [↓wkA, ↓wkE, wkB, ↓tt, Nat.reduceBEq, Nat.reduceEqDiff, ↓reduceIte, Nat.reduceLT, Array.toList, Nat.reduceAdd, Nat.reduceMul, Int.reduceToNat, Int.reducePow, UInt8.reduceToNat])
            | (refine call_by hm1 (views_data rfl) ⟨trivial, trivial, trivial⟩ rfl ?_)
            | (simp -dsimp (disch := first | assumption | omega) only [dec_t, dec_f])
            | (refine And.intro ?_ ?_
               · first | omega | decide | (simp (disch := omega) only [wkW, Int.reduceToNat, Int.reducePow] <;> omega) | (simp <;> omega))
            | (simp (disch := omega) only [wkW, Int.reduceToNat, Int.reducePow])
            | fail
          exact Again.mk i (pwF n (natL (10 ^ q)) i) ⟨1, [], [], []⟩ (by omega) (Sub.norm ⟨rfl, rfl, rfl, rfl, trivial⟩ trivial (Nat.le_refl _) rfl rfl rfl rfl) ⟨by omega, by rw [hqe]; exact hs, by rw [hqe], rfl⟩
      · have hm1 := mul_over (hne p) (hne p) hlt hlt (by rw [hsq]; exact hs)
        rw [hmono (2 * p) (by omega) hs]
        repeat' first
          | (simp only [hwi, hshr, hand])
          | (with_reducible first | refine PW.seq ?_ | refine PW.block ?_ | refine PW.fork ?_ | refine PW.skip ?_ | refine PW.exit ?_ | refine PW.ret ?_)
          | (with_reducible refine PW.region ttOk ?_ ?_
             · rfl)
          | (with_reducible refine PW.regionD ttOk mixed ?_ ?_ ?_
             · rfl
             · rfl)
          | (with_reducible refine ifW_dec (fun g => ?_) (fun g => ?_) <;> first | (exfalso; omega) | (simp -dsimp only [g, wkI]))
          | (with_reducible refine condE_dec (fun g => ?_) (fun g => ?_) <;> try (exfalso; omega))
          | (with_reducible refine condE_not (fun g => ?_) (fun g => ?_) <;> try (exfalso; omega))
          | (simp -dsimp only [↓wkA, ↓wkE, wkB, ↓tt, Nat.reduceBEq, Nat.reduceEqDiff, ↓reduceIte, Nat.reduceLT, Array.toList, Nat.reduceAdd, Nat.reduceMul, Int.reduceToNat, Int.reducePow, UInt8.reduceToNat])
          | (refine call_by hm1 (views_data rfl) ⟨trivial, trivial, trivial⟩ rfl ?_)
          | (simp -dsimp (disch := first | assumption | omega) only [dec_t, dec_f])
          | (refine And.intro ?_ ?_
             · first | omega | decide | (simp (disch := omega) only [wkW, Int.reduceToNat, Int.reducePow] <;> omega) | (simp <;> omega))
          | (simp (disch := omega) only [wkW, Int.reduceToNat, Int.reducePow])
          | fail
  rintro F H ⟨hfin, rfl, rfl⟩
  rw [hR1 hfin]
  repeat' first
    | (with_reducible first | refine PW.seq ?_ | refine PW.block ?_ | refine PW.fork ?_ | refine PW.skip ?_ | refine PW.exit ?_ | refine PW.ret ?_)
    | (with_reducible refine PW.region ttOk ?_ ?_
       · rfl)
    | (with_reducible refine PW.regionD ttOk mixed ?_ ?_ ?_
       · rfl
       · rfl)
    | (with_reducible refine ifW_dec (fun g => ?_) (fun g => ?_) <;> first | (exfalso; omega) | (simp -dsimp only [g, wkI]))
    | (with_reducible refine condE_dec (fun g => ?_) (fun g => ?_) <;> try (exfalso; omega))
    | (with_reducible refine condE_not (fun g => ?_) (fun g => ?_) <;> try (exfalso; omega))
    | (simp -dsimp only [↓wkA, ↓wkE, wkB, ↓tt, Nat.reduceBEq, Nat.reduceEqDiff, ↓reduceIte, Nat.reduceLT, Array.toList, Nat.reduceAdd, Nat.reduceMul, Int.reduceToNat, Int.reducePow, UInt8.reduceToNat])
    | (simp -dsimp (disch := first | assumption | omega) only [dec_t, dec_f])
    | (refine And.intro ?_ ?_
       · first | omega | decide | (simp (disch := omega) only [wkW, Int.reduceToNat, Int.reducePow] <;> omega) | (simp <;> omega))
    | (simp (disch := omega) only [wkW, Int.reduceToNat, Int.reducePow])
    | fail
end Go.Proofs.YtjhkpjddcaglnaaDoor
set_option linter.unusedVariables false
set_option linter.unusedSimpArgs false
namespace Go.Proofs.YtjhkpjddcaglnaaDoor
open Go Go.PV

/-- How long what is left is, once the byte is taken off the end. -/
def endN (s : List Int) (c : Int) : Nat → Nat
  | 0 => 0
  | n + 1 => if s.getD n 0 = c then endN s c n else n + 1
theorem endN_le (s : List Int) (c : Int) : ∀ n, endN s c n ≤ n
  | 0 => Nat.le_refl _
  | n + 1 => by
    rw [endN]
    split
    · have := endN_le s c n; omega
    · exact Nat.le_refl _
theorem endN_zero {s : List Int} {c : Int} : ∀ n, endN s c n = 0 ↔ ∀ j, j < n → s.getD j 0 = c
  | 0 => ⟨fun _ j hj => by omega, fun _ => rfl⟩
  | n + 1 => by
    rw [endN]
    by_cases h : s.getD n 0 = c
    · rw [if_pos h, endN_zero n]
      constructor
      · intro h2 j hj
        by_cases e : j = n
        · rw [e]; exact h
        · exact h2 j (by omega)
      · intro h2 j hj; exact h2 j (by omega)
    · rw [if_neg h]
      constructor
      · intro h2; omega
      · intro h2; exact absurd (h2 n (by omega)) h
theorem endN_last {s : List Int} {c : Int} : ∀ n, endN s c n ≠ 0 → s.getD (endN s c n - 1) 0 ≠ c
  | 0, h => absurd rfl h
  | n + 1, h => by
    rw [endN] at h ⊢
    by_cases h2 : s.getD n 0 = c
    · rw [if_pos h2] at h ⊢; exact endN_last n h
    · rw [if_neg h2]; exact h2

def headL (c : Int) : List Int → List Int
  | [] => []
  | x :: r => if x = c then headL c r else x :: r
theorem headL_nil {c : Int} : ∀ l : List Int, headL c l = [] ↔ ∀ x ∈ l, x = c
  | [] => by simp [headL]
  | x :: r => by
    rw [headL]
    by_cases h : x = c
    · rw [if_pos h, headL_nil r]
      constructor
      · intro h2 y hy
        rcases List.mem_cons.1 hy with rfl | hy
        · exact h
        · exact h2 y hy
      · intro h2 y hy; exact h2 y (by simp [hy])
    · rw [if_neg h]
      constructor
      · intro h2; cases h2
      · intro h2; exact absurd (h2 x (by simp)) h

theorem trim_right (s : List Int) (c : Int) (hsl : s.length ≤ 1000000000000000) : Meets Tryd.prog 53 [.str s, .int .u8 c] (.str (s.take (endN s c s.length))) := by
  refine meets_by ttOk Tryd.func53 Tryd.ntmps53 Tryd.results53 (by kernel_rfl) (c := _) rfl rfl rfl fun E => ?_
  simp only [argsFrame]
  repeat' first
    | (with_reducible first | refine PW.seq ?_ | refine PW.block ?_ | refine PW.fork ?_ | refine PW.skip ?_ | refine PW.exit ?_ | refine PW.ret ?_)
    | (with_reducible refine PW.region ttOk ?_ ?_
       · rfl)
    | (with_reducible refine PW.regionD ttOk mixed ?_ ?_ ?_
       · rfl
       · rfl)
    | (with_reducible refine ifW_dec (fun g => ?_) (fun g => ?_) <;> first | (exfalso; omega) | (simp -dsimp only [g, wkI]))
    | (with_reducible refine condE_dec (fun g => ?_) (fun g => ?_) <;> try (exfalso; omega))
    | (with_reducible refine condE_not (fun g => ?_) (fun g => ?_) <;> try (exfalso; omega))
    | (simp -dsimp only [↓wkA, ↓wkE, wkB, ↓tt, Nat.reduceBEq, Nat.reduceEqDiff, ↓reduceIte, Nat.reduceLT, Array.toList, Nat.reduceAdd, Nat.reduceMul, Int.reduceToNat, Int.reducePow, UInt8.reduceToNat])
    | (simp -dsimp (disch := first | assumption | omega) only [dec_t, dec_f])
    | (refine And.intro ?_ ?_
       · first | omega | decide | (simp (disch := omega) only [wkW, Int.reduceToNat, Int.reducePow] <;> omega) | (simp <;> omega))
    | (simp (disch := omega) only [wkW, Int.reduceToNat, Int.reducePow])
    | fail
  refine PW.loopA (fun m F H => m ≤ s.length ∧ endN s c m = endN s c s.length ∧ F = [(0, .str (s.take m)), (1, .int .u8 c)] ∧ H = ⟨0, [], [], []⟩) s.length [(0, .str (s.take s.length)), (1, .int .u8 c)] ⟨0, [], [], []⟩ (Sub.norm ⟨congrArg PV.str List.take_length.symm, rfl, trivial⟩ trivial (Nat.le_refl _) rfl rfl rfl rfl) ⟨Nat.le_refl _, rfl, rfl, rfl⟩ ?_
  rintro m F H ⟨hm, he, rfl, rfl⟩
  have hl : (s.take m).length = m := by simp; omega
  cases m with
  | zero =>
    have : s.take (endN s c s.length) = [] := by rw [← he]; rfl
    rw [this]
    repeat' first
      | (with_reducible first | refine PW.seq ?_ | refine PW.block ?_ | refine PW.fork ?_ | refine PW.skip ?_ | refine PW.exit ?_ | refine PW.ret ?_)
      | (with_reducible refine PW.region ttOk ?_ ?_
         · rfl)
      | (with_reducible refine PW.regionD ttOk mixed ?_ ?_ ?_
         · rfl
         · rfl)
      | (with_reducible refine ifW_dec (fun g => ?_) (fun g => ?_) <;> first | (exfalso; omega) | (simp -dsimp only [g, wkI]))
      | (with_reducible refine condE_dec (fun g => ?_) (fun g => ?_) <;> try (exfalso; omega))
      | (with_reducible refine condE_not (fun g => ?_) (fun g => ?_) <;> try (exfalso; omega))
      | (simp -dsimp only [↓wkA, ↓wkE, wkB, ↓tt, Nat.reduceBEq, Nat.reduceEqDiff, ↓reduceIte, Nat.reduceLT, Array.toList, Nat.reduceAdd, Nat.reduceMul, Int.reduceToNat, Int.reducePow, UInt8.reduceToNat])
      | (simp -dsimp (disch := first | assumption | omega) only [dec_t, dec_f])
      | (refine And.intro ?_ ?_
         · first | omega | decide | (simp (disch := omega) only [wkW, Int.reduceToNat, Int.reducePow] <;> omega) | (simp <;> omega))
      | (simp (disch := omega) only [wkW, Int.reduceToNat, Int.reducePow])
      | fail
  | succ m =>
    have hg : (s.take (m + 1)).getD m 0 = s.getD m 0 := by
      rw [List.getD_eq_getElem?_getD, List.getElem?_take, if_pos (by omega), List.getD_eq_getElem?_getD]
    have e : ((m + 1 : Nat) : Int) - 1 = (m : Int) := by omega
    have hw : IntKind.wrap .i64 (m : Int) = (m : Int) := wrap_i64 (by omega)
    have htt : (s.take (m + 1)).take m = s.take m := by rw [List.take_take, Nat.min_eq_left (by omega)]
    obtain ⟨t, htd⟩ : ∃ t, s.take (m + 1) = t := ⟨_, rfl⟩
    rw [htd] at hl hg htt ⊢
    repeat' first
      | (simp only [hl, e, hw, Int.toNat_natCast, Int.sub_zero, hg, htt])
      | (with_reducible first | refine PW.seq ?_ | refine PW.block ?_ | refine PW.fork ?_ | refine PW.skip ?_ | refine PW.exit ?_ | refine PW.ret ?_)
      | (with_reducible refine PW.region ttOk ?_ ?_
         · rfl)
      | (with_reducible refine PW.regionD ttOk mixed ?_ ?_ ?_
         · rfl
         · rfl)
      | (with_reducible refine ifW_dec (fun g => ?_) (fun g => ?_) <;> first | (exfalso; omega) | (simp -dsimp only [g, wkI]))
      | (with_reducible refine condE_dec (fun g => ?_) (fun g => ?_) <;> try (exfalso; omega))
      | (with_reducible refine condE_not (fun g => ?_) (fun g => ?_) <;> try (exfalso; omega))
      | (simp -dsimp only [↓wkA, ↓wkE, wkB, ↓tt, Nat.reduceBEq, Nat.reduceEqDiff, ↓reduceIte, Nat.reduceLT, Array.toList, Nat.reduceAdd, Nat.reduceMul, Int.reduceToNat, Int.reducePow, UInt8.reduceToNat])
      | (simp -dsimp (disch := first | assumption | omega) only [dec_t, dec_f])
      | (refine And.intro ?_ ?_
         · first | omega | decide | (simp (disch := omega) only [wkW, Int.reduceToNat, Int.reducePow] <;> omega) | (simp <;> omega))
      | (simp (disch := omega) only [wkW, Int.reduceToNat, Int.reducePow])
      | fail
    · have h0 : s.getD m 0 = c := by assumption
      exact Again.mk m [(0, .str (s.take m)), (1, .int .u8 c)] ⟨0, [], [], []⟩ (by omega) (Sub.norm ⟨rfl, rfl, trivial⟩ trivial (Nat.le_refl _) rfl rfl rfl rfl) ⟨by omega, by rw [← he, endN, if_pos h0], rfl, rfl⟩
    · have h0 : ¬ s.getD m 0 = c := by assumption
      rw [← he, endN, if_neg h0, htd]

theorem trim_left (s : List Int) (c : Int) (hsl : s.length ≤ 1000000000000000) : Meets Tryd.prog 52 [.str s, .int .u8 c] (.str (headL c s)) := by
  refine meets_by ttOk Tryd.func52 Tryd.ntmps52 Tryd.results52 (by kernel_rfl) (c := _) rfl rfl rfl fun E => ?_
  simp only [argsFrame]
  repeat' first
    | (with_reducible first | refine PW.seq ?_ | refine PW.block ?_ | refine PW.fork ?_ | refine PW.skip ?_ | refine PW.exit ?_ | refine PW.ret ?_)
    | (with_reducible refine PW.region ttOk ?_ ?_
       · rfl)
    | (with_reducible refine PW.regionD ttOk mixed ?_ ?_ ?_
       · rfl
       · rfl)
    | (with_reducible refine ifW_dec (fun g => ?_) (fun g => ?_) <;> first | (exfalso; omega) | (simp -dsimp only [g, wkI]))
    | (with_reducible refine condE_dec (fun g => ?_) (fun g => ?_) <;> try (exfalso; omega))
    | (with_reducible refine condE_not (fun g => ?_) (fun g => ?_) <;> try (exfalso; omega))
    | (simp -dsimp only [↓wkA, ↓wkE, wkB, ↓tt, Nat.reduceBEq, Nat.reduceEqDiff, ↓reduceIte, Nat.reduceLT, Array.toList, Nat.reduceAdd, Nat.reduceMul, Int.reduceToNat, Int.reducePow, UInt8.reduceToNat])
    | (simp -dsimp (disch := first | assumption | omega) only [dec_t, dec_f])
    | (refine And.intro ?_ ?_
       · first | omega | decide | (simp (disch := omega) only [wkW, Int.reduceToNat, Int.reducePow] <;> omega) | (simp <;> omega))
    | (simp (disch := omega) only [wkW, Int.reduceToNat, Int.reducePow])
    | fail
  refine PW.loopA (fun m F H => ∃ t : List Int, t.length = m ∧ m ≤ s.length ∧ headL c t = headL c s ∧ F = [(0, .str t), (1, .int .u8 c)] ∧ H = ⟨0, [], [], []⟩) s.length [(0, .str s), (1, .int .u8 c)] ⟨0, [], [], []⟩ (Sub.norm ⟨rfl, rfl, trivial⟩ trivial (Nat.le_refl _) rfl rfl rfl rfl) ⟨s, rfl, Nat.le_refl _, rfl, rfl, rfl⟩ ?_
  rintro m F H ⟨t, ht, hm, he, rfl, rfl⟩
  rw [← he]
  clear he
  cases t with
  | nil =>
    repeat' first
      | (with_reducible first | refine PW.seq ?_ | refine PW.block ?_ | refine PW.fork ?_ | refine PW.skip ?_ | refine PW.exit ?_ | refine PW.ret ?_)
      | (with_reducible refine PW.region ttOk ?_ ?_
         · rfl)
      | (with_reducible refine PW.regionD ttOk mixed ?_ ?_ ?_
         · rfl
         · rfl)
      | (with_reducible refine ifW_dec (fun g => ?_) (fun g => ?_) <;> first | (exfalso; omega) | (simp -dsimp only [g, wkI]))
      | (with_reducible refine condE_dec (fun g => ?_) (fun g => ?_) <;> try (exfalso; omega))
      | (with_reducible refine condE_not (fun g => ?_) (fun g => ?_) <;> try (exfalso; omega))
      | (simp -dsimp only [↓wkA, ↓wkE, wkB, ↓tt, Nat.reduceBEq, Nat.reduceEqDiff, ↓reduceIte, Nat.reduceLT, Array.toList, Nat.reduceAdd, Nat.reduceMul, Int.reduceToNat, Int.reducePow, UInt8.reduceToNat])
      | (simp -dsimp (disch := first | assumption | omega) only [dec_t, dec_f])
      | (refine And.intro ?_ ?_
         · first | omega | decide | (simp (disch := omega) only [wkW, Int.reduceToNat, Int.reducePow] <;> omega) | (simp <;> omega))
      | (simp (disch := omega) only [wkW, Int.reduceToNat, Int.reducePow])
      | fail
    rfl
  | cons x r =>
    simp only [List.length_cons] at ht
    have hr : List.take r.length r = r := List.take_length
    repeat' first
      | (simp only [List.drop_succ_cons, List.drop_zero, hr, Int.toNat_natCast])
      | (with_reducible first | refine PW.seq ?_ | refine PW.block ?_ | refine PW.fork ?_ | refine PW.skip ?_ | refine PW.exit ?_ | refine PW.ret ?_)
      | (with_reducible refine PW.region ttOk ?_ ?_
         · rfl)
      | (with_reducible refine PW.regionD ttOk mixed ?_ ?_ ?_
         · rfl
         · rfl)
      | (with_reducible refine ifW_dec (fun g => ?_) (fun g => ?_) <;> first | (exfalso; omega) | (simp -dsimp only [g, wkI]))
      | (with_reducible refine condE_dec (fun g => ?_) (fun g => ?_) <;> try (exfalso; omega))
      | (with_reducible refine condE_not (fun g => ?_) (fun g => ?_) <;> try (exfalso; omega))
      | (simp -dsimp only [↓wkA, ↓wkE, wkB, ↓tt, Nat.reduceBEq, Nat.reduceEqDiff, ↓reduceIte, Nat.reduceLT, Array.toList, Nat.reduceAdd, Nat.reduceMul, Int.reduceToNat, Int.reducePow, UInt8.reduceToNat])
      | (simp -dsimp (disch := first | assumption | omega) only [dec_t, dec_f])
      | (refine And.intro ?_ ?_
         · first | omega | decide | (simp (disch := omega) only [wkW, Int.reduceToNat, Int.reducePow] <;> omega) | (simp <;> omega))
      | (simp (disch := omega) only [wkW, Int.reduceToNat, Int.reducePow])
      | fail
    · have h0 : x = c := by assumption
      exact Again.mk r.length [(0, .str r), (1, .int .u8 c)] ⟨0, [], [], []⟩ (by omega) (Sub.norm ⟨rfl, rfl, trivial⟩ trivial (Nat.le_refl _) rfl rfl rfl rfl) ⟨r, rfl, by omega, by conv => { rhs; rw [headL, if_pos h0] }, rfl, rfl⟩
    · have h0 : ¬ x = c := by assumption
      rw [headL, if_neg h0]

theorem trim_byte (s : List Int) (hsl : s.length ≤ 1000000000000000) : Meets Tryd.prog 31 [.str s, .str [48]] (.str (headL 48 (s.take (endN s 48 s.length)))) := by
  have h1 := trim_right s 48 hsl
  have hl := endN_le s 48 s.length
  have h2 := trim_left (s.take (endN s 48 s.length)) 48 (by simp; omega)
  refine meets_by ttOk Tryd.func31 Tryd.ntmps31 Tryd.results31 (by kernel_rfl) (c := _) rfl rfl rfl fun E => ?_
  simp only [argsFrame]
  by_cases hs : s = []
  · subst hs
    have : headL 48 (([] : List Int).take (endN [] 48 ([] : List Int).length)) = [] := rfl
    rw [this]
    repeat' first
      | (simp only [eq_self, decide_true])
      | (with_reducible first | refine PW.seq ?_ | refine PW.block ?_ | refine PW.fork ?_ | refine PW.skip ?_ | refine PW.exit ?_ | refine PW.ret ?_)
      | (with_reducible refine PW.region ttOk ?_ ?_
         · rfl)
      | (with_reducible refine PW.regionD ttOk mixed ?_ ?_ ?_
         · rfl
         · rfl)
      | (with_reducible refine ifW_dec (fun g => ?_) (fun g => ?_) <;> first | (exfalso; omega) | (simp -dsimp only [g, wkI]))
      | (with_reducible refine condE_dec (fun g => ?_) (fun g => ?_) <;> try (exfalso; omega))
      | (with_reducible refine condE_not (fun g => ?_) (fun g => ?_) <;> try (exfalso; omega))
      | (simp -dsimp only [↓wkA, ↓wkE, wkB, ↓tt, Nat.reduceBEq, Nat.reduceEqDiff, ↓reduceIte, Nat.reduceLT, Array.toList, Nat.reduceAdd, Nat.reduceMul, Int.reduceToNat, Int.reducePow, UInt8.reduceToNat])
      | (simp -dsimp (disch := first | assumption | omega) only [dec_t, dec_f])
      | (refine And.intro ?_ ?_
         · first | omega | decide | (simp (disch := omega) only [wkW, Int.reduceToNat, Int.reducePow] <;> omega) | (simp <;> omega))
      | (simp (disch := omega) only [wkW, Int.reduceToNat, Int.reducePow])
      | fail
  · have hd : decide (s = []) = false := decide_eq_false hs
    repeat' first
      | (simp only [hd, reduceCtorEq, decide_false])
      | (with_reducible first | refine PW.seq ?_ | refine PW.block ?_ | refine PW.fork ?_ | refine PW.skip ?_ | refine PW.exit ?_ | refine PW.ret ?_)
      | (with_reducible refine PW.region ttOk ?_ ?_
         · rfl)
      | (with_reducible refine PW.regionD ttOk mixed ?_ ?_ ?_
         · rfl
         · rfl)
      | (with_reducible refine ifW_dec (fun g => ?_) (fun g => ?_) <;> first | (exfalso; omega) | (simp -dsimp only [g, wkI]))
      | (with_reducible refine condE_dec (fun g => ?_) (fun g => ?_) <;> try (exfalso; omega))
      | (with_reducible refine condE_not (fun g => ?_) (fun g => ?_) <;> try (exfalso; omega))
      | (simp -dsimp only [↓wkA, ↓wkE, wkB, ↓tt, Nat.reduceBEq, Nat.reduceEqDiff, ↓reduceIte, Nat.reduceLT, Array.toList, Nat.reduceAdd, Nat.reduceMul, Int.reduceToNat, Int.reducePow, UInt8.reduceToNat])
      | (refine callD_by h1 (views_data rfl) ⟨trivial, trivial, trivial⟩ rfl ?_)
      | (refine callD_by h2 (views_data rfl) ⟨trivial, trivial, trivial⟩ rfl ?_)
      | (simp -dsimp (disch := first | assumption | omega) only [dec_t, dec_f])
      | (refine And.intro ?_ ?_
         · first | omega | decide | (simp (disch := omega) only [wkW, Int.reduceToNat, Int.reducePow] <;> omega) | (simp <;> omega))
      | (simp (disch := omega) only [wkW, Int.reduceToNat, Int.reducePow])
      | fail

/-- Nothing but zeros. -/
def AllZ (s : List Int) : Prop := ∀ j, j < s.length → s.getD j 0 = 48
theorem trim_nil {s : List Int} : headL 48 (s.take (endN s 48 s.length)) = [] ↔ AllZ s := by
  have hl := endN_le s 48 s.length
  rw [headL_nil]
  constructor
  · intro h
    refine (endN_zero s.length).1 ?_
    rcases Nat.eq_zero_or_pos (endN s 48 s.length) with h0 | h0
    · exact h0
    · exfalso
      refine endN_last (s := s) (c := 48) s.length (show endN s 48 s.length ≠ 0 by omega) (h _ ?_)
      have hlt : endN s 48 s.length - 1 < s.length := by omega
      rw [List.getD_eq_getElem?_getD, List.getElem?_eq_getElem hlt]
      exact List.mem_take_iff_getElem.2 ⟨endN s 48 s.length - 1, Nat.lt_min.2 ⟨by omega, hlt⟩, rfl⟩
  · intro h
    rw [(endN_zero s.length).2 h]
    intro x hx; cases hx
end Go.Proofs.YtjhkpjddcaglnaaDoor
set_option linter.unusedVariables false
set_option linter.unusedSimpArgs false
namespace Go.Proofs.YtjhkpjddcaglnaaDoor
open Go Go.PV

/-- One more at the end: nines become zeros. -/
def upD (row : List Int) : Nat → List Int × Bool
  | 0 => (row, true)
  | i + 1 => if row.getD i 0 = 57 then upD (row.set i 48) i else (row.set i (row.getD i 0 + 1), false)
def Digs (s : List Int) : Prop := ∀ x ∈ s, 48 ≤ x ∧ x ≤ 57
theorem digs_get {s : List Int} (h : Digs s) {i : Nat} (hi : i < s.length) : 48 ≤ s.getD i 0 ∧ s.getD i 0 ≤ 57 := by
  rw [List.getD_eq_getElem?_getD, List.getElem?_eq_getElem hi]; exact h _ (List.getElem_mem hi)
theorem digs_set {s : List Int} (h : Digs s) (i : Nat) {x : Int} (hx : 48 ≤ x ∧ x ≤ 57) : Digs (s.set i x) := fun y hy => by
  rcases List.mem_or_eq_of_mem_set hy with h1 | rfl
  · exact h y h1
  · exact hx
theorem digs_bytes {s : List Int} (h : Digs s) : Bytes' s := fun x hx => by have := h x hx; omega
theorem digs_take {s : List Int} (h : Digs s) (k : Nat) : Digs (s.take k) := fun x hx => h x (List.mem_of_mem_take hx)

/-- What half tells; z: nothing but zeros behind the first. -/
def HalfIs (n0 : Int) (mo z : Nat) (h : Int) : Prop := (n0 < 53 ∧ h = -1) ∨ (53 ≤ n0 ∧ (53 < n0 ∨ mo = 1) ∧ h = 1) ∨ (n0 = 53 ∧ mo ≠ 1 ∧ z = 1 ∧ h = 0) ∨ (n0 = 53 ∧ mo ≠ 1 ∧ z ≠ 1 ∧ h = 1)

/-- Round's answer to a good row that is cut. -/
def roundR (s : List Int) (k : Nat) (mo z : Nat) : List Int × Bool :=
  if s.getD k 0 < 53 ∨ (s.getD k 0 = 53 ∧ mo ≠ 1 ∧ z = 1 ∧ ¬ (0 < k ∧ (s.getD (k - 1) 0 - 48) % 2 = 1)) then (s.take k, false) else upD (s.take k) k

def RdI (k : Nat) (up : List Int × Bool) (a b : Nat) (m : Nat) (F : PV.Frame) (H : PV.Heap) : Prop :=
  ∃ row : List Int, row.length = k ∧ Digs row ∧ m ≤ k ∧ upD row m = up ∧ F = [(b, .int .i64 ((m : Int) - 1)), (a, .sl 0 0 k true)] ∧ H = ⟨1, [(0, .ints .u8 row)], [], []⟩

end Go.Proofs.YtjhkpjddcaglnaaDoor
set_option linter.unusedVariables false
set_option linter.unusedSimpArgs false
namespace Go.Proofs.YtjhkpjddcaglnaaDoor
open Go Go.PV

theorem numN_congr (b : Nat) {s t : List Int} : ∀ n, (∀ j, j < n → s.getD j 0 = t.getD j 0) → numN b s n = numN b t n
  | 0, _ => rfl
  | n + 1, h => by rw [numN, numN, numN_congr b n fun j hj => h j (by omega), h n (by omega)]
theorem getD_set_ne {s : List Int} {k j : Nat} {x : Int} (h : k ≠ j) : (s.set k x).getD j 0 = s.getD j 0 := by
  rw [List.getD_eq_getElem?_getD, List.getD_eq_getElem?_getD, List.getElem?_set_ne h]
theorem getD_set_eq {s : List Int} {k : Nat} {x : Int} (h : k < s.length) : (s.set k x).getD k 0 = x := by
  rw [List.getD_eq_getElem?_getD, List.getElem?_set_self h]; rfl
theorem getD_take' {s : List Int} {k j : Nat} (h : j < k) : (s.take k).getD j 0 = s.getD j 0 := by
  rw [List.getD_eq_getElem?_getD, List.getD_eq_getElem?_getD, List.getElem?_take_of_lt h]
theorem getD_drop' {s : List Int} {k j : Nat} : (s.drop k).getD j 0 = s.getD (k + j) 0 := by
  rw [List.getD_eq_getElem?_getD, List.getD_eq_getElem?_getD, List.getElem?_drop]
theorem numN_split (b : Nat) (s : List Int) (k : Nat) : ∀ i, numN b s (k + i) = numN b s k * b ^ i + numN b (s.drop k) i
  | 0 => by simp [numN]
  | i + 1 => by
    rw [show k + (i + 1) = (k + i) + 1 by omega, numN, numN_split b s k i, numN, getD_drop', Nat.pow_succ, Nat.add_mul, Nat.mul_assoc]
    omega
theorem num_split (b : Nat) {s : List Int} {k : Nat} (hk : k ≤ s.length) : num b s = num b (s.take k) * b ^ (s.length - k) + num b (s.drop k) := by
  have h := numN_split b s k (s.length - k)
  rw [show k + (s.length - k) = s.length by omega] at h
  unfold num
  rw [List.length_take, List.length_drop, Nat.min_eq_left hk, numN_congr b (s := s.take k) (t := s) k fun j hj => getD_take' hj]
  exact h
theorem worth_digit {c : Int} (h : 48 ≤ c ∧ c ≤ 57) : worth c = c - 48 := by unfold worth; rw [if_pos h]
theorem numN_digs_lt {s : List Int} (hs : Digs s) : ∀ n, n ≤ s.length → numN 10 s n < 10 ^ n
  | 0, _ => by simp [numN]
  | n + 1, h => by
    have ih := numN_digs_lt hs n (by omega)
    have hd := digs_get hs (show n < s.length by omega)
    rw [numN, worth_digit hd, Nat.pow_succ]
    omega
theorem num_digs_lt {s : List Int} (hs : Digs s) : num 10 s < 10 ^ s.length := numN_digs_lt hs _ (Nat.le_refl _)
theorem digs_drop {s : List Int} (h : Digs s) (k : Nat) : Digs (s.drop k) := fun x hx => h x (List.mem_of_mem_drop hx)
theorem numN_allz {s : List Int} (hs : Digs s) : ∀ n, n ≤ s.length → (numN 10 s n = 0 ↔ ∀ j, j < n → s.getD j 0 = 48)
  | 0, _ => ⟨fun _ j hj => absurd hj (by omega), fun _ => rfl⟩
  | n + 1, h => by
    have ih := numN_allz hs n (by omega)
    have hd := digs_get hs (show n < s.length by omega)
    rw [numN, worth_digit hd]
    constructor
    · intro h0 j hj
      by_cases e : j = n
      · subst e; omega
      · exact ih.1 (by omega) j (by omega)
    · intro h0
      rw [ih.2 fun j hj => h0 j (by omega), h0 n (by omega)]; rfl

/-- One more at the end: the value is one more. -/
theorem upD_val : ∀ (k : Nat) (row : List Int), k ≤ row.length → Digs row → (upD row k).1.length = row.length ∧ Digs (upD row k).1 ∧ (∀ j, k ≤ j → (upD row k).1.getD j 0 = row.getD j 0) ∧
    numN 10 (upD row k).1 k + (if (upD row k).2 then 10 ^ k else 0) = numN 10 row k + 1
  | 0, row, _, hd => ⟨rfl, hd, fun _ _ => rfl, by simp [upD, numN]⟩
  | k + 1, row, hk, hd => by
    have hx := digs_get hd (show k < row.length by omega)
    rw [upD]
    by_cases h57 : row.getD k 0 = 57
    · rw [if_pos h57]
      obtain ⟨h1, h2, h3, h4⟩ := upD_val k (row.set k 48) (by simp; omega) (digs_set hd k (by decide))
      have hn : numN 10 (row.set k 48) k = numN 10 row k := numN_congr 10 k fun j hj => getD_set_ne (by omega)
      have hk0 : (upD (row.set k 48) k).1.getD k 0 = 48 := by rw [h3 k (Nat.le_refl _), getD_set_eq (by omega)]
      refine ⟨by rw [h1, List.length_set], h2, fun j hj => ?_, ?_⟩
      · rw [h3 j (by omega), getD_set_ne (by omega)]
      · rw [numN, numN, hk0, h57, hn.symm, Nat.pow_succ]
        have w1 : (worth 48).toNat = 0 := rfl
        have w2 : (worth 57).toNat = 9 := rfl
        rw [w1, w2]
        generalize (upD (row.set k 48) k).2 = q at *
        cases q <;> simp only [Bool.false_eq_true, if_false, if_true] at h4 ⊢ <;> omega
    · rw [if_neg h57]
      refine ⟨by rw [List.length_set], digs_set hd k (by omega), fun j hj => ?_, ?_⟩
      · exact getD_set_ne (by omega)
      · have e : (row.set k (row.getD k 0 + 1)).getD k 0 = row.getD k 0 + 1 := getD_set_eq (by omega)
        have hn : numN 10 (row.set k (row.getD k 0 + 1)) k = numN 10 row k := numN_congr 10 k fun j hj => getD_set_ne (by omega)
        rw [numN, numN, e, hn, worth_digit hx, worth_digit (show 48 ≤ row.getD k 0 + 1 ∧ row.getD k 0 + 1 ≤ 57 by omega)]
        simp only [Bool.false_eq_true, if_false]
        omega

/-- Is the row rounded up? -/
def upR (s : List Int) (k : Nat) (mo z : Nat) : Prop := ¬ (s.getD k 0 < 53 ∨ (s.getD k 0 = 53 ∧ mo ≠ 1 ∧ z = 1 ∧ ¬ (0 < k ∧ (s.getD (k - 1) 0 - 48) % 2 = 1)))

/-- What a rounded row is worth, by what is cut off. -/
theorem roundR_val {s : List Int} (hs : Digs s) {k : Nat} (hk : k < s.length) (mo z : Nat) (hz : z = 1 ↔ AllZ (s.drop (k + 1))) {A D U : Nat} (hA : num 10 (s.take k) = A) (hD : num 10 (s.drop k) = D) (hU : 10 ^ (s.length - k) = U) :
    (roundR s k mo z).1.length = k ∧ Digs (roundR s k mo z).1 ∧ D < U ∧ num 10 s = A * U + D ∧
    ((¬ (roundR s k mo z).2 ∧ num 10 (roundR s k mo z).1 = A ∧ (2 * D < U ∨ 2 * D = U ∧ mo ≠ 1 ∧ A % 2 = 0)) ∨
     (num 10 (roundR s k mo z).1 + (if (roundR s k mo z).2 then 10 ^ k else 0) = A + 1 ∧ (U < 2 * D ∨ 2 * D = U ∧ (mo = 1 ∨ A % 2 = 1)))) := by
  have htl : (s.take k).length = k := by rw [List.length_take]; omega
  have hdl : (s.drop k).length = s.length - k := List.length_drop
  have hsp := num_split 10 (s := s) (k := k) (by omega)
  have hDU : D < U := by rw [← hD, ← hU, ← hdl]; exact num_digs_lt (digs_drop hs k)
  rw [hA, hD, hU] at hsp
  have hx := digs_get hs hk
  -- the first digit that is cut, and the rest
  obtain ⟨m, hm⟩ : ∃ m, s.length - k = m + 1 := ⟨s.length - k - 1, by omega⟩
  have hr := numN_split 10 (s.drop k) 1 m
  have hd1 : numN 10 (s.drop k) 1 = (s.getD k 0 - 48).toNat := by
    rw [numN, numN, getD_drop', Nat.add_zero, worth_digit hx]; omega
  have hDe : D = numN 10 (s.drop k) (1 + m) := by rw [← hD, num, hdl, hm, Nat.add_comm]
  rw [← hDe, hd1, List.drop_drop] at hr
  have hdl2 : (s.drop (k + 1)).length = m := by rw [List.length_drop]; omega
  have hrl := numN_digs_lt (digs_drop hs (k + 1)) m (by omega)
  have hrz := numN_allz (digs_drop hs (k + 1)) m (by omega)
  have hz' : z = 1 ↔ numN 10 (s.drop (k + 1)) m = 0 := by rw [hz, hrz]; unfold AllZ; rw [hdl2]
  rw [hm, Nat.pow_succ] at hU
  generalize numN 10 (s.drop (k + 1)) m = r at *
  generalize 10 ^ m = P at *
  obtain ⟨x, hx2⟩ : ∃ x : Nat, s.getD k 0 = 48 + (x : Int) := ⟨(s.getD k 0 - 48).toNat, by omega⟩
  rw [hx2] at hr hx
  rw [show (48 + (x : Int) - 48).toNat = x by omega] at hr
  have hx9 : x ≤ 9 := by omega
  -- the last digit kept
  have hAp : 0 < k → (A % 2 = 1 ↔ (s.getD (k - 1) 0 - 48) % 2 = 1) := fun h0 => by
    obtain ⟨j, rfl⟩ : ∃ j, k = j + 1 := ⟨k - 1, by omega⟩
    have hl := digs_get hs (show j < s.length by omega)
    rw [← hA, num, htl, numN, getD_take' (by omega), worth_digit hl, Nat.add_sub_cancel]
    omega
  have hA0 : k = 0 → A = 0 := fun h0 => by subst h0; rw [← hA]; rfl
  have hcmp : (s.getD k 0 < 53 → 2 * D < U) ∧ (s.getD k 0 = 53 → U ≤ 2 * D ∧ (2 * D = U ↔ r = 0)) ∧ (53 < s.getD k 0 → U < 2 * D) := by
    rw [hx2]
    refine ⟨fun h => ?_, fun h => ?_, fun h => ?_⟩
    · have hx4 : x ≤ 4 := by omega
      have := Nat.mul_le_mul_right P hx4
      omega
    · obtain rfl : x = 5 := by omega
      omega
    · have hx6 : 6 ≤ x := by omega
      have := Nat.mul_le_mul_right P hx6
      have : 0 < P := by omega
      omega
  unfold roundR
  by_cases hdn : s.getD k 0 < 53 ∨ (s.getD k 0 = 53 ∧ mo ≠ 1 ∧ z = 1 ∧ ¬ (0 < k ∧ (s.getD (k - 1) 0 - 48) % 2 = 1))
  · rw [if_pos hdn]
    refine ⟨htl, digs_take hs k, hDU, hsp, .inl ⟨by simp, hA, ?_⟩⟩
    rcases hdn with h | ⟨h1, h2, h3, h4⟩
    · exact .inl (hcmp.1 h)
    · refine .inr ⟨((hcmp.2.1 h1).2.2 (hz'.1 h3)), h2, ?_⟩
      rcases Nat.eq_zero_or_pos k with h0 | h0
      · rw [hA0 h0]
      · have : ¬ A % 2 = 1 := fun h => h4 ⟨h0, (hAp h0).1 h⟩
        omega
  · rw [if_neg hdn]
    obtain ⟨u1, u2, u3, u4⟩ := upD_val k (s.take k) (by omega) (digs_take hs k)
    have hnt : numN 10 (s.take k) k = A := by rw [← hA, num, htl]
    rw [hnt] at u4
    refine ⟨by rw [u1, htl], u2, hDU, hsp, .inr ⟨?_, ?_⟩⟩
    · rw [num, u1, htl]; exact u4
    · have h1 : ¬ s.getD k 0 < 53 := fun h => hdn (.inl h)
      by_cases h53 : s.getD k 0 = 53
      · obtain ⟨c1, c2⟩ := hcmp.2.1 h53
        by_cases hr0 : r = 0
        · refine .inr ⟨c2.2 hr0, ?_⟩
          by_cases hmo : mo = 1
          · exact .inl hmo
          · refine .inr ?_
            have h2 : 0 < k ∧ (s.getD (k - 1) 0 - 48) % 2 = 1 := Classical.not_not.1 fun h => hdn (.inr ⟨h53, hmo, hz'.2 hr0, h⟩)
            exact (hAp h2.1).2 h2.2
        · exact .inl (by have : ¬ 2 * D = U := fun h => hr0 (c2.1 h); omega)
      · exact .inl (hcmp.2.2 (by omega))
end Go.Proofs.YtjhkpjddcaglnaaDoor
set_option linter.unusedVariables false
set_option linter.unusedSimpArgs false
namespace Go.Proofs.YtjhkpjddcaglnaaDoor
open Go Go.PV

set_option exponentiation.threshold 300000 in
theorem nmax_pos : 0 < NMax := Nat.pow_pos (by decide)

theorem shl_zero (n : Nat) (hn : n ≤ 9223372036854775807) : Meets Tryd.prog 17 [.ints .u64 [], .int .i64 (n : Int)] (.tup [.ints .u64 [], .int .i64 0]) := by
  have s1 := size_as (a := []) (by decide) rfl
  have b1 := big_as (a := []) (by decide) rfl
  refine Meets.nil_head .u64 ?_
  refine meets_by ttOk Tryd.func17 Tryd.ntmps17 Tryd.results17 (by kernel_rfl) (c := _) rfl rfl rfl fun E => ?_
  simp only [argsFrame]
  repeat' first
    | (with_reducible first | refine PW.seq ?_ | refine PW.block ?_ | refine PW.fork ?_ | refine PW.skip ?_ | refine PW.exit ?_ | refine PW.ret ?_)
    | (with_reducible refine PW.region ttOk ?_ ?_
       · rfl)
    | (with_reducible refine PW.regionD ttOk mixed ?_ ?_ ?_
       · rfl
       · rfl)
    | (with_reducible refine ifW_dec (fun g => ?_) (fun g => ?_) <;> first | (exfalso; omega) | (simp -dsimp only [g, wkI]))
    | (with_reducible refine condE_dec (fun g => ?_) (fun g => ?_) <;> try (exfalso; omega))
    | (with_reducible refine condE_not (fun g => ?_) (fun g => ?_) <;> try (exfalso; omega))
    | (simp -dsimp only [↓wkA, ↓wkE, wkB, ↓tt, Nat.reduceBEq, Nat.reduceEqDiff, ↓reduceIte, Nat.reduceLT, Array.toList, Nat.reduceAdd, Nat.reduceMul, Int.reduceToNat, Int.reducePow, UInt8.reduceToNat])
    | (refine call_by b1 (views_data rfl) ⟨trivial, trivial⟩ rfl ?_)
    | (refine call_by s1 (views_data rfl) ⟨trivial, trivial⟩ rfl ?_)
    | (simp -dsimp (disch := first | assumption | omega) only [dec_t, dec_f])
    | (refine And.intro ?_ ?_
       · first | omega | decide | (simp (disch := omega) only [wkW, Int.reduceToNat, Int.reducePow] <;> omega) | (simp <;> omega))
    | (simp (disch := omega) only [wkW, Int.reduceToNat, Int.reducePow])
    | fail

theorem shl_nat {u n : Nat} (hu : u < NMax) (hn : n ≤ 262144) (h : u * 2 ^ n < NMax) : Meets Tryd.prog 17 [.ints .u64 (natL u), .int .i64 (n : Int)] (.tup [.ints .u64 (natL (u * 2 ^ n)), .int .i64 0]) := by
  by_cases h0 : u = 0
  · subst h0
    rw [Nat.zero_mul, natL_zero]
    exact shl_zero n (by omega)
  · refine shl_list _ (natL_limbs u) (natL_small hu) (size_natL u) (fun e => h0 (natL_len0.1 e)) n (n / 64) (n % 64) hn rfl rfl _ ?_ h
    rw [val_natL]
    have e : (2 : Nat) ^ n = 2 ^ (n % 64) * 18446744073709551616 ^ (n / 64) := by
      rw [show (18446744073709551616 : Nat) = 2 ^ 64 from rfl, ← Nat.pow_mul, ← Nat.pow_add, show n % 64 + 64 * (n / 64) = n by omega]
    rw [e, Int.natCast_mul, Int.natCast_mul, Int.natCast_pow, Int.natCast_pow]
    simp only [B64]
    grind

theorem digs_getD {b : Nat} (hb : 2 ≤ b) : ∀ (k v : Nat), (digs b v).getD k 0 = v / b ^ k % b
  | 0, v => by
    by_cases h0 : v = 0
    · subst h0; simp [digs_zero]
    · rw [digs_step hb h0]; simp
  | k + 1, v => by
    by_cases h0 : v = 0
    · subst h0; simp [digs_zero]
    · rw [digs_step hb h0, List.getD_cons_succ, digs_getD hb k (v / b), Nat.div_div_eq_div_mul, Nat.pow_succ, Nat.mul_comm b]
theorem natL_getD (v k : Nat) : (natL v).getD k 0 = ((v / 18446744073709551616 ^ k % 18446744073709551616 : Nat) : Int) := by
  have h := digs_getD (b := 18446744073709551616) (by decide) k v
  rw [← h]
  unfold natL
  rw [List.getD_eq_getElem?_getD, List.getElem?_map, List.getD_eq_getElem?_getD]
  cases (digs 18446744073709551616 v)[k]? <;> rfl

theorem bit_parts (v k p : Nat) (hp : p < 64) : v / 18446744073709551616 ^ k % 18446744073709551616 / 2 ^ p % 2 = v / 2 ^ (64 * k + p) % 2 := by
  have e : (18446744073709551616 : Nat) = 2 ^ p * 2 ^ (64 - p) := by rw [← Nat.pow_add, show p + (64 - p) = 64 by omega]
  rw [Nat.pow_add, ← Nat.div_div_eq_div_mul, Nat.pow_mul]
  have e2 : (2 : Nat) ^ 64 = 18446744073709551616 := rfl
  rw [e2]
  generalize v / 18446744073709551616 ^ k = m
  rw [e, Nat.mod_mul_right_div_self, Nat.mod_mod_of_dvd _ (by rw [show 64 - p = (63 - p) + 1 by omega, Nat.pow_succ]; exact Nat.dvd_mul_left ..)]

theorem nat64 (y : Nat) (h : y < 18446744073709551616) : (y : Int) < 18446744073709551616 := by omega
/-- nat.Bit. -/
theorem bit_nat (v i : Nat) (hv : v < NMax) (hi : i ≤ 1000000000000) : Meets Tryd.prog 18 [.ints .u64 (natL v), .int .i64 (i : Int)] (.int .i64 ((v / 2 ^ i % 2 : Nat) : Int)) := by
  have hl := natL_small hv
  have hlt := natL_lt v
  have hg := natL_getD v (i / 64)
  have hgl := getD_limb (natL_limbs v) (i / 64)
  have hb := bit_parts v (i / 64) (i % 64) (by omega)
  rw [show 64 * (i / 64) + i % 64 = i by omega] at hb
  have e1 : ((i : Int)).tdiv 64 = ((i / 64 : Nat) : Int) := by rw [Int.tdiv_eq_ediv_of_nonneg (by omega)]; omega
  have e2 : ((i : Int)).tmod 64 = ((i % 64 : Nat) : Int) := by rw [Int.tmod_eq_emod_of_nonneg (by omega)]; omega
  have w1 : IntKind.wrap .i64 ((i / 64 : Nat) : Int) = ((i / 64 : Nat) : Int) := wrap_i64 (by omega)
  have w2 : IntKind.wrap .u64 ((i % 64 : Nat) : Int) = ((i % 64 : Nat) : Int) := wrap_u64 (by omega)
  have ez : (natL v).length ≤ i / 64 → v / 2 ^ i % 2 = 0 := fun h => by
    have h1 : 18446744073709551616 ^ (natL v).length ≤ 2 ^ i := by
      rw [show (18446744073709551616 : Nat) = 2 ^ 64 from rfl, ← Nat.pow_mul]
      exact Nat.pow_le_pow_right (by omega) (by omega)
    rw [Nat.div_eq_of_lt (by omega)]
  have e3 : ((natL v).getD (i / 64) 0).fdiv (2 ^ min (i % 64) 64) = ((v / 18446744073709551616 ^ (i / 64) % 18446744073709551616 / 2 ^ (i % 64) : Nat) : Int) := by
    rw [hg, Nat.min_eq_left (by omega), Int.fdiv_eq_ediv_of_nonneg _ (by exact_mod_cast Nat.zero_le _)]
    simp
  have hsm : v / 18446744073709551616 ^ (i / 64) % 18446744073709551616 / 2 ^ (i % 64) < 18446744073709551616 := Nat.lt_of_le_of_lt (Nat.div_le_self _ _) (Nat.mod_lt _ (by decide))
  have e4 := and_low 1 (by omega) (a := ((v / 18446744073709551616 ^ (i / 64) % 18446744073709551616 / 2 ^ (i % 64) : Nat) : Int)) ⟨Int.natCast_nonneg _, nat64 _ hsm⟩
  have e5 : ibits .and .u64 ((v / 18446744073709551616 ^ (i / 64) % 18446744073709551616 / 2 ^ (i % 64) : Nat) : Int) 1 = ((v / 2 ^ i % 2 : Nat) : Int) := by
    rw [← hb]
    refine e4.trans ?_
    simp
  have w3 : IntKind.wrap .i64 ((v / 2 ^ i % 2 : Nat) : Int) = ((v / 2 ^ i % 2 : Nat) : Int) := wrap_i64 (by omega)
  refine meets_by ttOk Tryd.func18 Tryd.ntmps18 Tryd.results18 (by kernel_rfl) (c := _) rfl rfl rfl fun E => ?_
  simp only [argsFrame]
  clear hlt hg hb e4 hsm
  by_cases hk : (natL v).length ≤ i / 64
  · rw [ez hk]
    clear e3 e5 w3 ez
    generalize natL v = a at *
    repeat' first
      | (simp only [e1, w1])
      | (with_reducible first | refine PW.seq ?_ | refine PW.block ?_ | refine PW.fork ?_ | refine PW.skip ?_ | refine PW.exit ?_ | refine PW.ret ?_)
      | (with_reducible refine PW.region ttOk ?_ ?_
         · rfl)
      | (with_reducible refine PW.regionD ttOk mixed ?_ ?_ ?_
         · rfl
         · rfl)
      | (with_reducible refine ifW_dec (fun g => ?_) (fun g => ?_) <;> first | (exfalso; omega) | (simp -dsimp only [g, wkI]))
      | (with_reducible refine condE_dec (fun g => ?_) (fun g => ?_) <;> try (exfalso; omega))
      | (with_reducible refine condE_not (fun g => ?_) (fun g => ?_) <;> try (exfalso; omega))
      | (simp -dsimp only [↓wkA, ↓wkE, wkB, ↓tt, Nat.reduceBEq, Nat.reduceEqDiff, ↓reduceIte, Nat.reduceLT, Array.toList, Nat.reduceAdd, Nat.reduceMul, Int.reduceToNat, Int.reducePow, UInt8.reduceToNat])
      | (simp -dsimp (disch := first | assumption | omega) only [dec_t, dec_f])
      | (refine And.intro ?_ ?_
         · first | omega | decide | (simp (disch := omega) only [wkW, Int.reduceToNat, Int.reducePow] <;> omega) | (simp <;> omega))
      | (simp (disch := omega) only [wkW, Int.reduceToNat, Int.reducePow])
      | fail
  · clear ez
    generalize v / 18446744073709551616 ^ (i / 64) % 18446744073709551616 / 2 ^ (i % 64) = y at *
    generalize v / 2 ^ i % 2 = z at *
    generalize natL v = a at *
    repeat' first
      | (simp only [e1, e2, w1, w2, w3, e3, e5, Int.toNat_natCast])
      | (with_reducible first | refine PW.seq ?_ | refine PW.block ?_ | refine PW.fork ?_ | refine PW.skip ?_ | refine PW.exit ?_ | refine PW.ret ?_)
      | (with_reducible refine PW.region ttOk ?_ ?_
         · rfl)
      | (with_reducible refine PW.regionD ttOk mixed ?_ ?_ ?_
         · rfl
         · rfl)
      | (with_reducible refine ifW_dec (fun g => ?_) (fun g => ?_) <;> first | (exfalso; omega) | (simp -dsimp only [g, wkI]))
      | (with_reducible refine condE_dec (fun g => ?_) (fun g => ?_) <;> try (exfalso; omega))
      | (with_reducible refine condE_not (fun g => ?_) (fun g => ?_) <;> try (exfalso; omega))
      | (simp -dsimp only [↓wkA, ↓wkE, wkB, ↓tt, Nat.reduceBEq, Nat.reduceEqDiff, ↓reduceIte, Nat.reduceLT, Array.toList, Nat.reduceAdd, Nat.reduceMul, Int.reduceToNat, Int.reducePow, UInt8.reduceToNat])
      | (simp -dsimp (disch := first | assumption | omega) only [dec_t, dec_f])
      | (refine And.intro ?_ ?_
         · first | omega | decide | (simp (disch := omega) only [wkW, Int.reduceToNat, Int.reducePow] <;> omega) | (simp <;> omega))
      | (simp (disch := omega) only [wkW, Int.reduceToNat, Int.reducePow])
      | fail

set_option exponentiation.threshold 300000 in
theorem ten_small {n : Nat} (h : n ≤ 65000) : 10 ^ n < NMax := by
  rw [nmax_two]
  have h1 : 10 ^ n ≤ (2 ^ 4) ^ n := Nat.pow_le_pow_left (by decide) n
  rw [← Nat.pow_mul] at h1
  exact Nat.lt_of_le_of_lt h1 (Nat.pow_lt_pow_right (by decide) (by omega))
/-- numeral.Read of digits. -/
theorem read_nat {s : List Int} (hs : Digs s) (hne : s ≠ []) (hl : s.length ≤ 50000) : Meets Tryd.prog 13 [.str s] (.tup [.ints .u64 (natL (num 10 s)), .int .i64 0, .int .i64 0]) := by
  have hf := from_base_ok (digs_bytes hs) (by omega) (b := 10) (by omega) hne (fun j hj => by have := digs_get hs hj; rw [worth_digit this]; omega) (by
    rw [nmax_int]
    have h1 := num_digs_lt hs
    have h2 := ten_small (n := s.length) (by omega)
    omega)
  refine meets_by ttOk Tryd.func13 Tryd.ntmps13 Tryd.results13 (by kernel_rfl) (c := _) rfl rfl rfl fun E => ?_
  simp only [argsFrame]
  repeat' first
    | (with_reducible first | refine PW.seq ?_ | refine PW.block ?_ | refine PW.fork ?_ | refine PW.skip ?_ | refine PW.exit ?_ | refine PW.ret ?_)
    | (with_reducible refine PW.region ttOk ?_ ?_
       · rfl)
    | (with_reducible refine PW.regionD ttOk mixed ?_ ?_ ?_
       · rfl
       · rfl)
    | (with_reducible refine ifW_dec (fun g => ?_) (fun g => ?_) <;> first | (exfalso; omega) | (simp -dsimp only [g, wkI]))
    | (with_reducible refine condE_dec (fun g => ?_) (fun g => ?_) <;> try (exfalso; omega))
    | (with_reducible refine condE_not (fun g => ?_) (fun g => ?_) <;> try (exfalso; omega))
    | (simp -dsimp only [↓wkA, ↓wkE, wkB, ↓tt, Nat.reduceBEq, Nat.reduceEqDiff, ↓reduceIte, Nat.reduceLT, Array.toList, Nat.reduceAdd, Nat.reduceMul, Int.reduceToNat, Int.reducePow, UInt8.reduceToNat])
    | (refine call_by hf (views_data rfl) ⟨trivial, trivial, trivial⟩ rfl ?_)
    | (simp -dsimp (disch := first | assumption | omega) only [dec_t, dec_f])
    | (refine And.intro ?_ ?_
       · first | omega | decide | (simp (disch := omega) only [wkW, Int.reduceToNat, Int.reducePow] <;> omega) | (simp <;> omega))
    | (simp (disch := omega) only [wkW, Int.reduceToNat, Int.reducePow])
    | fail
end Go.Proofs.YtjhkpjddcaglnaaDoor
set_option linter.unusedVariables false
set_option linter.unusedSimpArgs false
namespace Go.Proofs.YtjhkpjddcaglnaaDoor
open Go Go.PV

set_option maxHeartbeats 4000000 in
theorem num_round (s : List Int) (hs : Digs s) (hsl : s.length ≤ 140737488351232) (k : Nat) (hk : k < s.length) (mo z : Nat) (hz : z = 1 ↔ AllZ (s.drop (k + 1))) :
    Meets Tryd.prog 10 [.str s, .int .i64 (k : Int), .bool (decide (mo = 1))] (.tup [.str (roundR s k mo z).1, .bool (roundR s k mo z).2, .int .i64 0]) := by
  have hdl : (s.drop (k + 1)).length = s.length - (k + 1) := List.length_drop
  have ht := trim_byte (s.drop (k + 1)) (by omega)
  have htz := trim_nil (s := s.drop (k + 1))
  generalize headL 48 ((s.drop (k + 1)).take (endN (s.drop (k + 1)) 48 (s.drop (k + 1)).length)) = T at *
  have hTz : decide (T = []) = decide (z = 1) := by
    rw [Bool.eq_iff_iff, decide_eq_true_eq, decide_eq_true_eq, htz, hz]
  have hdt : List.take (s.length - (k + 1)) (s.drop (k + 1)) = s.drop (k + 1) := List.take_of_length_le (by omega)
  have e1 : ((s.length : Int) - ((k : Int) + 1)).toNat = s.length - (k + 1) := by omega
  have e3 : ((k : Int) + 1).toNat = k + 1 := by omega
  have w3 : IntKind.wrap .i64 ((k : Int) + 1) = (k : Int) + 1 := wrap_i64 (by omega)
  have hkd := digs_get hs hk
  have htl : (s.take k).length = k := by simp; omega
  have hkd2 : 0 < k → 48 ≤ s.getD (k - 1) 0 ∧ s.getD (k - 1) 0 ≤ 57 := fun h => digs_get hs (by omega)
  have hrd : Digs (s.take k) := digs_take hs k
  have hpr : 0 < k → IntKind.wrap .i64 ((k : Int) - 1) = (k : Int) - 1 ∧ ((k : Int) - 1).toNat = k - 1 ∧ IntKind.wrap .u8 (s.getD (k - 1) 0 - 48) = s.getD (k - 1) 0 - 48 ∧ (s.getD (k - 1) 0 - 48).tmod 2 = (s.getD (k - 1) 0 - 48) % 2 := fun h => by
    have := hkd2 h
    exact ⟨wrap_i64 (by omega), by omega, wrap_u8 (by omega), Int.tmod_eq_emod_of_nonneg (by omega)⟩
  have hne : decide (s = []) = false := decide_eq_false (fun h => by rw [h] at hk; simp at hk)
  refine meets_by ttOk Tryd.func10 Tryd.ntmps10 Tryd.results10 (by kernel_rfl) (c := _) rfl rfl rfl fun E => ?_
  simp only [argsFrame]
  repeat' first
    | (simp only [hne])
    | (with_reducible first | refine PW.seq ?_ | refine PW.block ?_ | refine PW.fork ?_ | refine PW.skip ?_ | refine PW.exit ?_ | refine PW.ret ?_)
    | (with_reducible refine PW.region ttOk ?_ ?_
       · rfl)
    | (with_reducible refine PW.regionD ttOk mixed ?_ ?_ ?_
       · rfl
       · rfl)
    | (with_reducible refine ifW_dec (fun g => ?_) (fun g => ?_) <;> first | (exfalso; omega) | (simp -dsimp only [g, wkI]))
    | (with_reducible refine condE_dec (fun g => ?_) (fun g => ?_) <;> try (exfalso; omega))
    | (with_reducible refine condE_not (fun g => ?_) (fun g => ?_) <;> try (exfalso; omega))
    | (simp -dsimp only [↓wkA, ↓wkE, wkB, ↓tt, Nat.reduceBEq, Nat.reduceEqDiff, ↓reduceIte, Nat.reduceLT, Array.toList, Nat.reduceAdd, Nat.reduceMul, Int.reduceToNat, Int.reducePow, UInt8.reduceToNat])
    | (simp -dsimp (disch := first | assumption | omega) only [dec_t, dec_f])
    | (refine And.intro ?_ ?_
       · first | omega | decide | (simp (disch := omega) only [wkW, Int.reduceToNat, Int.reducePow] <;> omega) | (simp <;> omega))
    | (simp (disch := omega) only [wkW, Int.reduceToNat, Int.reducePow])
    | fail
  refine PW.meetB (fun F H => F = [(0, .str s), (1, .int .i64 (k : Int)), (2, .bool (decide (mo = 1)))] ∧ H = ⟨0, [], [], []⟩) ?_ ?_
  · refine PW.loopA (fun m F H => ∃ i, i + m = s.length ∧ F = [(9, .int .i64 (i : Int)), (0, .str s), (1, .int .i64 (k : Int)), (2, .bool (decide (mo = 1)))] ∧ H = ⟨0, [], [], []⟩) s.length [(9, .int .i64 ((0 : Nat) : Int)), (0, .str s), (1, .int .i64 (k : Int)), (2, .bool (decide (mo = 1)))] ⟨0, [], [], []⟩ (Sub.norm ⟨rfl, rfl, rfl, rfl, trivial⟩ trivial (Nat.le_refl _) rfl rfl rfl rfl) ⟨0, by omega, rfl, rfl⟩ ?_
    rintro m F H ⟨i, hi, rfl, rfl⟩
    cases m with
    | zero =>
      obtain rfl : i = s.length := by omega
      repeat' first
        | (with_reducible first | refine PW.seq ?_ | refine PW.block ?_ | refine PW.fork ?_ | refine PW.skip ?_ | refine PW.exit ?_ | refine PW.ret ?_)
        | (with_reducible refine PW.region ttOk ?_ ?_
           · rfl)
        | (with_reducible refine PW.regionD ttOk mixed ?_ ?_ ?_
           · rfl
           · rfl)
        | (with_reducible refine ifW_dec (fun g => ?_) (fun g => ?_) <;> first | (exfalso; omega) | (simp -dsimp only [g, wkI]))
        | (with_reducible refine condE_dec (fun g => ?_) (fun g => ?_) <;> try (exfalso; omega))
        | (with_reducible refine condE_not (fun g => ?_) (fun g => ?_) <;> try (exfalso; omega))
        | (simp -dsimp only [↓wkA, ↓wkE, wkB, ↓tt, Nat.reduceBEq, Nat.reduceEqDiff, ↓reduceIte, Nat.reduceLT, Array.toList, Nat.reduceAdd, Nat.reduceMul, Int.reduceToNat, Int.reducePow, UInt8.reduceToNat])
        | (simp -dsimp (disch := first | assumption | omega) only [dec_t, dec_f])
        | (refine And.intro ?_ ?_
           · first | omega | decide | (simp (disch := omega) only [wkW, Int.reduceToNat, Int.reducePow] <;> omega) | (simp <;> omega))
        | (simp (disch := omega) only [wkW, Int.reduceToNat, Int.reducePow])
        | fail
      exact Meet.mk [(0, .str s), (1, .int .i64 (k : Int)), (2, .bool (decide (mo = 1)))] ⟨0, [], [], []⟩ (Sub.norm ⟨rfl, rfl, rfl, trivial⟩ trivial (Nat.le_refl _) rfl rfl rfl rfl) ⟨rfl, rfl⟩
    | succ m =>
      have hx := digs_get hs (show i < s.length by omega)
      repeat' first
        | (simp only [Int.toNat_natCast])
        | (with_reducible first | refine PW.seq ?_ | refine PW.block ?_ | refine PW.fork ?_ | refine PW.skip ?_ | refine PW.exit ?_ | refine PW.ret ?_)
        | (with_reducible refine PW.region ttOk ?_ ?_
           · rfl)
        | (with_reducible refine PW.regionD ttOk mixed ?_ ?_ ?_
           · rfl
           · rfl)
        | (with_reducible refine ifW_dec (fun g => ?_) (fun g => ?_) <;> first | (exfalso; omega) | (simp -dsimp only [g, wkI]))
        | (with_reducible refine condE_dec (fun g => ?_) (fun g => ?_) <;> try (exfalso; omega))
        | (with_reducible refine condE_not (fun g => ?_) (fun g => ?_) <;> try (exfalso; omega))
        | (simp -dsimp only [↓wkA, ↓wkE, wkB, ↓tt, Nat.reduceBEq, Nat.reduceEqDiff, ↓reduceIte, Nat.reduceLT, Array.toList, Nat.reduceAdd, Nat.reduceMul, Int.reduceToNat, Int.reducePow, UInt8.reduceToNat])
        | (simp -dsimp (disch := first | assumption | omega) only [dec_t, dec_f])
        | (refine And.intro ?_ ?_
           · first | omega | decide | (simp (disch := omega) only [wkW, Int.reduceToNat, Int.reducePow] <;> omega) | (simp <;> omega))
        | (simp (disch := omega) only [wkW, Int.reduceToNat, Int.reducePow])
        | fail
      exact Again.mk m [(9, .int .i64 ((i + 1 : Nat) : Int)), (0, .str s), (1, .int .i64 (k : Int)), (2, .bool (decide (mo = 1)))] ⟨0, [], [], []⟩ (by omega) (Sub.norm ⟨rfl, rfl, rfl, rfl, trivial⟩ trivial (Nat.le_refl _) rfl rfl rfl rfl) ⟨i + 1, by omega, rfl, rfl⟩
  rintro F H ⟨rfl, rfl⟩
  unfold roundR
  by_cases hdn : s.getD k 0 < 53 ∨ (s.getD k 0 = 53 ∧ mo ≠ 1 ∧ z = 1 ∧ ¬ (0 < k ∧ (s.getD (k - 1) 0 - 48) % 2 = 1))
  · rw [if_pos hdn]
    by_cases hk0 : 0 < k
    · obtain ⟨p1, p2, p3, p4⟩ := hpr hk0
      have hkd2 := hkd2 hk0
      clear hpr
      repeat' first
        | (simp only [Int.toNat_natCast, e1, e3, w3, p1, p2, p3, p4, hdt, hTz, Bool.not_not, Int.sub_zero])
        | (with_reducible first | refine PW.seq ?_ | refine PW.block ?_ | refine PW.fork ?_ | refine PW.skip ?_ | refine PW.exit ?_ | refine PW.ret ?_)
        | (with_reducible refine PW.region ttOk ?_ ?_
           · rfl)
        | (with_reducible refine PW.regionD ttOk mixed ?_ ?_ ?_
           · rfl
           · rfl)
        | (with_reducible refine ifW_dec (fun g => ?_) (fun g => ?_) <;> first | (exfalso; omega) | (simp -dsimp only [g, wkI]))
        | (with_reducible refine condE_dec (fun g => ?_) (fun g => ?_) <;> try (exfalso; omega))
        | (with_reducible refine condE_not (fun g => ?_) (fun g => ?_) <;> try (exfalso; omega))
        | (simp -dsimp only [↓wkA, ↓wkE, wkB, ↓tt, Nat.reduceBEq, Nat.reduceEqDiff, ↓reduceIte, Nat.reduceLT, Array.toList, Nat.reduceAdd, Nat.reduceMul, Int.reduceToNat, Int.reducePow, UInt8.reduceToNat])
        | (with_reducible refine ifW_not (fun g => ?_) (fun g => ?_) <;> first | (exfalso; omega) | (simp -dsimp only [g, ifW_tt, ifW_ff, ifW_tf, ifW_ft, decide_true, decide_false, Bool.not_true, Bool.not_false]))
        | (refine call_by ht (views_data rfl) ⟨trivial, trivial, trivial⟩ rfl ?_)
        | (simp -dsimp (disch := first | assumption | omega) only [dec_t, dec_f])
        | (refine And.intro ?_ ?_
           · first | omega | decide | (simp (disch := omega) only [wkW, Int.reduceToNat, Int.reducePow] <;> omega) | (simp <;> omega))
        | (simp (disch := omega) only [wkW, Int.reduceToNat, Int.reducePow])
        | fail
    · obtain rfl : k = 0 := by omega
      repeat' first
        | (simp only [Int.toNat_natCast, e1, e3, w3, hdt, hTz, Bool.not_not, Int.sub_zero])
        | (with_reducible first | refine PW.seq ?_ | refine PW.block ?_ | refine PW.fork ?_ | refine PW.skip ?_ | refine PW.exit ?_ | refine PW.ret ?_)
        | (with_reducible refine PW.region ttOk ?_ ?_
           · rfl)
        | (with_reducible refine PW.regionD ttOk mixed ?_ ?_ ?_
           · rfl
           · rfl)
        | (with_reducible refine ifW_dec (fun g => ?_) (fun g => ?_) <;> first | (exfalso; omega) | (simp -dsimp only [g, wkI]))
        | (with_reducible refine condE_dec (fun g => ?_) (fun g => ?_) <;> try (exfalso; omega))
        | (with_reducible refine condE_not (fun g => ?_) (fun g => ?_) <;> try (exfalso; omega))
        | (simp -dsimp only [↓wkA, ↓wkE, wkB, ↓tt, Nat.reduceBEq, Nat.reduceEqDiff, ↓reduceIte, Nat.reduceLT, Array.toList, Nat.reduceAdd, Nat.reduceMul, Int.reduceToNat, Int.reducePow, UInt8.reduceToNat])
        | (with_reducible refine ifW_not (fun g => ?_) (fun g => ?_) <;> first | (exfalso; omega) | (simp -dsimp only [g, ifW_tt, ifW_ff, ifW_tf, ifW_ft, decide_true, decide_false, Bool.not_true, Bool.not_false]))
        | (refine call_by ht (views_data rfl) ⟨trivial, trivial, trivial⟩ rfl ?_)
        | (simp -dsimp (disch := first | assumption | omega) only [dec_t, dec_f])
        | (refine And.intro ?_ ?_
           · first | omega | decide | (simp (disch := omega) only [wkW, Int.reduceToNat, Int.reducePow] <;> omega) | (simp <;> omega))
        | (simp (disch := omega) only [wkW, Int.reduceToNat, Int.reducePow])
        | fail
  rw [if_neg hdn]
  obtain ⟨up, hup⟩ : ∃ up, upD (s.take k) k = up := ⟨_, rfl⟩
  rw [hup]
  by_cases hk0 : 0 < k
  · obtain ⟨p1, p2, p3, p4⟩ := hpr hk0
    have hkd2 := hkd2 hk0
    clear hpr
    repeat' first
      | (simp only [Int.toNat_natCast, e1, e3, w3, p1, p2, p3, p4, hdt, hTz, Bool.not_not, Int.sub_zero])
      | (with_reducible first | refine PW.seq ?_ | refine PW.block ?_ | refine PW.fork ?_ | refine PW.skip ?_ | refine PW.exit ?_ | refine PW.ret ?_)
      | (with_reducible refine PW.region ttOk ?_ ?_
         · rfl)
      | (with_reducible refine PW.regionD ttOk mixed ?_ ?_ ?_
         · rfl
         · rfl)
      | (with_reducible refine ifW_dec (fun g => ?_) (fun g => ?_) <;> first | (exfalso; omega) | (simp -dsimp only [g, wkI]))
      | (with_reducible refine condE_dec (fun g => ?_) (fun g => ?_) <;> try (exfalso; omega))
      | (with_reducible refine condE_not (fun g => ?_) (fun g => ?_) <;> try (exfalso; omega))
      | (simp -dsimp only [↓wkA, ↓wkE, wkB, ↓tt, Nat.reduceBEq, Nat.reduceEqDiff, ↓reduceIte, Nat.reduceLT, Array.toList, Nat.reduceAdd, Nat.reduceMul, Int.reduceToNat, Int.reducePow, UInt8.reduceToNat])
      | (with_reducible refine ifW_not (fun g => ?_) (fun g => ?_) <;> first | (exfalso; omega) | (simp -dsimp only [g, ifW_tt, ifW_ff, ifW_tf, ifW_ft, decide_true, decide_false, Bool.not_true, Bool.not_false]))
      | (refine call_by ht (views_data rfl) ⟨trivial, trivial, trivial⟩ rfl ?_)
      | (simp -dsimp (disch := first | assumption | omega) only [dec_t, dec_f])
      | (refine And.intro ?_ ?_
         · first | omega | decide | (simp (disch := omega) only [wkW, Int.reduceToNat, Int.reducePow] <;> omega) | (simp <;> omega))
      | (simp (disch := omega) only [wkW, Int.reduceToNat, Int.reducePow])
      | fail
    all_goals clear ht hTz htz hdn hz hdt
    all_goals
      refine PW.loopA (RdI k up 13 14) k [(14, .int .i64 ((k : Int) - 1)), (13, .sl 0 0 k true)] ⟨1, [(0, .ints .u8 (s.take k))], [], []⟩ (Sub.norm ⟨rfl, congrArg (fun n => PV.sl 0 0 n true) htl, trivial⟩ ⟨rfl, trivial⟩ (Nat.le_refl _) rfl rfl rfl rfl) ⟨s.take k, htl, hrd, Nat.le_refl _, hup, rfl, rfl⟩ ?_
      clear hup hrd htl
      rintro m F H ⟨row, hl, hdg, hm, hu, rfl, rfl⟩
      cases m with
      | zero =>
        obtain rfl : (row, true) = up := hu
        have htk : row.take k = row := List.take_of_length_le (by omega)
        have hb := byteOf_list (digs_bytes hdg)
        repeat' first
          | (simp only [htk, hb])
          | (with_reducible first | refine PW.seq ?_ | refine PW.block ?_ | refine PW.fork ?_ | refine PW.skip ?_ | refine PW.exit ?_ | refine PW.ret ?_)
          | (with_reducible refine PW.region ttOk ?_ ?_
             · rfl)
          | (with_reducible refine PW.regionD ttOk mixed ?_ ?_ ?_
             · rfl
             · rfl)
          | (with_reducible refine ifW_dec (fun g => ?_) (fun g => ?_) <;> first | (exfalso; omega) | (simp -dsimp only [g, wkI]))
          | (with_reducible refine condE_dec (fun g => ?_) (fun g => ?_) <;> try (exfalso; omega))
          | (with_reducible refine condE_not (fun g => ?_) (fun g => ?_) <;> try (exfalso; omega))
          | (simp -dsimp only [↓wkA, ↓wkE, wkB, ↓tt, Nat.reduceBEq, Nat.reduceEqDiff, ↓reduceIte, Nat.reduceLT, Array.toList, Nat.reduceAdd, Nat.reduceMul, Int.reduceToNat, Int.reducePow, UInt8.reduceToNat])
          | (simp -dsimp (disch := first | assumption | omega) only [dec_t, dec_f])
          | (refine And.intro ?_ ?_
             · first | omega | decide | (simp (disch := omega) only [wkW, Int.reduceToNat, Int.reducePow] <;> omega) | (simp <;> omega))
          | (simp (disch := omega) only [wkW, Int.reduceToNat, Int.reducePow])
          | fail
      | succ m =>
        have e : ((m + 1 : Nat) : Int) - 1 = (m : Int) := by omega
        have hx := digs_get hdg (show m < row.length by omega)
        rw [upD] at hu
        by_cases h57 : row.getD m 0 = 57
        · rw [if_pos h57] at hu
          have hdg2 := digs_set hdg m (show 48 ≤ (48 : Int) ∧ (48 : Int) ≤ 57 by decide)
          repeat' first
            | (simp only [e, Int.toNat_natCast])
            | (with_reducible first | refine PW.seq ?_ | refine PW.block ?_ | refine PW.fork ?_ | refine PW.skip ?_ | refine PW.exit ?_ | refine PW.ret ?_)
            | (with_reducible refine PW.region ttOk ?_ ?_
               · rfl)
            | (with_reducible refine PW.regionD ttOk mixed ?_ ?_ ?_
               · rfl
               · rfl)
            | (with_reducible refine ifW_dec (fun g => ?_) (fun g => ?_) <;> first | (exfalso; omega) | (simp -dsimp only [g, wkI]))
            | (with_reducible refine condE_dec (fun g => ?_) (fun g => ?_) <;> try (exfalso; omega))
            | (with_reducible refine condE_not (fun g => ?_) (fun g => ?_) <;> try (exfalso; omega))
            | (simp -dsimp only [↓wkA, ↓wkE, wkB, ↓tt, Nat.reduceBEq, Nat.reduceEqDiff, ↓reduceIte, Nat.reduceLT, Array.toList, Nat.reduceAdd, Nat.reduceMul, Int.reduceToNat, Int.reducePow, UInt8.reduceToNat])
            | (simp -dsimp (disch := first | assumption | omega) only [dec_t, dec_f])
            | (refine And.intro ?_ ?_
               · first | omega | decide | (simp (disch := omega) only [wkW, Int.reduceToNat, Int.reducePow] <;> omega) | (simp <;> omega))
            | (simp (disch := omega) only [wkW, Int.reduceToNat, Int.reducePow])
            | fail
          exact Again.mk m [(14, .int .i64 ((m : Int) - 1)), (13, .sl 0 0 k true)] ⟨1, [(0, .ints .u8 (row.set m 48))], [], []⟩ (by omega) (Sub.norm ⟨rfl, rfl, trivial⟩ ⟨rfl, trivial⟩ (Nat.le_refl _) rfl rfl rfl rfl) ⟨_, by rw [List.length_set]; exact hl, hdg2, by omega, hu, rfl, rfl⟩
        · rw [if_neg h57] at hu
          have hdg2 := digs_set hdg m (show 48 ≤ row.getD m 0 + 1 ∧ row.getD m 0 + 1 ≤ 57 by omega)
          have hw : IntKind.wrap .u8 (row.getD m 0 + 1) = row.getD m 0 + 1 := wrap_u8 (by omega)
          have hb := byteOf_list (digs_bytes hdg2)
          have hl2 : (row.set m (row.getD m 0 + 1)).length = k := by rw [List.length_set]; exact hl
          have htk : (row.set m (row.getD m 0 + 1)).take k = row.set m (row.getD m 0 + 1) := List.take_of_length_le (by omega)
          subst hu
          obtain ⟨y, hy⟩ : ∃ y, row.getD m 0 = y := ⟨_, rfl⟩
          rw [hy] at hx h57 hw hb htk hl2 hdg2 ⊢
          repeat' first
            | (simp only [e, hy, hw, Int.toNat_natCast, htk, hb])
            | (with_reducible first | refine PW.seq ?_ | refine PW.block ?_ | refine PW.fork ?_ | refine PW.skip ?_ | refine PW.exit ?_ | refine PW.ret ?_)
            | (with_reducible refine PW.region ttOk ?_ ?_
               · rfl)
            | (with_reducible refine PW.regionD ttOk mixed ?_ ?_ ?_
               · rfl
               · rfl)
            | (with_reducible refine ifW_dec (fun g => ?_) (fun g => ?_) <;> first | (exfalso; omega) | (simp -dsimp only [g, wkI]))
            | (with_reducible refine condE_dec (fun g => ?_) (fun g => ?_) <;> try (exfalso; omega))
            | (with_reducible refine condE_not (fun g => ?_) (fun g => ?_) <;> try (exfalso; omega))
            | (simp -dsimp only [↓wkA, ↓wkE, wkB, ↓tt, Nat.reduceBEq, Nat.reduceEqDiff, ↓reduceIte, Nat.reduceLT, Array.toList, Nat.reduceAdd, Nat.reduceMul, Int.reduceToNat, Int.reducePow, UInt8.reduceToNat])
            | (simp -dsimp (disch := first | assumption | omega) only [dec_t, dec_f])
            | (refine And.intro ?_ ?_
               · first | omega | decide | (simp (disch := omega) only [wkW, Int.reduceToNat, Int.reducePow] <;> omega) | (simp <;> omega))
            | (simp (disch := omega) only [wkW, Int.reduceToNat, Int.reducePow])
            | fail
  · obtain rfl : k = 0 := by omega
    obtain rfl := hup
    repeat' first
      | (simp only [Int.toNat_natCast, e1, e3, w3, hdt, hTz, Bool.not_not, Int.sub_zero])
      | (with_reducible first | refine PW.seq ?_ | refine PW.block ?_ | refine PW.fork ?_ | refine PW.skip ?_ | refine PW.exit ?_ | refine PW.ret ?_)
      | (with_reducible refine PW.region ttOk ?_ ?_
         · rfl)
      | (with_reducible refine PW.regionD ttOk mixed ?_ ?_ ?_
         · rfl
         · rfl)
      | (with_reducible refine ifW_dec (fun g => ?_) (fun g => ?_) <;> first | (exfalso; omega) | (simp -dsimp only [g, wkI]))
      | (with_reducible refine condE_dec (fun g => ?_) (fun g => ?_) <;> try (exfalso; omega))
      | (with_reducible refine condE_not (fun g => ?_) (fun g => ?_) <;> try (exfalso; omega))
      | (simp -dsimp only [↓wkA, ↓wkE, wkB, ↓tt, Nat.reduceBEq, Nat.reduceEqDiff, ↓reduceIte, Nat.reduceLT, Array.toList, Nat.reduceAdd, Nat.reduceMul, Int.reduceToNat, Int.reducePow, UInt8.reduceToNat])
      | (with_reducible refine ifW_not (fun g => ?_) (fun g => ?_) <;> first | (exfalso; omega) | (simp -dsimp only [g, ifW_tt, ifW_ff, ifW_tf, ifW_ft, decide_true, decide_false, Bool.not_true, Bool.not_false]))
      | (refine call_by ht (views_data rfl) ⟨trivial, trivial, trivial⟩ rfl ?_)
      | (simp -dsimp (disch := first | assumption | omega) only [dec_t, dec_f])
      | (refine And.intro ?_ ?_
         · first | omega | decide | (simp (disch := omega) only [wkW, Int.reduceToNat, Int.reducePow] <;> omega) | (simp <;> omega))
      | (simp (disch := omega) only [wkW, Int.reduceToNat, Int.reducePow])
      | fail
    all_goals refine PW.loopA (fun m F H => F = [(14, .int .i64 (-1)), (13, .sl 0 0 0 true)] ∧ H = ⟨1, [(0, .ints .u8 [])], [], []⟩) 0 [(14, .int .i64 (-1)), (13, .sl 0 0 0 true)] ⟨1, [(0, .ints .u8 [])], [], []⟩ (Sub.norm ⟨rfl, rfl, trivial⟩ ⟨rfl, trivial⟩ (Nat.le_refl _) rfl rfl rfl rfl) ⟨rfl, rfl⟩ ?_
    all_goals rintro m F H ⟨rfl, rfl⟩
    all_goals
      repeat' first
        | (with_reducible first | refine PW.seq ?_ | refine PW.block ?_ | refine PW.fork ?_ | refine PW.skip ?_ | refine PW.exit ?_ | refine PW.ret ?_)
        | (with_reducible refine PW.region ttOk ?_ ?_
           · rfl)
        | (with_reducible refine PW.regionD ttOk mixed ?_ ?_ ?_
           · rfl
           · rfl)
        | (with_reducible refine ifW_dec (fun g => ?_) (fun g => ?_) <;> first | (exfalso; omega) | (simp -dsimp only [g, wkI]))
        | (with_reducible refine condE_dec (fun g => ?_) (fun g => ?_) <;> try (exfalso; omega))
        | (with_reducible refine condE_not (fun g => ?_) (fun g => ?_) <;> try (exfalso; omega))
        | (simp -dsimp only [↓wkA, ↓wkE, wkB, ↓tt, Nat.reduceBEq, Nat.reduceEqDiff, ↓reduceIte, Nat.reduceLT, Array.toList, Nat.reduceAdd, Nat.reduceMul, Int.reduceToNat, Int.reducePow, UInt8.reduceToNat])
        | (simp -dsimp (disch := first | assumption | omega) only [dec_t, dec_f])
        | (refine And.intro ?_ ?_
           · first | omega | decide | (simp (disch := omega) only [wkW, Int.reduceToNat, Int.reducePow] <;> omega) | (simp <;> omega))
        | (simp (disch := omega) only [wkW, Int.reduceToNat, Int.reducePow])
        | fail
    all_goals rfl
end Go.Proofs.YtjhkpjddcaglnaaDoor
set_option linter.unusedVariables false
set_option linter.unusedSimpArgs false
namespace Go.Proofs.YtjhkpjddcaglnaaDoor
open Go Go.PV

theorem pow10_ok (n : Nat) (hn : n < 9223372036854775807) (h : 10 ^ n < NMax) : Meets Tryd.prog 12 [.int .i64 (n : Int)] (.tup [.ints .u64 (natL (10 ^ n)), .int .i64 0]) := by
  have hp := pow_ten n hn _ (fun _ => rfl) (fun h2 => absurd h h2)
  refine meets_by ttOk Tryd.func12 Tryd.ntmps12 Tryd.results12 (by kernel_rfl) (c := _) rfl rfl rfl fun E => ?_
  simp only [argsFrame]
  repeat' first
    | (with_reducible first | refine PW.seq ?_ | refine PW.block ?_ | refine PW.fork ?_ | refine PW.skip ?_ | refine PW.exit ?_ | refine PW.ret ?_)
    | (with_reducible refine PW.region ttOk ?_ ?_
       · rfl)
    | (with_reducible refine PW.regionD ttOk mixed ?_ ?_ ?_
       · rfl
       · rfl)
    | (with_reducible refine ifW_dec (fun g => ?_) (fun g => ?_) <;> first | (exfalso; omega) | (simp -dsimp only [g, wkI]))
    | (with_reducible refine condE_dec (fun g => ?_) (fun g => ?_) <;> try (exfalso; omega))
    | (with_reducible refine condE_not (fun g => ?_) (fun g => ?_) <;> try (exfalso; omega))
    | (simp -dsimp only [↓wkA, ↓wkE, wkB, ↓tt, Nat.reduceBEq, Nat.reduceEqDiff, ↓reduceIte, Nat.reduceLT, Array.toList, Nat.reduceAdd, Nat.reduceMul, Int.reduceToNat, Int.reducePow, UInt8.reduceToNat])
    | (refine call_drop (args' := [.ints .u64 [10], .int .i64 (n : Int)]) rfl hp (by simp -dsimp only [okViews, ↓wkA, ↓wkE, wkB, ↓tt, Nat.reduceBEq, Nat.reduceEqDiff, ↓reduceIte, Nat.reduceLT, Array.toList, Nat.reduceAdd, Nat.reduceMul, Int.reduceToNat, Int.reducePow, UInt8.reduceToNat]; decide) rfl ?_)
    | (simp -dsimp (disch := first | assumption | omega) only [dec_t, dec_f])
    | (refine And.intro ?_ ?_
       · first | omega | decide | (simp (disch := omega) only [wkW, Int.reduceToNat, Int.reducePow] <;> omega) | (simp <;> omega))
    | (simp (disch := omega) only [wkW, Int.reduceToNat, Int.reducePow])
    | fail

theorem pow10_over (n : Nat) (hn : n < 9223372036854775807) (h : ¬ 10 ^ n < NMax) : Meets Tryd.prog 12 [.int .i64 (n : Int)] (.tup [.nil, .int .i64 2]) := by
  have hp := pow_ten n hn _ (fun h2 => absurd h2 h) (fun _ => rfl)
  refine meets_by ttOk Tryd.func12 Tryd.ntmps12 Tryd.results12 (by kernel_rfl) (c := _) rfl rfl rfl fun E => ?_
  simp only [argsFrame]
  repeat' first
    | (with_reducible first | refine PW.seq ?_ | refine PW.block ?_ | refine PW.fork ?_ | refine PW.skip ?_ | refine PW.exit ?_ | refine PW.ret ?_)
    | (with_reducible refine PW.region ttOk ?_ ?_
       · rfl)
    | (with_reducible refine PW.regionD ttOk mixed ?_ ?_ ?_
       · rfl
       · rfl)
    | (with_reducible refine ifW_dec (fun g => ?_) (fun g => ?_) <;> first | (exfalso; omega) | (simp -dsimp only [g, wkI]))
    | (with_reducible refine condE_dec (fun g => ?_) (fun g => ?_) <;> try (exfalso; omega))
    | (with_reducible refine condE_not (fun g => ?_) (fun g => ?_) <;> try (exfalso; omega))
    | (simp -dsimp only [↓wkA, ↓wkE, wkB, ↓tt, Nat.reduceBEq, Nat.reduceEqDiff, ↓reduceIte, Nat.reduceLT, Array.toList, Nat.reduceAdd, Nat.reduceMul, Int.reduceToNat, Int.reducePow, UInt8.reduceToNat])
    | (refine call_by' (args' := [.ints .u64 [10], .int .i64 (n : Int)]) rfl hp (by simp -dsimp only [okViews, ↓wkA, ↓wkE, wkB, ↓tt, Nat.reduceBEq, Nat.reduceEqDiff, ↓reduceIte, Nat.reduceLT, Array.toList, Nat.reduceAdd, Nat.reduceMul, Int.reduceToNat, Int.reducePow, UInt8.reduceToNat]; decide) rfl ?_)
    | (simp -dsimp (disch := first | assumption | omega) only [dec_t, dec_f])
    | (refine And.intro ?_ ?_
       · first | omega | decide | (simp (disch := omega) only [wkW, Int.reduceToNat, Int.reducePow] <;> omega) | (simp <;> omega))
    | (simp (disch := omega) only [wkW, Int.reduceToNat, Int.reducePow])
    | fail

theorem digits_of (a s : List Int) (e : Int) (h : Meets Tryd.prog 71 [.ints .u64 a, .int .i64 10, .bool false] (.tup [.str s, .int .i64 e])) : Meets Tryd.prog 46 [.ints .u64 a] (.tup [.str s, .int .i64 e]) := by
  refine meets_by ttOk Tryd.func46 Tryd.ntmps46 Tryd.results46 (by kernel_rfl) (c := _) rfl rfl rfl fun E => ?_
  simp only [argsFrame]
  repeat' first
    | (with_reducible first | refine PW.seq ?_ | refine PW.block ?_ | refine PW.fork ?_ | refine PW.skip ?_ | refine PW.exit ?_ | refine PW.ret ?_)
    | (with_reducible refine PW.region ttOk ?_ ?_
       · rfl)
    | (with_reducible refine PW.regionD ttOk mixed ?_ ?_ ?_
       · rfl
       · rfl)
    | (with_reducible refine ifW_dec (fun g => ?_) (fun g => ?_) <;> first | (exfalso; omega) | (simp -dsimp only [g, wkI]))
    | (with_reducible refine condE_dec (fun g => ?_) (fun g => ?_) <;> try (exfalso; omega))
    | (with_reducible refine condE_not (fun g => ?_) (fun g => ?_) <;> try (exfalso; omega))
    | (simp -dsimp only [↓wkA, ↓wkE, wkB, ↓tt, Nat.reduceBEq, Nat.reduceEqDiff, ↓reduceIte, Nat.reduceLT, Array.toList, Nat.reduceAdd, Nat.reduceMul, Int.reduceToNat, Int.reducePow, UInt8.reduceToNat])
    | (refine call_by h (views_data rfl) ⟨trivial, trivial, trivial, trivial⟩ rfl ?_)
    | (simp -dsimp (disch := first | assumption | omega) only [dec_t, dec_f])
    | (refine And.intro ?_ ?_
       · first | omega | decide | (simp (disch := omega) only [wkW, Int.reduceToNat, Int.reducePow] <;> omega) | (simp <;> omega))
    | (simp (disch := omega) only [wkW, Int.reduceToNat, Int.reducePow])
    | fail

theorem text_ten : text 10 false 10 = [49, 48] := by
  simp [text, digs, lettersOf, smalls]

theorem text_ge {b : Nat} (hb : 2 ≤ b) (u : Bool) : ∀ v, v ≠ 0 → b ^ ((text b u v).length - 1) ≤ v := by
  intro v
  induction v using Nat.strongRecOn with
  | _ v ih =>
    intro h0
    rw [text_step hb u h0, List.length_append, List.length_singleton, Nat.add_sub_cancel]
    by_cases h1 : v / b = 0
    · rw [h1, text_nil]; simp; omega
    · have h2 := ih _ (Nat.div_lt_self (by omega) (show 1 < b by omega)) h1
      have h3 : 0 < (text b u (v / b)).length := List.length_pos_iff.2 (text_ne hb u h1)
      have h4 : b ^ (text b u (v / b)).length = b ^ ((text b u (v / b)).length - 1) * b := by
        rw [← Nat.pow_succ]; congr 1; omega
      rw [h4]
      have h5 := Nat.div_mul_le_self v b
      have h6 : b ^ ((text b u (v / b)).length - 1) * b ≤ v / b * b := Nat.mul_le_mul_right _ h2
      omega

set_option exponentiation.threshold 300000 in
theorem ten_long {n : Nat} (h : 80000 ≤ n) : ¬ 10 ^ n < NMax := by
  have h1 : (10 : Nat) ^ 80000 ≤ 10 ^ n := Nat.pow_le_pow_right (by decide) h
  have h2 : (2 : Nat) ^ 262144 ≤ 10 ^ 80000 := by
    have e1 : (10 : Nat) ^ 80000 = (10 ^ 10) ^ 8000 := by rw [← Nat.pow_mul]
    have e2 : (2 : Nat) ^ 262144 ≤ (2 ^ 33) ^ 8000 := by
      rw [← Nat.pow_mul]; exact Nat.pow_le_pow_right (by decide) (by decide)
    rw [e1]
    exact Nat.le_trans e2 (Nat.pow_le_pow_left (by decide) 8000)
  rw [nmax_two]; omega

end Go.Proofs.YtjhkpjddcaglnaaDoor
set_option linter.unusedVariables false
set_option linter.unusedSimpArgs false
namespace Go.Proofs.YtjhkpjddcaglnaaDoor
open Go Go.PV

theorem rowed_ok (s : List Int) (hs : Digs s) (hsl : s.length ≤ 140737488351232) (h0 : 0 < s.length) : Meets Tryd.prog 11 [.str s] (.bool true) := by
  refine meets_by ttOk Tryd.func11 Tryd.ntmps11 Tryd.results11 (by kernel_rfl) (c := _) rfl rfl rfl fun E => ?_
  simp only [argsFrame]
  repeat' first
    | (with_reducible first | refine PW.seq ?_ | refine PW.block ?_ | refine PW.fork ?_ | refine PW.skip ?_ | refine PW.exit ?_ | refine PW.ret ?_)
    | (with_reducible refine PW.region ttOk ?_ ?_
       · rfl)
    | (with_reducible refine PW.regionD ttOk mixed ?_ ?_ ?_
       · rfl
       · rfl)
    | (with_reducible refine ifW_dec (fun g => ?_) (fun g => ?_) <;> first | (exfalso; omega) | (simp -dsimp only [g, wkI]))
    | (with_reducible refine condE_dec (fun g => ?_) (fun g => ?_) <;> try (exfalso; omega))
    | (with_reducible refine condE_not (fun g => ?_) (fun g => ?_) <;> try (exfalso; omega))
    | (simp -dsimp only [↓wkA, ↓wkE, wkB, ↓tt, Nat.reduceBEq, Nat.reduceEqDiff, ↓reduceIte, Nat.reduceLT, Array.toList, Nat.reduceAdd, Nat.reduceMul, Int.reduceToNat, Int.reducePow, UInt8.reduceToNat])
    | (simp -dsimp (disch := first | assumption | omega) only [dec_t, dec_f])
    | (refine And.intro ?_ ?_
       · first | omega | decide | (simp (disch := omega) only [wkW, Int.reduceToNat, Int.reducePow] <;> omega) | (simp <;> omega))
    | (simp (disch := omega) only [wkW, Int.reduceToNat, Int.reducePow])
    | fail
  refine PW.loopA (fun m F H => ∃ i, i + m = s.length ∧ F = [(3, .int .i64 (i : Int)), (0, .str s)] ∧ H = ⟨0, [], [], []⟩) s.length [(3, .int .i64 ((0 : Nat) : Int)), (0, .str s)] ⟨0, [], [], []⟩ (Sub.norm ⟨rfl, rfl, trivial⟩ trivial (Nat.le_refl _) rfl rfl rfl rfl) ⟨0, by omega, rfl, rfl⟩ ?_
  rintro m F H ⟨i, hi, rfl, rfl⟩
  cases m with
  | zero =>
    obtain rfl : i = s.length := by omega
    repeat' first
      | (with_reducible first | refine PW.seq ?_ | refine PW.block ?_ | refine PW.fork ?_ | refine PW.skip ?_ | refine PW.exit ?_ | refine PW.ret ?_)
      | (with_reducible refine PW.region ttOk ?_ ?_
         · rfl)
      | (with_reducible refine PW.regionD ttOk mixed ?_ ?_ ?_
         · rfl
         · rfl)
      | (with_reducible refine ifW_dec (fun g => ?_) (fun g => ?_) <;> first | (exfalso; omega) | (simp -dsimp only [g, wkI]))
      | (with_reducible refine condE_dec (fun g => ?_) (fun g => ?_) <;> try (exfalso; omega))
      | (with_reducible refine condE_not (fun g => ?_) (fun g => ?_) <;> try (exfalso; omega))
      | (simp -dsimp only [↓wkA, ↓wkE, wkB, ↓tt, Nat.reduceBEq, Nat.reduceEqDiff, ↓reduceIte, Nat.reduceLT, Array.toList, Nat.reduceAdd, Nat.reduceMul, Int.reduceToNat, Int.reducePow, UInt8.reduceToNat])
      | (simp -dsimp (disch := first | assumption | omega) only [dec_t, dec_f])
      | (refine And.intro ?_ ?_
         · first | omega | decide | (simp (disch := omega) only [wkW, Int.reduceToNat, Int.reducePow] <;> omega) | (simp <;> omega))
      | (simp (disch := omega) only [wkW, Int.reduceToNat, Int.reducePow])
      | fail
    all_goals exact congrArg PV.bool (decide_eq_true (by omega)).symm
  | succ m =>
    have hx := digs_get hs (show i < s.length by omega)
    repeat' first
      | (simp only [Int.toNat_natCast])
      | (with_reducible first | refine PW.seq ?_ | refine PW.block ?_ | refine PW.fork ?_ | refine PW.skip ?_ | refine PW.exit ?_ | refine PW.ret ?_)
      | (with_reducible refine PW.region ttOk ?_ ?_
         · rfl)
      | (with_reducible refine PW.regionD ttOk mixed ?_ ?_ ?_
         · rfl
         · rfl)
      | (with_reducible refine ifW_dec (fun g => ?_) (fun g => ?_) <;> first | (exfalso; omega) | (simp -dsimp only [g, wkI]))
      | (with_reducible refine condE_dec (fun g => ?_) (fun g => ?_) <;> try (exfalso; omega))
      | (with_reducible refine condE_not (fun g => ?_) (fun g => ?_) <;> try (exfalso; omega))
      | (simp -dsimp only [↓wkA, ↓wkE, wkB, ↓tt, Nat.reduceBEq, Nat.reduceEqDiff, ↓reduceIte, Nat.reduceLT, Array.toList, Nat.reduceAdd, Nat.reduceMul, Int.reduceToNat, Int.reducePow, UInt8.reduceToNat])
      | (simp -dsimp (disch := first | assumption | omega) only [dec_t, dec_f])
      | (refine And.intro ?_ ?_
         · first | omega | decide | (simp (disch := omega) only [wkW, Int.reduceToNat, Int.reducePow] <;> omega) | (simp <;> omega))
      | (simp (disch := omega) only [wkW, Int.reduceToNat, Int.reducePow])
      | fail
    exact Again.mk m [(3, .int .i64 ((i + 1 : Nat) : Int)), (0, .str s)] ⟨0, [], [], []⟩ (by omega) (Sub.norm ⟨rfl, rfl, trivial⟩ trivial (Nat.le_refl _) rfl rfl rfl rfl) ⟨i + 1, by omega, rfl, rfl⟩

theorem rowed_bad (s : List Int) (hsl : s.length ≤ 140737488351232) (i0 : Nat) (hi0 : i0 ≤ s.length) (hok : ∀ j, j < i0 → 48 ≤ s.getD j 0 ∧ s.getD j 0 ≤ 57) (hbad : i0 < s.length → ¬ (48 ≤ s.getD i0 0 ∧ s.getD i0 0 ≤ 57)) (hnil : i0 = s.length → s.length = 0) : Meets Tryd.prog 11 [.str s] (.bool false) := by
  refine meets_by ttOk Tryd.func11 Tryd.ntmps11 Tryd.results11 (by kernel_rfl) (c := _) rfl rfl rfl fun E => ?_
  simp only [argsFrame]
  repeat' first
    | (with_reducible first | refine PW.seq ?_ | refine PW.block ?_ | refine PW.fork ?_ | refine PW.skip ?_ | refine PW.exit ?_ | refine PW.ret ?_)
    | (with_reducible refine PW.region ttOk ?_ ?_
       · rfl)
    | (with_reducible refine PW.regionD ttOk mixed ?_ ?_ ?_
       · rfl
       · rfl)
    | (with_reducible refine ifW_dec (fun g => ?_) (fun g => ?_) <;> first | (exfalso; omega) | (simp -dsimp only [g, wkI]))
    | (with_reducible refine condE_dec (fun g => ?_) (fun g => ?_) <;> try (exfalso; omega))
    | (with_reducible refine condE_not (fun g => ?_) (fun g => ?_) <;> try (exfalso; omega))
    | (simp -dsimp only [↓wkA, ↓wkE, wkB, ↓tt, Nat.reduceBEq, Nat.reduceEqDiff, ↓reduceIte, Nat.reduceLT, Array.toList, Nat.reduceAdd, Nat.reduceMul, Int.reduceToNat, Int.reducePow, UInt8.reduceToNat])
    | (simp -dsimp (disch := first | assumption | omega) only [dec_t, dec_f])
    | (refine And.intro ?_ ?_
       · first | omega | decide | (simp (disch := omega) only [wkW, Int.reduceToNat, Int.reducePow] <;> omega) | (simp <;> omega))
    | (simp (disch := omega) only [wkW, Int.reduceToNat, Int.reducePow])
    | fail
  refine PW.loopA (fun m F H => ∃ i, i + m = i0 ∧ F = [(3, .int .i64 (i : Int)), (0, .str s)] ∧ H = ⟨0, [], [], []⟩) i0 [(3, .int .i64 ((0 : Nat) : Int)), (0, .str s)] ⟨0, [], [], []⟩ (Sub.norm ⟨rfl, rfl, trivial⟩ trivial (Nat.zero_le _) rfl rfl rfl rfl) ⟨0, by omega, rfl, rfl⟩ ?_
  rintro m F H ⟨i, hi, rfl, rfl⟩
  cases m with
  | zero =>
    obtain rfl : i = i0 := by omega
    by_cases hlt : i < s.length
    · have hb := hbad hlt
      repeat' first
        | (simp only [Int.toNat_natCast])
        | (with_reducible first | refine PW.seq ?_ | refine PW.block ?_ | refine PW.fork ?_ | refine PW.skip ?_ | refine PW.exit ?_ | refine PW.ret ?_)
        | (with_reducible refine PW.region ttOk ?_ ?_
           · rfl)
        | (with_reducible refine PW.regionD ttOk mixed ?_ ?_ ?_
           · rfl
           · rfl)
        | (with_reducible refine ifW_dec (fun g => ?_) (fun g => ?_) <;> first | (exfalso; omega) | (simp -dsimp only [g, wkI]))
        | (with_reducible refine condE_dec (fun g => ?_) (fun g => ?_) <;> try (exfalso; omega))
        | (with_reducible refine condE_not (fun g => ?_) (fun g => ?_) <;> try (exfalso; omega))
        | (simp -dsimp only [↓wkA, ↓wkE, wkB, ↓tt, Nat.reduceBEq, Nat.reduceEqDiff, ↓reduceIte, Nat.reduceLT, Array.toList, Nat.reduceAdd, Nat.reduceMul, Int.reduceToNat, Int.reducePow, UInt8.reduceToNat])
        | (simp -dsimp (disch := first | assumption | omega) only [dec_t, dec_f])
        | (refine And.intro ?_ ?_
           · first | omega | decide | (simp (disch := omega) only [wkW, Int.reduceToNat, Int.reducePow] <;> omega) | (simp <;> omega))
        | (simp (disch := omega) only [wkW, Int.reduceToNat, Int.reducePow])
        | fail
    · have hn := hnil (by omega)
      repeat' first
        | (with_reducible first | refine PW.seq ?_ | refine PW.block ?_ | refine PW.fork ?_ | refine PW.skip ?_ | refine PW.exit ?_ | refine PW.ret ?_)
        | (with_reducible refine PW.region ttOk ?_ ?_
           · rfl)
        | (with_reducible refine PW.regionD ttOk mixed ?_ ?_ ?_
           · rfl
           · rfl)
        | (with_reducible refine ifW_dec (fun g => ?_) (fun g => ?_) <;> first | (exfalso; omega) | (simp -dsimp only [g, wkI]))
        | (with_reducible refine condE_dec (fun g => ?_) (fun g => ?_) <;> try (exfalso; omega))
        | (with_reducible refine condE_not (fun g => ?_) (fun g => ?_) <;> try (exfalso; omega))
        | (simp -dsimp only [↓wkA, ↓wkE, wkB, ↓tt, Nat.reduceBEq, Nat.reduceEqDiff, ↓reduceIte, Nat.reduceLT, Array.toList, Nat.reduceAdd, Nat.reduceMul, Int.reduceToNat, Int.reducePow, UInt8.reduceToNat])
        | (simp -dsimp (disch := first | assumption | omega) only [dec_t, dec_f])
        | (refine And.intro ?_ ?_
           · first | omega | decide | (simp (disch := omega) only [wkW, Int.reduceToNat, Int.reducePow] <;> omega) | (simp <;> omega))
        | (simp (disch := omega) only [wkW, Int.reduceToNat, Int.reducePow])
        | fail
      all_goals exact congrArg PV.bool (decide_eq_false (by omega)).symm
  | succ m =>
    have hx := hok i (by omega)
    repeat' first
      | (simp only [Int.toNat_natCast])
      | (with_reducible first | refine PW.seq ?_ | refine PW.block ?_ | refine PW.fork ?_ | refine PW.skip ?_ | refine PW.exit ?_ | refine PW.ret ?_)
      | (with_reducible refine PW.region ttOk ?_ ?_
         · rfl)
      | (with_reducible refine PW.regionD ttOk mixed ?_ ?_ ?_
         · rfl
         · rfl)
      | (with_reducible refine ifW_dec (fun g => ?_) (fun g => ?_) <;> first | (exfalso; omega) | (simp -dsimp only [g, wkI]))
      | (with_reducible refine condE_dec (fun g => ?_) (fun g => ?_) <;> try (exfalso; omega))
      | (with_reducible refine condE_not (fun g => ?_) (fun g => ?_) <;> try (exfalso; omega))
      | (simp -dsimp only [↓wkA, ↓wkE, wkB, ↓tt, Nat.reduceBEq, Nat.reduceEqDiff, ↓reduceIte, Nat.reduceLT, Array.toList, Nat.reduceAdd, Nat.reduceMul, Int.reduceToNat, Int.reducePow, UInt8.reduceToNat])
      | (simp -dsimp (disch := first | assumption | omega) only [dec_t, dec_f])
      | (refine And.intro ?_ ?_
         · first | omega | decide | (simp (disch := omega) only [wkW, Int.reduceToNat, Int.reducePow] <;> omega) | (simp <;> omega))
      | (simp (disch := omega) only [wkW, Int.reduceToNat, Int.reducePow])
      | fail
    exact Again.mk m [(3, .int .i64 ((i + 1 : Nat) : Int)), (0, .str s)] ⟨0, [], [], []⟩ (by omega) (Sub.norm ⟨rfl, rfl, trivial⟩ trivial (Nat.le_refl _) rfl rfl rfl rfl) ⟨i + 1, by omega, rfl, rfl⟩

/-- Round where nothing is cut. -/
theorem round_keep (s : List Int) (hs : Digs s) (hsl : s.length ≤ 140737488351232) (h0 : 0 < s.length) (k : Nat) (hk : s.length ≤ k) (hk2 : k ≤ 9223372036854775807) (mo : Nat) :
    Meets Tryd.prog 10 [.str s, .int .i64 (k : Int), .bool (decide (mo = 1))] (.tup [.str s, .bool false, .int .i64 0]) := by
  have hne : decide (s = []) = false := decide_eq_false (fun h => by rw [h] at h0; simp at h0)
  refine meets_by ttOk Tryd.func10 Tryd.ntmps10 Tryd.results10 (by kernel_rfl) (c := _) rfl rfl rfl fun E => ?_
  simp only [argsFrame]
  repeat' first
    | (simp only [hne])
    | (with_reducible first | refine PW.seq ?_ | refine PW.block ?_ | refine PW.fork ?_ | refine PW.skip ?_ | refine PW.exit ?_ | refine PW.ret ?_)
    | (with_reducible refine PW.region ttOk ?_ ?_
       · rfl)
    | (with_reducible refine PW.regionD ttOk mixed ?_ ?_ ?_
       · rfl
       · rfl)
    | (with_reducible refine ifW_dec (fun g => ?_) (fun g => ?_) <;> first | (exfalso; omega) | (simp -dsimp only [g, wkI]))
    | (with_reducible refine condE_dec (fun g => ?_) (fun g => ?_) <;> try (exfalso; omega))
    | (with_reducible refine condE_not (fun g => ?_) (fun g => ?_) <;> try (exfalso; omega))
    | (simp -dsimp only [↓wkA, ↓wkE, wkB, ↓tt, Nat.reduceBEq, Nat.reduceEqDiff, ↓reduceIte, Nat.reduceLT, Array.toList, Nat.reduceAdd, Nat.reduceMul, Int.reduceToNat, Int.reducePow, UInt8.reduceToNat])
    | (simp -dsimp (disch := first | assumption | omega) only [dec_t, dec_f])
    | (refine And.intro ?_ ?_
       · first | omega | decide | (simp (disch := omega) only [wkW, Int.reduceToNat, Int.reducePow] <;> omega) | (simp <;> omega))
    | (simp (disch := omega) only [wkW, Int.reduceToNat, Int.reducePow])
    | fail
  refine PW.loopA (fun m F H => ∃ i, i + m = s.length ∧ F = [(9, .int .i64 (i : Int)), (0, .str s), (1, .int .i64 (k : Int)), (2, .bool (decide (mo = 1)))] ∧ H = ⟨0, [], [], []⟩) s.length [(9, .int .i64 ((0 : Nat) : Int)), (0, .str s), (1, .int .i64 (k : Int)), (2, .bool (decide (mo = 1)))] ⟨0, [], [], []⟩ (Sub.norm ⟨rfl, rfl, rfl, rfl, trivial⟩ trivial (Nat.le_refl _) rfl rfl rfl rfl) ⟨0, by omega, rfl, rfl⟩ ?_
  rintro m F H ⟨i, hi, rfl, rfl⟩
  cases m with
  | zero =>
    obtain rfl : i = s.length := by omega
    repeat' first
      | (with_reducible first | refine PW.seq ?_ | refine PW.block ?_ | refine PW.fork ?_ | refine PW.skip ?_ | refine PW.exit ?_ | refine PW.ret ?_)
      | (with_reducible refine PW.region ttOk ?_ ?_
         · rfl)
      | (with_reducible refine PW.regionD ttOk mixed ?_ ?_ ?_
         · rfl
         · rfl)
      | (with_reducible refine ifW_dec (fun g => ?_) (fun g => ?_) <;> first | (exfalso; omega) | (simp -dsimp only [g, wkI]))
      | (with_reducible refine condE_dec (fun g => ?_) (fun g => ?_) <;> try (exfalso; omega))
      | (with_reducible refine condE_not (fun g => ?_) (fun g => ?_) <;> try (exfalso; omega))
      | (simp -dsimp only [↓wkA, ↓wkE, wkB, ↓tt, Nat.reduceBEq, Nat.reduceEqDiff, ↓reduceIte, Nat.reduceLT, Array.toList, Nat.reduceAdd, Nat.reduceMul, Int.reduceToNat, Int.reducePow, UInt8.reduceToNat])
      | (simp -dsimp (disch := first | assumption | omega) only [dec_t, dec_f])
      | (refine And.intro ?_ ?_
         · first | omega | decide | (simp (disch := omega) only [wkW, Int.reduceToNat, Int.reducePow] <;> omega) | (simp <;> omega))
      | (simp (disch := omega) only [wkW, Int.reduceToNat, Int.reducePow])
      | fail
  | succ m =>
    have hx := digs_get hs (show i < s.length by omega)
    repeat' first
      | (simp only [Int.toNat_natCast])
      | (with_reducible first | refine PW.seq ?_ | refine PW.block ?_ | refine PW.fork ?_ | refine PW.skip ?_ | refine PW.exit ?_ | refine PW.ret ?_)
      | (with_reducible refine PW.region ttOk ?_ ?_
         · rfl)
      | (with_reducible refine PW.regionD ttOk mixed ?_ ?_ ?_
         · rfl
         · rfl)
      | (with_reducible refine ifW_dec (fun g => ?_) (fun g => ?_) <;> first | (exfalso; omega) | (simp -dsimp only [g, wkI]))
      | (with_reducible refine condE_dec (fun g => ?_) (fun g => ?_) <;> try (exfalso; omega))
      | (with_reducible refine condE_not (fun g => ?_) (fun g => ?_) <;> try (exfalso; omega))
      | (simp -dsimp only [↓wkA, ↓wkE, wkB, ↓tt, Nat.reduceBEq, Nat.reduceEqDiff, ↓reduceIte, Nat.reduceLT, Array.toList, Nat.reduceAdd, Nat.reduceMul, Int.reduceToNat, Int.reducePow, UInt8.reduceToNat])
      | (simp -dsimp (disch := first | assumption | omega) only [dec_t, dec_f])
      | (refine And.intro ?_ ?_
         · first | omega | decide | (simp (disch := omega) only [wkW, Int.reduceToNat, Int.reducePow] <;> omega) | (simp <;> omega))
      | (simp (disch := omega) only [wkW, Int.reduceToNat, Int.reducePow])
      | fail
    exact Again.mk m [(9, .int .i64 ((i + 1 : Nat) : Int)), (0, .str s), (1, .int .i64 (k : Int)), (2, .bool (decide (mo = 1)))] ⟨0, [], [], []⟩ (by omega) (Sub.norm ⟨rfl, rfl, rfl, rfl, trivial⟩ trivial (Nat.le_refl _) rfl rfl rfl rfl) ⟨i + 1, by omega, rfl, rfl⟩

theorem num_cons {x : Int} (hx : 48 ≤ x ∧ x ≤ 57) (t : List Int) : num 10 (x :: t) = (x - 48).toNat * 10 ^ t.length + num 10 t := by
  have h := numN_split 10 (x :: t) 1 t.length
  unfold num
  rw [List.length_cons, Nat.add_comm t.length 1, h]
  simp [numN, worth_digit hx]

theorem round_first : Meets Tryd.prog 10 [.str [49, 50, 51, 53], .int .i64 3, .bool false] (.tup [.str [49, 50, 52], .bool false, .int .i64 0]) := by
  have h := num_round [49, 50, 51, 53] (by intro x hx; revert x; decide) (by decide) 3 (by decide) 0 1 ⟨fun _ j hj => absurd hj (by simp), fun _ => rfl⟩
  have e : roundR [49, 50, 51, 53] 3 0 1 = ([49, 50, 52], false) := by decide
  rw [e] at h
  exact h
end Go.Proofs.YtjhkpjddcaglnaaDoor
set_option linter.unusedVariables false
set_option linter.unusedSimpArgs false
namespace Go.Proofs.YtjhkpjddcaglnaaDoor
open Go Go.PV

/-- The lowest L decimal digits of a number, the highest first. -/
def digL : Nat → Nat → List Int
  | 0, _ => []
  | L + 1, N => digL L (N / 10) ++ [48 + ((N % 10 : Nat) : Int)]
theorem digL_len : ∀ L N, (digL L N).length = L
  | 0, _ => rfl
  | L + 1, N => by rw [digL, List.length_append, digL_len L]; rfl
theorem digL_digs : ∀ L N, Digs (digL L N)
  | 0, _ => fun x hx => by cases hx
  | L + 1, N => fun x hx => by
    rw [digL] at hx
    rcases List.mem_append.1 hx with h | h
    · exact digL_digs L _ x h
    · have : x = 48 + ((N % 10 : Nat) : Int) := by simpa using h
      have := Nat.mod_lt N (show 10 > 0 by decide)
      omega
theorem num_digL : ∀ L N, num 10 (digL L N) = N % 10 ^ L
  | 0, N => by rw [Nat.pow_zero, Nat.mod_one]; rfl
  | L + 1, N => by
    have hm := Nat.mod_lt N (show 10 > 0 by decide)
    rw [digL, num_append, num_digL L, worth_digit (by omega), Nat.pow_succ, Nat.mul_comm (10 ^ L) 10, Nat.mod_mul]
    omega
theorem num_digL_lt {L N : Nat} (h : N < 10 ^ L) : num 10 (digL L N) = N := by rw [num_digL, Nat.mod_eq_of_lt h]

theorem digs_last {s : List Int} {L : Nat} (hs : Digs s) (hl : s.length = L + 1) : ∃ t x, s = t ++ [x] ∧ t.length = L ∧ Digs t ∧ 48 ≤ x ∧ x ≤ 57 := by
  refine ⟨s.take L, s.getD L 0, ?_, by simp; omega, digs_take hs L, digs_get hs (by omega)⟩
  refine list_ext (by simp; omega) fun j hj => ?_
  by_cases h : j < L
  · rw [List.getD_eq_getElem?_getD, List.getD_eq_getElem?_getD, List.getElem?_append_left (by simp; omega), List.getElem?_take, if_pos h]
  · obtain rfl : j = L := by omega
    have : (s.take j).length = j := by simp; omega
    rw [List.getD_eq_getElem?_getD (l := s.take j ++ _), List.getElem?_append_right (by omega), this]
    simp

theorem digs_digL : ∀ (L : Nat) (s : List Int), Digs s → s.length = L → s = digL L (num 10 s)
  | 0, s, _, hl => by rw [List.length_eq_zero_iff] at hl; subst hl; rfl
  | L + 1, s, hs, hl => by
    obtain ⟨t, x, rfl, ht, hd, hx⟩ := digs_last hs hl
    rw [num_append, worth_digit hx, digL]
    have e : (num 10 t * 10 + (x - 48).toNat) / 10 = num 10 t := by omega
    rw [e, ← digs_digL L t hd ht]
    have e2 : (num 10 t * 10 + (x - 48).toNat) % 10 = (x - 48).toNat := by omega
    rw [e2]
    congr 2
    omega

theorem digs_eq {s t : List Int} (hs : Digs s) (ht : Digs t) (hl : s.length = t.length) (hv : num 10 s = num 10 t) : s = t := by
  rw [digs_digL _ s hs rfl, digs_digL _ t ht rfl, hl, hv]

theorem digs_append {s t : List Int} (hs : Digs s) (ht : Digs t) : Digs (s ++ t) := fun x hx => (List.mem_append.1 hx).elim (hs x) (ht x)
theorem digs_zeros (n : Nat) : Digs (List.replicate n 48) := fun x hx => by rw [List.eq_of_mem_replicate hx]; decide
theorem num_app (b : Nat) (s t : List Int) : num b (s ++ t) = num b s * b ^ t.length + num b t := by
  have h := num_split b (s := s ++ t) (k := s.length) (by simp)
  rw [List.take_left, List.drop_left, List.length_append, Nat.add_sub_cancel_left] at h
  exact h
theorem num_zeros (b : Nat) : ∀ n, num b (List.replicate n 48) = 0
  | 0 => rfl
  | n + 1 => by rw [List.replicate_succ', num_append, num_zeros b n]; simp [show worth 48 = 0 from rfl]

theorem digL_add (a b N : Nat) : digL (a + b) N = digL a (N / 10 ^ b) ++ digL b N := by
  refine digs_eq (digL_digs _ _) (digs_append (digL_digs _ _) (digL_digs _ _)) (by simp [digL_len]) ?_
  rw [num_app, digL_len, num_digL, num_digL, num_digL, Nat.pow_add, Nat.mul_comm (10 ^ a), Nat.mod_mul]
  rw [Nat.mul_comm]; omega
theorem digL_pad (a b N : Nat) (h : N < 10 ^ b) : digL (a + b) N = List.replicate a 48 ++ digL b N := by
  refine digs_eq (digL_digs _ _) (digs_append (digs_zeros _) (digL_digs _ _)) (by simp [digL_len]) ?_
  rw [num_app, digL_len, num_digL, num_digL, num_zeros, Nat.zero_mul, Nat.zero_add, Nat.mod_eq_of_lt h, Nat.mod_eq_of_lt]
  exact Nat.lt_of_lt_of_le h (Nat.pow_le_pow_right (by decide) (by omega))
theorem digL_mul (a b N : Nat) : digL (a + b) (N * 10 ^ b) = digL a N ++ List.replicate b 48 := by
  refine digs_eq (digL_digs _ _) (digs_append (digL_digs _ _) (digs_zeros _)) (by simp [digL_len]) ?_
  rw [num_app, List.length_replicate, num_digL, num_digL, num_zeros, Nat.add_zero, Nat.pow_add, Nat.mul_mod_mul_right]
theorem digL_take {a b N : Nat} : (digL (a + b) N).take a = digL a (N / 10 ^ b) := by
  rw [digL_add, List.take_left' (digL_len _ _)]
theorem digL_drop {a b N : Nat} : (digL (a + b) N).drop a = digL b N := by
  rw [digL_add, List.drop_left' (digL_len _ _)]
theorem digL_mod {L N : Nat} : digL L (N % 10 ^ L) = digL L N := by
  refine digs_eq (digL_digs _ _) (digL_digs _ _) (by simp [digL_len]) ?_
  rw [num_digL, num_digL, Nat.mod_mod]

theorem worth_dec {c : Int} : worth c < 10 ↔ 48 ≤ c ∧ c ≤ 57 := by
  unfold worth
  repeat' split
  all_goals omega

/-- How many decimal digits. -/
def ndig (v : Nat) : Nat := (text 10 false v).length
theorem text_digs {v : Nat} : Digs (text 10 false v) := fun x hx => by
  obtain ⟨d, hd, rfl⟩ := text_all (by decide) false v x hx
  have h := (letter_all false ⟨d, by omega⟩).1
  simp only at h
  have := worth_dec (c := letter false d)
  omega
theorem text_digL (v : Nat) : text 10 false v = digL (ndig v) v := by
  have h := digs_digL _ _ (text_digs (v := v)) rfl
  rwa [num_text (by decide)] at h
theorem ndig_lt (v : Nat) : v < 10 ^ ndig v := text_lt (by decide) false v
theorem ndig_ge {v : Nat} (h : v ≠ 0) : 0 < ndig v ∧ 10 ^ (ndig v - 1) ≤ v := ⟨List.length_pos_iff.2 (text_ne (by decide) false h), text_ge (by decide) false v h⟩
theorem ndig_zero : ndig 0 = 0 := by rw [ndig, text_nil]; rfl
theorem ndig_of {v k : Nat} (h1 : 10 ^ k ≤ v) (h2 : v < 10 ^ (k + 1)) : ndig v = k + 1 := by
  have h0 : v ≠ 0 := by have := Nat.pow_pos (n := k) (show 0 < 10 by decide); omega
  obtain ⟨g1, g2⟩ := ndig_ge h0
  have g3 := ndig_lt v
  have a1 : k < ndig v := (Nat.pow_lt_pow_iff_right (show 1 < 10 by decide)).1 (Nat.lt_of_le_of_lt h1 g3)
  have a2 : ndig v - 1 < k + 1 := (Nat.pow_lt_pow_iff_right (show 1 < 10 by decide)).1 (Nat.lt_of_le_of_lt g2 h2)
  omega
theorem ndig_le {v k : Nat} (h : v < 10 ^ k) : ndig v ≤ k := by
  by_cases h0 : v = 0
  · subst h0; rw [ndig_zero]; omega
  · obtain ⟨g1, g2⟩ := ndig_ge h0
    have : ndig v - 1 < k := (Nat.pow_lt_pow_iff_right (show 1 < 10 by decide)).1 (Nat.lt_of_le_of_lt g2 h)
    omega
/-- Digits without a zero at the head. -/
theorem digs_text {s : List Int} (hs : Digs s) (h0 : s ≠ []) (h : s.getD 0 0 ≠ 48) : s = text 10 false (num 10 s) ∧ num 10 s ≠ 0 := by
  obtain ⟨x, t, rfl⟩ : ∃ x t, s = x :: t := by cases s with | nil => exact absurd rfl h0 | cons x t => exact ⟨x, t, rfl⟩
  have hx := hs x (by simp)
  have hx0 : x ≠ 48 := h
  have ht : Digs t := fun y hy => hs y (by simp [hy])
  have hv := num_app 10 [x] t
  have hx1 : num 10 [x] = (x - 48).toNat := by have := num_append 10 [] x; simpa [worth_digit hx, show num 10 [] = 0 from rfl] using this
  rw [List.singleton_append, hx1] at hv
  have hl := num_digs_lt ht
  have hb := num_digs_lt hs
  have hp := Nat.pow_pos (n := t.length) (show 0 < 10 by decide)
  have hge : 10 ^ t.length ≤ num 10 (x :: t) := by
    rw [hv]
    have := Nat.mul_le_mul_right (10 ^ t.length) (show 1 ≤ (x - 48).toNat by omega)
    omega
  have hn := ndig_of hge hb
  have : num 10 (x :: t) ≠ 0 := by omega
  refine ⟨?_, this⟩
  rw [text_digL, hn]
  exact digs_digL _ _ hs rfl

/-- The zeros at the end. -/
theorem endN_split {s : List Int} (hs : Digs s) (h : num 10 s ≠ 0) : 0 < endN s 48 s.length ∧ num 10 s = num 10 (s.take (endN s 48 s.length)) * 10 ^ (s.length - endN s 48 s.length) ∧ num 10 (s.take (endN s 48 s.length)) % 10 ≠ 0 := by
  have hle := endN_le s 48 s.length
  have hz : ∀ n, n ≤ s.length → ∀ j, endN s 48 n ≤ j → j < n → s.getD j 0 = 48 := by
    intro n
    induction n with
    | zero => intro _ j _ hj; omega
    | succ n ih =>
      intro hn j h1 h2
      rw [endN] at h1
      by_cases h3 : s.getD n 0 = 48
      · rw [if_pos h3] at h1
        by_cases e : j = n
        · rw [e]; exact h3
        · exact ih (by omega) j h1 (by omega)
      · rw [if_neg h3] at h1; omega
  have hz := hz s.length (Nat.le_refl _)
  have hsp := num_split 10 (s := s) (k := endN s 48 s.length) hle
  have hd0 : num 10 (s.drop (endN s 48 s.length)) = 0 := by
    rw [num, numN_allz (digs_drop hs _) _ (Nat.le_refl _)]
    intro j hj
    rw [List.length_drop] at hj
    rw [getD_drop']
    exact hz _ (by omega) (by omega)
  rw [hd0, Nat.add_zero] at hsp
  have hpos : 0 < endN s 48 s.length := by
    rcases Nat.eq_zero_or_pos (endN s 48 s.length) with h0 | h0
    · rw [h0] at hsp
      exact absurd (by rw [hsp]; simp [num, numN]) h
    · exact h0
  refine ⟨hpos, hsp, ?_⟩
  have hl := endN_last (s := s) (c := 48) s.length (by omega)
  obtain ⟨k, hk⟩ : ∃ k, endN s 48 s.length = k + 1 := ⟨endN s 48 s.length - 1, by omega⟩
  rw [hk] at hl ⊢
  rw [Nat.add_sub_cancel] at hl
  have htl : (s.take (k + 1)).length = k + 1 := by simp; omega
  have hx := digs_get hs (show k < s.length by omega)
  rw [num, htl, numN, getD_take' (by omega), worth_digit hx]
  omega

/-- D * 10^x is m * 2^e, and D does not end in 0. -/
def DecIs (m : Nat) (e : Int) (D : Nat) (x : Int) : Prop := D % 10 ≠ 0 ∧ D * 10 ^ x.toNat * 2 ^ (-e).toNat = m * 2 ^ e.toNat * 10 ^ (-x).toNat

theorem ten_pow_unique {D D' a b : Nat} (h1 : D % 10 ≠ 0) (h2 : D' % 10 ≠ 0) (h : D * 10 ^ a = D' * 10 ^ b) : D = D' ∧ a = b := by
  have key : ∀ D D' a c, D % 10 ≠ 0 → D' % 10 ≠ 0 → D * 10 ^ a = D' * 10 ^ (a + c) → c = 0 := by
    intro D D' a c h1 h2 h
    rw [Nat.pow_add, Nat.mul_comm (10 ^ a), ← Nat.mul_assoc] at h
    have h3 := Nat.eq_of_mul_eq_mul_right (Nat.pow_pos (by decide)) h
    cases c with
    | zero => rfl
    | succ c =>
      rw [Nat.pow_succ, ← Nat.mul_assoc] at h3
      omega
  rcases Nat.le_total a b with hab | hab
  · obtain ⟨c, rfl⟩ := Nat.le.dest hab
    have := key D D' a c h1 h2 h
    subst this
    exact ⟨Nat.eq_of_mul_eq_mul_right (Nat.pow_pos (by decide)) h, rfl⟩
  · obtain ⟨c, rfl⟩ := Nat.le.dest hab
    have := key D' D b c h2 h1 h.symm
    subst this
    exact ⟨Nat.eq_of_mul_eq_mul_right (Nat.pow_pos (by decide)) h, rfl⟩

theorem decIs_unique {m : Nat} {e : Int} {D D' : Nat} {x x' : Int} (hm : m ≠ 0) (h1 : DecIs m e D x) (h2 : DecIs m e D' x') : D = D' ∧ x = x' := by
  obtain ⟨a1, a2⟩ := h1
  obtain ⟨b1, b2⟩ := h2
  have hp : ∀ n, 0 < 2 ^ n := fun n => Nat.pow_pos (by decide)
  -- times the other's power of ten below
  have h3 : D * 10 ^ x.toNat * 10 ^ (-x').toNat * 2 ^ (-e).toNat = D' * 10 ^ x'.toNat * 10 ^ (-x).toNat * 2 ^ (-e).toNat := by
    have e1 : D * 10 ^ x.toNat * 10 ^ (-x').toNat * 2 ^ (-e).toNat = (D * 10 ^ x.toNat * 2 ^ (-e).toNat) * 10 ^ (-x').toNat := by grind
    have e2 : D' * 10 ^ x'.toNat * 10 ^ (-x).toNat * 2 ^ (-e).toNat = (D' * 10 ^ x'.toNat * 2 ^ (-e).toNat) * 10 ^ (-x).toNat := by grind
    rw [e1, e2, a2, b2]
    grind
  have h4 := Nat.eq_of_mul_eq_mul_right (hp _) h3
  rw [Nat.mul_assoc, Nat.mul_assoc, ← Nat.pow_add, ← Nat.pow_add] at h4
  obtain ⟨h5, h6⟩ := ten_pow_unique a1 b1 h4
  exact ⟨h5, by omega⟩
end Go.Proofs.YtjhkpjddcaglnaaDoor
set_option linter.unusedVariables false
set_option linter.unusedSimpArgs false
namespace Go.Proofs.YtjhkpjddcaglnaaDoor
open Go Go.PV

/-- A double's bits: without the sign; the field of the exponent; the fraction. -/
def absD (d : Nat) : Nat := d % 9223372036854775808
def fieldD (d : Nat) : Nat := absD d / 4503599627370496
def fracD (d : Nat) : Nat := d % 4503599627370496
def negD (d : Nat) : Bool := decide (9223372036854775808 ≤ d)
def classD (d : Nat) : Int := if absD d = 0 then 0 else if fieldD d = 0 then 1 else if fieldD d < 2047 then 2 else if fracD d = 0 then 3 else 4
/-- Its mantissa and its exponent, where it is finite. -/
def mantD (d : Nat) : Nat := if fieldD d = 0 then fracD d else 4503599627370496 + fracD d
def expD (d : Nat) : Int := if fieldD d = 0 then -1074 else (fieldD d : Int) - 1075
def finD (d : Nat) : Prop := fieldD d < 2047
instance (d : Nat) : Decidable (finD d) := inferInstanceAs (Decidable (_ < _))
def partsM (d : Nat) : Int := if classD d = 1 ∨ classD d = 2 then (mantD d : Int) else (fracD d : Int)
def partsE (d : Nat) : Int := if classD d = 1 ∨ classD d = 2 then expD d else 0
def partsP (d : Nat) : PV := .agg [.bool (negD d), .int .i64 (classD d), .int .u64 (partsM d), .int .i64 (partsE d)]

theorem abs_lt (d : Nat) : absD d < 9223372036854775808 := Nat.mod_lt _ (by decide)
theorem abs_frac (d : Nat) : absD d % 4503599627370496 = fracD d := by unfold absD fracD; omega
theorem abs_parts (d : Nat) : absD d = fieldD d * 4503599627370496 + fracD d := by have := abs_frac d; unfold fieldD; omega
theorem frac_lt (d : Nat) : fracD d < 4503599627370496 := Nat.mod_lt _ (by decide)
theorem field_lt (d : Nat) : fieldD d < 2048 := by have := abs_lt d; unfold fieldD; omega
theorem abs_zero {d : Nat} : absD d = 0 ↔ fieldD d = 0 ∧ fracD d = 0 := by have := abs_parts d; omega
theorem mantD_zero {d : Nat} : mantD d = 0 ↔ absD d = 0 := by
  rw [abs_zero]; unfold mantD; split <;> omega
theorem mantD_lt (d : Nat) : mantD d < 9007199254740992 := by have := frac_lt d; unfold mantD; split <;> omega
theorem expD_ge (d : Nat) : -1074 ≤ expD d := by unfold expD; split <;> omega
theorem expD_le {d : Nat} (h : finD d) : expD d ≤ 971 := by unfold finD at h; unfold expD; split <;> omega
theorem fin_class {d : Nat} : finD d ↔ classD d < 3 := by
  have := @abs_zero d
  unfold finD classD
  split
  · omega
  · split
    · omega
    · split
      · omega
      · split <;> omega
theorem classD_le (d : Nat) : 0 ≤ classD d ∧ classD d ≤ 4 := by unfold classD; split; omega; split; omega; split; omega; split <;> omega
theorem class_zero {d : Nat} : classD d = 0 ↔ absD d = 0 := by unfold classD; split; omega; split; omega; split; omega; split <;> omega
theorem parts_fin {d : Nat} (h : finD d) (h0 : absD d ≠ 0) : partsM d = mantD d ∧ partsE d = expD d := by
  have h1 := fin_class.1 h
  have h2 := class_zero (d := d)
  have h3 := classD_le d
  unfold partsM partsE
  rw [if_pos (by omega), if_pos (by omega)]
  exact ⟨rfl, rfl⟩

theorem and_bit (d i : Nat) : d &&& 2 ^ i = d / 2 ^ i % 2 * 2 ^ i := by
  have := Nat.mod_lt (d / 2 ^ i) (show 2 > 0 by decide)
  refine Nat.eq_of_testBit_eq fun j => ?_
  rw [Nat.testBit_and, Nat.testBit_two_pow]
  by_cases e : i = j
  · subst e
    rw [Nat.testBit_eq_decide_div_mod_eq]
    by_cases h : d / 2 ^ i % 2 = 1
    · rw [h]; simp
    · have h0 : d / 2 ^ i % 2 = 0 := by omega
      rw [h0]; simp
  · by_cases h : d / 2 ^ i % 2 = 1
    · rw [h, Nat.one_mul, Nat.testBit_two_pow]; simp [e]
    · have h0 : d / 2 ^ i % 2 = 0 := by omega
      rw [h0]; simp [e]
theorem and_sign {d : Nat} (hd : d < 18446744073709551616) : ibits .and .u64 (d : Int) 9223372036854775808 = if 9223372036854775808 ≤ d then 9223372036854775808 else 0 := by
  rw [ibits_and_u64 ⟨by omega, by omega⟩ (by decide), Int.toNat_natCast]
  have e : (9223372036854775808 : Int).toNat = 2 ^ 63 := by decide
  rw [e, and_bit]
  have e2 : (2 : Nat) ^ 63 = 9223372036854775808 := by decide
  rw [e2]
  split <;> omega
theorem andNot_sign {d : Nat} (hd : d < 18446744073709551616) : ibits .andNot .u64 (d : Int) 9223372036854775808 = (absD d : Int) := by
  rw [ibits_andNot_u64 ⟨by omega, by omega⟩ (by decide), Int.toNat_natCast]
  have e : (9223372036854775808 : Int).toNat = 2 ^ 63 := by decide
  rw [e, and_bit]
  have e2 : (2 : Nat) ^ 63 = 9223372036854775808 := by decide
  rw [e2]
  unfold absD
  omega
theorem and_frac {d : Nat} (hd : d < 18446744073709551616) : ibits .and .u64 (d : Int) 4503599627370495 = (fracD d : Int) := by
  have h := and_low 52 (by decide) (a := (d : Int)) ⟨by omega, by omega⟩
  rw [show (((2 ^ 52 - 1 : Nat)) : Int) = 4503599627370495 from rfl] at h
  rw [h]
  unfold fracD
  have e2 : (2 : Int) ^ 52 = 4503599627370496 := by decide
  rw [e2]
  omega
theorem or_hidden {f : Nat} (hf : f < 4503599627370496) : ibits .or .u64 4503599627370496 (f : Int) = ((4503599627370496 + f : Nat) : Int) := by
  rw [ibits_or_u64 (by decide) ⟨by omega, by omega⟩, Int.toNat_natCast]
  have h := Nat.two_pow_add_eq_or_of_lt (i := 52) (b := f) (by simpa using hf) 1
  have e : (4503599627370496 : Int).toNat = 2 ^ 52 * 1 := by decide
  rw [e, ← h]
theorem and_field {x : Nat} (hx : x < 4096) : ibits .and .u64 (x : Int) 2047 = ((x % 2048 : Nat) : Int) := by
  have h := and_low 11 (by decide) (a := (x : Int)) ⟨by omega, by omega⟩
  rw [show (((2 ^ 11 - 1 : Nat)) : Int) = 2047 from rfl] at h
  rw [h]
  have e2 : (2 : Int) ^ 11 = 2048 := by decide
  rw [e2]
  omega
theorem shr_52 {d : Nat} : d / 4503599627370496 % 2048 = fieldD d := by unfold fieldD absD; omega
end Go.Proofs.YtjhkpjddcaglnaaDoor
set_option linter.unusedVariables false
set_option linter.unusedSimpArgs false
namespace Go.Proofs.YtjhkpjddcaglnaaDoor
open Go Go.PV

def tzRen : Go.Shelf.Ren := ⟨fun | 29 => 70 | n => n, fun | 0 => 0 | 3 => 3 | 4 => 4 | 5 => 5 | 22 => 38 | 25 => 65 | 54 => 115 | n => n, fun | 1 => 0 | n => n⟩
theorem tzLays : Go.Proofs.Lays7.n29 Tryd.prog tzRen := {
  mixed := by kernel_rfl
  f29 := Tryd.func70.trans (congrArg some (by kernel_rfl))
  t0 := Tryd.underlying0
  a0 := Tryd.isAgg0
  z0 := Tryd.sizeOf0
  v0 := Tryd.zeroValue0
  i0 := by kernel_rfl
  t3 := Tryd.underlying3
  a3 := Tryd.isAgg3
  z3 := Tryd.sizeOf3
  v3 := Tryd.zeroValue3
  i3 := by kernel_rfl
  t4 := Tryd.underlying4
  a4 := Tryd.isAgg4
  z4 := Tryd.sizeOf4
  v4 := Tryd.zeroValue4
  i4 := by kernel_rfl
  t5 := Tryd.underlying5
  a5 := Tryd.isAgg5
  z5 := Tryd.sizeOf5
  v5 := Tryd.zeroValue5
  i5 := by kernel_rfl
  t22 := Tryd.underlying38
  a22 := Tryd.isAgg38
  z22 := Tryd.sizeOf38
  v22 := Tryd.zeroValue38
  i22 := by kernel_rfl
  t25 := Tryd.underlying65
  a25 := Tryd.isAgg65
  z25 := Tryd.sizeOf65
  v25 := Tryd.zeroValue65
  i25 := by kernel_rfl
  t54 := Tryd.underlying115
  a54 := Tryd.isAgg115
  z54 := Tryd.sizeOf115
  g1 := by kernel_rfl }

/-- math/bits.TrailingZeros64. -/
theorem trailing64 (x : Nat) (hx : x < 18446744073709551616) : Meets Tryd.prog 70 [.int .u64 (x : Int)] (.int .i64 ((Lib.ctz 64 x : Nat) : Int)) := by
  refine ⟨fun w A vs hA hl ha => .inl ⟨call_enters Tryd.func70 (by kernel_rfl) (c := _) rfl vs w, ?_⟩⟩
  have hs : vs.size = 1 := by simpa using hl.symm
  obtain ⟨v, rfl⟩ : ∃ v, vs = #[v] := ⟨vs[0], Array.ext (by simp [hs]) fun i h1 h2 => by
    have : i = 0 := by omega
    subst this; rfl⟩
  have h0 := ha 0 (by simp)
  simp only [List.getD_cons_zero, Array.getD] at h0
  obtain rfl := rd_int h0
  obtain ⟨gl, hg, hn⟩ := Option.map_eq_some_iff.1 (show (Tryd.prog.globals[0]?).map (·.name) = some "math/bits.deBruijn64tab" by kernel_rfl)
  refine (Go.Proofs.Any7.bits_TrailingZeros64 tzLays x hx w fun _ j hj => hA.1 _ gl _ hg (by rw [hn]; rfl) j hj).mono fun e w' ⟨he, hw⟩ => ⟨_, he, ?_⟩
  rw [hw]
  exact ⟨Go.RowKit.Below.refl _ _, .int _ _⟩

/-- x is 2^(trailing zeros) times an odd number. -/
theorem ctz_spec {x : Nat} (h0 : x ≠ 0) (hx : x < 18446744073709551616) : Lib.ctz 64 x < 64 ∧ ∃ m, x = 2 ^ Lib.ctz 64 x * (2 * m + 1) := by
  unfold Lib.ctz
  rw [if_neg h0]
  obtain ⟨m, h1, h2⟩ := Lib.ctzFrom_spec 64 x (by omega) (by simpa using hx)
  exact ⟨h2, m, h1⟩
end Go.Proofs.YtjhkpjddcaglnaaDoor

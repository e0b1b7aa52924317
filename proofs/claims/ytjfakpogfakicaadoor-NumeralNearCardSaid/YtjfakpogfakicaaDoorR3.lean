import Derived.Test.YtjfakpogfakicaaDoorR2
set_option linter.unusedVariables false
set_option linter.unusedSimpArgs false
namespace Go.Proofs.YtjfakpogfakicaaDoor
open Go Go.PV

theorem getD_zeros (n k : Nat) : (List.replicate n (0 : Int)).getD k 0 = 0 := by
  rw [List.getD_eq_getElem?_getD, List.getElem?_replicate]; split <;> rfl
theorem natL_zero : natL 0 = [] := by unfold natL; rw [digs_zero]; rfl
theorem natL_len0 {v : Nat} : (natL v).length = 0 ↔ v = 0 := by
  constructor
  · intro h
    apply Classical.byContradiction
    intro h0
    have := (natL_ge h0).1
    omega
  · rintro rfl; rw [natL_zero]; rfl
theorem natL_mono {u v : Nat} (h : u ≤ v) : (natL u).length ≤ (natL v).length := by
  apply Classical.byContradiction
  intro h1
  have h2 := size_lt_val (natL_limbs v) (natL_limbs u) (by rw [size_natL, size_natL]; omega)
  rw [val_natL, val_natL] at h2
  omega

theorem sub_nat {u v : Nat} (hu : u < NMax) (hv : v < NMax) (h : v ≤ u) : Meets Tryd.prog 10 [.ints .u64 (natL u), .ints .u64 (natL v)] (.tup [.ints .u64 (natL (u - v)), .int .i64 0]) :=
  sub_list _ _ (natL_limbs u) (natL_limbs v) (natL_small hu) (natL_small hv) (size_natL u) (size_natL v) (natL_mono h) (by rw [val_natL, val_natL]; omega) _ (by rw [val_natL, val_natL]; omega) (by omega)

theorem sub_below {u v : Nat} (hu : u < NMax) (hv : v < NMax) (h : u < v) : Meets Tryd.prog 10 [.ints .u64 (natL u), .ints .u64 (natL v)] (.tup [.ints .u64 [], .int .i64 10]) := by
  have hcm := nat_cmp (natL u) (natL v) (natL_limbs u) (natL_limbs v) (by have := natL_small hu; omega) (by have := natL_small hv; omega)
  have hc : cmpN (natL u) (natL v) = -1 := by unfold cmpN; rw [val_natL, val_natL, if_pos (by omega)]
  rw [hc] at hcm
  have b1 := big_as (natL_small hu) (size_natL u)
  have b2 := big_as (natL_small hv) (size_natL v)
  refine Meets.nil_head .u64 ?_
  refine meets_by ttOk Tryd.func10 Tryd.ntmps10 Tryd.results10 (by kernel_rfl) (c := _) rfl rfl rfl fun E => ?_
  simp only [argsFrame]
  generalize natL u = a at *
  generalize natL v = b at *
  repeat' first
    | (with_reducible first | refine PW.seq ?_ | refine PW.block ?_ | refine PW.fork ?_ | refine PW.skip ?_ | refine PW.exit ?_ | refine PW.ret ?_)
    | (with_reducible refine PW.region ttOk ?_ ?_
       · rfl)
    | (with_reducible refine PW.regionD ttOk mixed ?_ ?_ ?_
       · rfl
       · rfl)
    | (with_reducible refine ifW_dec (fun g => ?_) (fun g => ?_) <;> first | (exfalso; omega) | (simp -dsimp only [g, wkI]))
    | (with_reducible refine condE_dec (fun g => ?_) (fun g => ?_) <;> try (exfalso; omega))
    | (with_reducible refine condE_not (fun g => ?_) (fun g => ?_) <;> try (exfalso; omega))
    | (simp -dsimp only [↓wkA, wkB, ↓tt, Nat.reduceBEq, Nat.reduceEqDiff, ↓reduceIte, Nat.reduceLT, Array.toList, Nat.reduceAdd, Nat.reduceMul, Int.reduceToNat, Int.reducePow, UInt8.reduceToNat])
    | (refine call_by b1 (views_data rfl) ⟨trivial, trivial⟩ rfl ?_)
    | (refine call_by b2 (views_data rfl) ⟨trivial, trivial⟩ rfl ?_)
    | (refine call_by hcm (views_data rfl) ⟨trivial, trivial, trivial⟩ rfl ?_)
    | (simp -dsimp (disch := first | assumption | omega) only [dec_t, dec_f])
    | (refine And.intro ?_ ?_
       · first | omega | decide | (simp (disch := omega) only [wkW, Int.reduceToNat, Int.reducePow] <;> omega) | (simp <;> omega))
    | (simp (disch := omega) only [wkW, Int.reduceToNat, Int.reducePow])
    | fail

theorem mul_zero {a b : List Int} (hla : a.length ≤ 4096) (hlb : b.length ≤ 4096) (hsa : size a = a.length) (hsb : size b = b.length) (h : a.length = 0 ∨ b.length = 0) : Meets Tryd.prog 8 [.ints .u64 a, .ints .u64 b] (.tup [.ints .u64 [], .int .i64 0]) := by
  have s1 := size_as hla hsa
  have s2 := size_as hlb hsb
  have b1 := big_as hla hsa
  have b2 := big_as hlb hsb
  refine Meets.nil_head .u64 ?_
  refine meets_by ttOk Tryd.func8 Tryd.ntmps8 Tryd.results8 (by kernel_rfl) (c := _) rfl rfl rfl fun E => ?_
  simp only [argsFrame]
  repeat' first
    | (with_reducible first | refine PW.seq ?_ | refine PW.block ?_ | refine PW.fork ?_ | refine PW.skip ?_ | refine PW.exit ?_ | refine PW.ret ?_)
    | (with_reducible refine PW.region ttOk ?_ ?_
       · rfl)
    | (with_reducible refine PW.regionD ttOk mixed ?_ ?_ ?_
       · rfl
       · rfl)
    | (with_reducible refine ifW_dec (fun g => ?_) (fun g => ?_) <;> first | (exfalso; omega) | (simp -dsimp only [g, wkI]))
    | (with_reducible refine condE_dec (fun g => ?_) (fun g => ?_) <;> try (exfalso; omega))
    | (with_reducible refine condE_not (fun g => ?_) (fun g => ?_) <;> try (exfalso; omega))
    | (simp -dsimp only [↓wkA, wkB, ↓tt, Nat.reduceBEq, Nat.reduceEqDiff, ↓reduceIte, Nat.reduceLT, Array.toList, Nat.reduceAdd, Nat.reduceMul, Int.reduceToNat, Int.reducePow, UInt8.reduceToNat])
    | (refine call_by b1 (views_data rfl) ⟨trivial, trivial⟩ rfl ?_)
    | (refine call_by b2 (views_data rfl) ⟨trivial, trivial⟩ rfl ?_)
    | (refine callD_by s1 (views_data rfl) ⟨trivial, trivial⟩ rfl ?_)
    | (refine callD_by s2 (views_data rfl) ⟨trivial, trivial⟩ rfl ?_)
    | (simp -dsimp (disch := first | assumption | omega) only [dec_t, dec_f])
    | (refine And.intro ?_ ?_
       · first | omega | decide | (simp (disch := omega) only [wkW, Int.reduceToNat, Int.reducePow] <;> omega) | (simp <;> omega))
    | (simp (disch := omega) only [wkW, Int.reduceToNat, Int.reducePow])
    | fail

/-- nat.Mul of any two, nothing among them. -/
theorem mul_nat0 {u v : Nat} (hu : u < NMax) (hv : v < NMax) (h : u * v < NMax) : Meets Tryd.prog 8 [.ints .u64 (natL u), .ints .u64 (natL v)] (.tup [.ints .u64 (natL (u * v)), .int .i64 0]) := by
  by_cases h0 : u = 0 ∨ v = 0
  · have e : u * v = 0 := by rcases h0 with rfl | rfl <;> simp
    rw [e, natL_zero]
    exact mul_zero (natL_small hu) (natL_small hv) (size_natL u) (size_natL v) (by rw [natL_len0, natL_len0]; exact h0)
  · exact mul_nat (fun e => h0 (.inl e)) (fun e => h0 (.inr e)) hu hv h

theorem cmp_nat {u v : Nat} (hu : u < NMax) (hv : v < NMax) : Meets Tryd.prog 9 [.ints .u64 (natL u), .ints .u64 (natL v)] (.int .i64 (if u < v then -1 else if v < u then 1 else 0)) := by
  have hcm := nat_cmp (natL u) (natL v) (natL_limbs u) (natL_limbs v) (by have := natL_small hu; omega) (by have := natL_small hv; omega)
  have e : cmpN (natL u) (natL v) = (if u < v then -1 else if v < u then 1 else 0) := by
    unfold cmpN
    rw [val_natL, val_natL]
    simp only [Int.ofNat_lt]
  rwa [e] at hcm

/-- What the rounds of a shift to the left keep. -/
structure ShlS (a o : List Int) (q p i : Nat) : Prop where
  len : o.length = q + a.length + 1
  lim : Limbs o
  top : o.getD (q + i) 0 < 2 ^ p
  eq : vt o (q + i + 1) = 2 ^ p * (B64 ^ q * vt a i)
  rest : ∀ k, q + i < k → o.getD k 0 = 0

theorem shl_parts {x : Int} (p : Nat) (hp : p < 64) (hx : 0 ≤ x ∧ x < B64) : x * 2 ^ p / B64 < 2 ^ p ∧ x * 2 ^ p % B64 % 2 ^ p = 0 ∧ x * 2 ^ p % B64 ≤ B64 - 2 ^ p ∧ 0 ≤ x * 2 ^ p / B64 := by
  obtain ⟨x, rfl⟩ := Int.eq_ofNat_of_zero_le hx.1
  have hB : B64 = ((2 ^ p * 2 ^ (64 - p) : Nat) : Int) := by rw [← Nat.pow_add, show p + (64 - p) = 64 by omega]; rfl
  have h2 : ((2 : Int) ^ p) = ((2 ^ p : Nat) : Int) := by simp
  have hP : 0 < 2 ^ p := Nat.pow_pos (by omega)
  have hR : 0 < 2 ^ (64 - p) := Nat.pow_pos (by omega)
  have hx2 : x < 2 ^ p * 2 ^ (64 - p) := by have := hx.2; rw [hB] at this; exact_mod_cast this
  rw [hB, h2]
  clear hx hB h2
  generalize 2 ^ p = P at *
  generalize 2 ^ (64 - p) = R at *
  have hdiv : x * P / (P * R) = x / R := by rw [Nat.mul_comm x P]; exact Nat.mul_div_mul_left _ _ hP
  have hmod : x * P % (P * R) = P * (x % R) := by rw [Nat.mul_comm x P]; exact Nat.mul_mod_mul_left _ _ _
  have hlt : x % R + 1 ≤ R := Nat.mod_lt _ hR
  have hle : P * (x % R + 1) ≤ P * R := Nat.mul_le_mul_left P hlt
  rw [Nat.mul_add, Nat.mul_one] at hle
  refine ⟨?_, ?_, ?_, ?_⟩
  · have : x * P / (P * R) < P := by rw [hdiv]; exact Nat.div_lt_of_lt_mul (by rw [Nat.mul_comm]; exact hx2)
    exact_mod_cast this
  · have : x * P % (P * R) % P = 0 := by rw [hmod]; exact Nat.mul_mod_right _ _
    exact_mod_cast this
  · have : x * P % (P * R) + P ≤ P * R := by rw [hmod]; exact hle
    have h3 : (((x * P % (P * R) : Nat)) : Int) + (P : Int) ≤ ((P * R : Nat) : Int) := by exact_mod_cast this
    have h4 : (((x * P % (P * R) : Nat)) : Int) = (x : Int) * (P : Int) % ((P * R : Nat) : Int) := by simp
    omega
  · have : 0 ≤ x * P / (P * R) := Nat.zero_le _
    exact_mod_cast this

theorem ShlS.step {a o : List Int} {q p i : Nat} (h : ShlS a o q p i) (ha : Limbs a) (hp : p < 64) (hi : i < a.length) {x : Int} (hx : a.getD i 0 = x) :
    ShlS a ((o.set (q + i) (o.getD (q + i) 0 + x * 2 ^ p % B64)).set (q + i + 1) (x * 2 ^ p / B64)) q p (i + 1) := by
  have hlt : q + i < o.length := by rw [h.len]; omega
  have hlt2 : q + i + 1 < o.length := by rw [h.len]; omega
  have hxl : 0 ≤ x ∧ x < B64 := by rw [← hx]; exact getD_limb ha i
  obtain ⟨p1, p2, p3, p4⟩ := shl_parts p hp hxl
  have hd := getD_limb h.lim (q + i)
  have ht := h.top
  have hm0 : 0 ≤ x * 2 ^ p % B64 := Int.emod_nonneg _ (by decide)
  have h64 : (2 : Int) ^ p ≤ B64 := by
    have : (2 : Nat) ^ p ≤ 2 ^ 64 := Nat.pow_le_pow_right (by omega) (by omega)
    have e : B64 = ((2 ^ 64 : Nat) : Int) := rfl
    rw [e]; exact_mod_cast this
  have hs1 : (o.set (q + i) (o.getD (q + i) 0 + x * 2 ^ p % B64)).length = o.length := List.length_set
  refine ⟨by rw [List.length_set, hs1, h.len], limbs_set (limbs_set h.lim _ ⟨by omega, by omega⟩) _ ⟨p4, by omega⟩, ?_, ?_, fun k hk => ?_⟩
  · rw [show q + (i + 1) = q + i + 1 by omega, getD_set _ _ _ _ (by rw [hs1]; exact hlt2), if_pos rfl]
    exact p1
  · rw [show q + (i + 1) + 1 = (q + i + 1) + 1 by omega]
    simp only [vt]
    have g1 := getD_set (o.set (q + i) (o.getD (q + i) 0 + x * 2 ^ p % B64)) (q + i + 1) (q + i + 1) (x * 2 ^ p / B64) (by rw [hs1]; exact hlt2)
    have g2 := getD_set (o.set (q + i) (o.getD (q + i) 0 + x * 2 ^ p % B64)) (q + i + 1) (q + i) (x * 2 ^ p / B64) (by rw [hs1]; exact hlt2)
    have g3 := getD_set o (q + i) (q + i) (o.getD (q + i) 0 + x * 2 ^ p % B64) hlt
    rw [if_pos rfl] at g1 g3
    rw [if_neg (by omega), g3] at g2
    rw [g1, g2, vt_set_ge _ _ _ _ (by rw [hs1]; exact hlt2) (by omega), vt_set_ge _ _ _ _ hlt (Nat.le_refl _), hx]
    have he := h.eq
    simp only [vt] at he
    have hsum : B64 * (x * 2 ^ p / B64) + x * 2 ^ p % B64 = x * 2 ^ p := Int.mul_ediv_add_emod _ _
    have e1 : B64 ^ (q + i + 1) = B64 ^ q * B64 ^ i * B64 := by rw [Int.pow_succ, Int.pow_add]
    have e2 : B64 ^ (q + i) = B64 ^ q * B64 ^ i := Int.pow_add _ _ _
    rw [e1]
    rw [e2] at he ⊢
    generalize x * 2 ^ p / B64 = hi at *
    generalize x * 2 ^ p % B64 = lo at *
    generalize vt o (q + i) = V at *
    generalize o.getD (q + i) 0 = d at *
    generalize B64 ^ q = Q at *
    generalize B64 ^ i = I at *
    generalize vt a i = A at *
    generalize (2 : Int) ^ p = T at *
    generalize B64 = B at *
    grind
  · rw [getD_set _ _ _ _ (by rw [hs1]; exact hlt2), if_neg (by omega), getD_set _ _ _ _ hlt, if_neg (by omega)]
    exact h.rest k (by omega)

abbrev shF (a : List Int) (q p i n : Nat) : PV.Frame := [(39, .int .i64 (i : Int)), (38, .int .i64 a.length), (37, .ints .u64 a), (8, .sl 0 0 n true), (7, .int .u64 (p : Int)), (6, .int .i64 (q : Int)), (0, .ints .u64 a)]

theorem shl_list (a : List Int) (ha : Limbs a) (hla : a.length ≤ 4096) (hsa : size a = a.length) (h0 : a.length ≠ 0) (n q p : Nat) (hn : n ≤ 262144) (hq : n / 64 = q) (hp : n % 64 = p) (v : Nat) (hv : 2 ^ p * (B64 ^ q * val a) = v) (hm : v < NMax) :
    Meets Tryd.prog 11 [.ints .u64 a, .int .i64 (n : Int)] (.tup [.ints .u64 (natL v), .int .i64 0]) := by
  have hp64 : p < 64 := by omega
  have s1 := size_as hla hsa
  have b1 := big_as hla hsa
  have hcut : ∀ o, Limbs o → o.length ≤ 100000 → val o = v → Meets Tryd.prog 20 [.ints .u64 o] (.tup [.ints .u64 (natL v), .int .i64 0]) := fun o h1 h2 h3 => cut_as h1 h2 h3 hm
  generalize natL v = res at *
  clear hm hsa
  have hq2 : q ≤ 4096 := by omega
  have e1 : ((n : Int)).tdiv 64 = (q : Int) := by rw [Int.tdiv_eq_ediv_of_nonneg (by omega)]; omega
  have e2 : ((n : Int)).tmod 64 = (p : Int) := by rw [Int.tmod_eq_emod_of_nonneg (by omega)]; omega
  have w1 : IntKind.wrap .i64 (q : Int) = (q : Int) := wrap_i64 (by omega)
  have w2 : IntKind.wrap .u64 (p : Int) = (p : Int) := wrap_u64 (by omega)
  have w3 : IntKind.wrap .i64 ((q : Int) + (a.length : Int)) = ((q + a.length : Nat) : Int) := by rw [wrap_i64 (by omega)]; omega
  have w4 : IntKind.wrap .i64 (((q + a.length : Nat) : Int) + 1) = ((q + a.length + 1 : Nat) : Int) := by rw [wrap_i64 (by omega)]; omega
  have hpow : (2 : Nat) ^ p ≤ 2 ^ 63 := Nat.pow_le_pow_right (by omega) (by omega)
  have hpow0 : 0 < (2 : Nat) ^ p := Nat.pow_pos (by omega)
  have e3 : (1 : Int) * 2 ^ min p 64 = ((2 ^ p : Nat) : Int) := by rw [Nat.min_eq_left (by omega)]; simp
  have w5 : IntKind.wrap .u64 ((2 ^ p : Nat) : Int) = ((2 ^ p : Nat) : Int) := wrap_u64 (by omega)
  refine meets_by ttOk Tryd.func11 Tryd.ntmps11 Tryd.results11 (by kernel_rfl) (c := _) rfl rfl rfl fun E => ?_
  simp only [argsFrame]
  repeat' first
    | (simp only [e1, e2, w1, w2, w3, w4])
    | (with_reducible first | refine PW.seq ?_ | refine PW.block ?_ | refine PW.fork ?_ | refine PW.skip ?_ | refine PW.exit ?_ | refine PW.ret ?_)
    | (with_reducible refine PW.region ttOk ?_ ?_
       · rfl)
    | (with_reducible refine PW.regionD ttOk mixed ?_ ?_ ?_
       · rfl
       · rfl)
    | (with_reducible refine ifW_dec (fun g => ?_) (fun g => ?_) <;> first | (exfalso; omega) | (simp -dsimp only [g, wkI]))
    | (with_reducible refine condE_dec (fun g => ?_) (fun g => ?_) <;> try (exfalso; omega))
    | (with_reducible refine condE_not (fun g => ?_) (fun g => ?_) <;> try (exfalso; omega))
    | (simp -dsimp only [↓wkA, wkB, ↓tt, Nat.reduceBEq, Nat.reduceEqDiff, ↓reduceIte, Nat.reduceLT, Array.toList, Nat.reduceAdd, Nat.reduceMul, Int.reduceToNat, Int.reducePow, UInt8.reduceToNat])
    | (refine call_by b1 (views_data rfl) ⟨trivial, trivial⟩ rfl ?_)
    | (refine call_by s1 (views_data rfl) ⟨trivial, trivial⟩ rfl ?_)
    | (simp -dsimp (disch := first | assumption | omega) only [dec_t, dec_f])
    | (refine And.intro ?_ ?_
       · first | omega | decide | (simp (disch := omega) only [wkW, Int.reduceToNat, Int.reducePow] <;> omega) | (simp <;> omega))
    | (simp (disch := omega) only [wkW, Int.reduceToNat, Int.reducePow])
    | fail
  refine PW.loopA (fun m F H => ∃ i o, i + m = a.length ∧ ShlS a o q p i ∧ F = shF a q p i (q + a.length + 1) ∧ H = ⟨1, [(0, .ints .u64 o)], [], []⟩) a.length (shF a q p 0 (q + a.length + 1)) ⟨1, [(0, .ints .u64 (List.replicate (q + a.length + 1) 0))], [], []⟩ (Sub.norm ⟨rfl, rfl, rfl, rfl, rfl, rfl, rfl, trivial⟩ ⟨rfl, trivial⟩ (by simp) rfl rfl rfl rfl) ⟨0, _, by omega, ⟨by simp, fun x hx => by rw [List.eq_of_mem_replicate hx]; decide, ?_, ?_, fun k hk => ?_⟩, rfl, rfl⟩ ?_
  · rw [getD_zeros]; exact_mod_cast hpow0
  · rw [vt_zeros]; simp [vt]
  · rw [getD_zeros]
  rintro m F H ⟨i, o, hi, hS, rfl, rfl⟩
  have hol := hS.len
  cases m with
  | zero =>
    obtain rfl : i = a.length := by omega
    have hc := hcut o hS.lim (by omega) (by rw [val, hol, hS.eq]; exact hv)
    repeat' first
      | (with_reducible first | refine PW.seq ?_ | refine PW.block ?_ | refine PW.fork ?_ | refine PW.skip ?_ | refine PW.exit ?_ | refine PW.ret ?_)
      | (with_reducible refine PW.region ttOk ?_ ?_
         · rfl)
      | (with_reducible refine PW.regionD ttOk mixed ?_ ?_ ?_
         · rfl
         · rfl)
      | (with_reducible refine ifW_dec (fun g => ?_) (fun g => ?_) <;> first | (exfalso; omega) | (simp -dsimp only [g, wkI]))
      | (with_reducible refine condE_dec (fun g => ?_) (fun g => ?_) <;> try (exfalso; omega))
      | (with_reducible refine condE_not (fun g => ?_) (fun g => ?_) <;> try (exfalso; omega))
      | (simp -dsimp only [↓wkA, wkB, ↓tt, Nat.reduceBEq, Nat.reduceEqDiff, ↓reduceIte, Nat.reduceLT, Array.toList, Nat.reduceAdd, Nat.reduceMul, Int.reduceToNat, Int.reducePow, UInt8.reduceToNat])
      | (refine call_drop (args' := [.ints .u64 o]) (by simp -dsimp only [↓wkA, wkB, ↓tt, Nat.reduceBEq, Nat.reduceEqDiff, ↓reduceIte, Nat.reduceLT, Array.toList, Nat.reduceAdd, Nat.reduceMul, Int.reduceToNat, Int.reducePow, UInt8.reduceToNat] <;> rw [List.take_of_length_le (by omega)]) hc (by simp -dsimp only [okViews, ↓wkA, wkB, ↓tt, Nat.reduceBEq, Nat.reduceEqDiff, ↓reduceIte, Nat.reduceLT, Array.toList, Nat.reduceAdd, Nat.reduceMul, Int.reduceToNat, Int.reducePow, UInt8.reduceToNat] <;> omega) rfl ?_)
      | (simp -dsimp (disch := first | assumption | omega) only [dec_t, dec_f])
      | (refine And.intro ?_ ?_
         · first | omega | decide | (simp (disch := omega) only [wkW, Int.reduceToNat, Int.reducePow] <;> omega) | (simp <;> omega))
      | (simp (disch := omega) only [wkW, Int.reduceToNat, Int.reducePow])
      | fail
  | succ m =>
    have hx := getD_limb ha i
    have hstep := hS.step ha hp64 (by omega) rfl
    obtain ⟨p1, p2, p3, p4⟩ := shl_parts p hp64 hx
    have hd := getD_limb hS.lim (q + i)
    have ht := hS.top
    have h2 : ((2 : Int) ^ p) = ((2 ^ p : Nat) : Int) := by simp
    rw [h2] at p1 p3 p2 hstep
    have h64 := mul64 (a.getD i 0) ((2 ^ p : Nat) : Int) hx (by simp only [B64]; omega)
    have hlo : 0 ≤ a.getD i 0 * ((2 ^ p : Nat) : Int) % B64 := Int.emod_nonneg _ (by decide)
    have hlo2 : a.getD i 0 * ((2 ^ p : Nat) : Int) % B64 < 18446744073709551616 := Int.emod_lt_of_pos _ (by decide)
    have hor := or_apart p ⟨hd.1, ht⟩ ⟨hlo, hlo2⟩ (by rw [h2]; exact p2) hd.2
    have w6 : IntKind.wrap .i64 ((q : Int) + (i : Int)) = ((q + i : Nat) : Int) := by rw [wrap_i64 (by omega)]; omega
    have w7 : IntKind.wrap .i64 (((q + i : Nat) : Int) + 1) = ((q + i + 1 : Nat) : Int) := by rw [wrap_i64 (by omega)]; omega
    generalize a.getD i 0 * ((2 ^ p : Nat) : Int) % B64 = lo at *
    generalize a.getD i 0 * ((2 ^ p : Nat) : Int) / B64 = hi' at *
    repeat' first
      | (simp only [e3, w5, w6, w7, hor, Int.toNat_natCast])
      | (with_reducible first | refine PW.seq ?_ | refine PW.block ?_ | refine PW.fork ?_ | refine PW.skip ?_ | refine PW.exit ?_ | refine PW.ret ?_)
      | (with_reducible refine PW.region ttOk ?_ ?_
         · rfl)
      | (with_reducible refine PW.regionD ttOk mixed ?_ ?_ ?_
         · rfl
         · rfl)
      | (with_reducible refine ifW_dec (fun g => ?_) (fun g => ?_) <;> first | (exfalso; omega) | (simp -dsimp only [g, wkI]))
      | (with_reducible refine condE_dec (fun g => ?_) (fun g => ?_) <;> try (exfalso; omega))
      | (with_reducible refine condE_not (fun g => ?_) (fun g => ?_) <;> try (exfalso; omega))
      | (simp -dsimp only [↓wkA, wkB, ↓tt, Nat.reduceBEq, Nat.reduceEqDiff, ↓reduceIte, Nat.reduceLT, Array.toList, Nat.reduceAdd, Nat.reduceMul, Int.reduceToNat, Int.reducePow, UInt8.reduceToNat])
      | (refine call_by h64 (views_data rfl) ⟨trivial, trivial, trivial⟩ rfl ?_)
      | (simp -dsimp (disch := first | assumption | omega) only [dec_t, dec_f])
      | (refine And.intro ?_ ?_
         · first | omega | decide | (simp (disch := omega) only [wkW, Int.reduceToNat, Int.reducePow] <;> omega) | (simp <;> omega))
      | (simp (disch := omega) only [wkW, Int.reduceToNat, Int.reducePow])
      | fail
    exact Again.mk m (shF a q p (i + 1) (q + a.length + 1)) ⟨1, [(0, .ints .u64 _)], [], []⟩ (by omega) (Sub.norm ⟨rfl, rfl, rfl, rfl, rfl, rfl, rfl, trivial⟩ ⟨rfl, trivial⟩ (Nat.le_refl _) rfl rfl rfl rfl) ⟨i + 1, _, by omega, hstep, rfl, rfl⟩
end Go.Proofs.YtjfakpogfakicaaDoor


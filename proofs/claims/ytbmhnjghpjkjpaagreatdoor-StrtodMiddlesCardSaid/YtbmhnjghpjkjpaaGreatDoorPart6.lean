/- Contracts and laws that the row leans on, part 6: texts that were built one by one, laid together. -/
import Derived.Test.YtbmhnjghpjkjpaaGreatDoorPart5
import Derived.Shelf.Spec.BitsCarry
import Derived.Shelf.Spec.TrailingZeros
set_option maxHeartbeats 4000000
set_option maxRecDepth 4000
set_option exponentiation.threshold 300000
set_option linter.unusedVariables false
set_option linter.unusedSimpArgs false
namespace Go.Proofs.YtbmhnjghpjkjpaaGreatDoor
open Go Go.PV
theorem trim_limbsOf {n v : Nat} (h : v < 18446744073709551616 ^ n) : trim (limbsOf n v) = natL v := by
  rw [trim_eq (limbsOf_limbs n v), limbsOf_val h, Int.toNat_natCast]
theorem trim_natL (v : Nat) : trim (natL v) = natL v := by rw [trim_eq (natL_limbs v), val_natL, Int.toNat_natCast]
theorem size_natL (v : Nat) : size (natL v) = (natL v).length := by
  have := trim_len (natL v)
  rw [trim_natL] at this
  exact this.symm
theorem natL_nrm (v : Nat) : Nrm (natL v) := by
  have := nrm_trim (natL_limbs v)
  rwa [trim_natL] at this
theorem natL_lt (v : Nat) : v < 18446744073709551616 ^ (natL v).length := by
  have h := vt_bound (natL_limbs v) (natL v).length
  have h2 : vt (natL v) (natL v).length = (v : Int) := val_natL v
  rw [h2] at h
  have e : B64 ^ (natL v).length = ((18446744073709551616 ^ (natL v).length : Nat) : Int) := by rw [Int.natCast_pow]; rfl
  rw [e] at h
  omega
theorem natL_ge {v : Nat} (h : v ≠ 0) : 0 < (natL v).length ∧ 18446744073709551616 ^ ((natL v).length - 1) ≤ v := by
  have hpos : 0 < (natL v).length := by
    unfold natL
    rw [digs_step (b := 18446744073709551616) (by decide) h]; simp
  have := natL_nrm v (by omega)
  rw [val_natL] at this
  have e : B64 ^ ((natL v).length - 1) = ((18446744073709551616 ^ ((natL v).length - 1) : Nat) : Int) := by rw [Int.natCast_pow]; rfl
  rw [e] at this
  exact ⟨hpos, by omega⟩
abbrev NMax : Nat := 18446744073709551616 ^ 4096
set_option exponentiation.threshold 300000 in
theorem nmax_int : B64 ^ 4096 = ((NMax : Nat) : Int) := by rw [Int.natCast_pow]; rfl
theorem natL_small {v : Nat} (h : v < NMax) : (natL v).length ≤ 4096 := by
  have := natL_size (v := v) (by rw [nmax_int]; omega)
  rwa [size_natL] at this
theorem pow64_mono {m n : Nat} (h : m ≤ n) : 18446744073709551616 ^ m ≤ 18446744073709551616 ^ n := Nat.pow_le_pow_right (by decide) h
theorem mul_nat {u v : Nat} (hu : u ≠ 0) (hv : v ≠ 0) (hul : u < NMax) (hvl : v < NMax) (h : u * v < NMax) : Meets Tryz.prog 61 [.ints .u64 (natL u), .ints .u64 (natL v)] (.tup [.ints .u64 (natL (u * v)), .int .i64 0]) := by
  have h1 := natL_small hul
  have h2 := natL_small hvl
  have g1 := natL_ge hu
  have g2 := natL_ge hv
  have hlt : u * v < 18446744073709551616 ^ ((natL u).length + (natL v).length) := by
    rw [Nat.pow_add]
    exact Nat.mul_lt_mul_of_lt_of_le (natL_lt u) (Nat.le_of_lt (natL_lt v)) (Nat.pow_pos (by decide))
  have hsum : (natL u).length + (natL v).length ≤ 4097 := by
    rcases Nat.lt_or_ge 4097 ((natL u).length + (natL v).length) with h3 | h3
    · exfalso
      have h4 : 18446744073709551616 ^ (((natL u).length - 1) + ((natL v).length - 1)) ≤ u * v := by
        rw [Nat.pow_add]; exact Nat.mul_le_mul g1.2 g2.2
      have h5 := pow64_mono (show 4096 ≤ ((natL u).length - 1) + ((natL v).length - 1) by omega)
      unfold NMax at h
      omega
    · exact h3
  have hval : (val (natL u) * val (natL v)).toNat = u * v := by
    rw [val_natL, val_natL]
    have : ((u : Int) * (v : Int)) = ((u * v : Nat) : Int) := by simp
    rw [this, Int.toNat_natCast]
  have hm := nat_mul (natL u) (natL v) (natL_limbs u) (natL_limbs v) (by omega) (by omega) (by rw [size_natL]; exact h1) (by rw [size_natL]; exact h2) (by rw [size_natL]; exact g1.1) (by rw [size_natL]; exact g2.1) (by rw [size_natL, size_natL]; exact hsum) _ rfl
  rw [hval, size_natL, size_natL] at hm
  have htr := trim_limbsOf hlt
  have hsz : size (limbsOf ((natL u).length + (natL v).length) (u * v)) = (natL (u * v)).length := by
    have := trim_len (limbsOf ((natL u).length + (natL v).length) (u * v))
    rw [htr] at this
    exact this.symm
  rw [hsz, if_neg (by have := natL_small h; omega), htr] at hm
  exact hm
theorem mul_long (a0 b0 : List Int) (hla : a0.length ≤ 9223372036854775807) (hlb : b0.length ≤ 9223372036854775807) (hsa : size a0 ≤ 4096) (hsb : size b0 ≤ 4096) (h0a : 0 < size a0) (h0b : 0 < size b0) (hsum : 4097 < size a0 + size b0) : Meets Tryz.prog 61 [.ints .u64 a0, .ints .u64 b0] (.tup [.nil, .int .i64 2]) := by
  refine meets_by ttOk Tryz.func61 Tryz.ntmps61 Tryz.results61 (by kernel_rfl) (c := _) rfl rfl rfl fun E => ?_
  simp only [argsFrame]
  have hsa' := size_le a0
  have hsb' := size_le b0
  have hba : decide (4096 < size a0) = false := by simp; omega
  have hbb : decide (4096 < size b0) = false := by simp; omega
  have hal : (List.take (size a0) a0).length = size a0 := by simp; omega
  have hbl : (List.take (size b0) b0).length = size b0 := by simp; omega
  repeat' first
    | (with_reducible first | refine PW.seq ?_ | refine PW.block ?_ | refine PW.fork ?_ | refine PW.skip ?_ | refine PW.exit ?_ | refine PW.ret ?_ | refine PW.scope ?_ | refine PW.label ?_ | refine PW.goto ?_)
    | (with_reducible refine PW.region ttOk ?_ ?_
       · rfl)
    | (with_reducible refine PW.regionD ttOk mixed ?_ ?_ ?_
       · rfl
       · rfl) | (with_reducible refine ifW_dec (fun g => ?_) (fun g => ?_) <;> first | (exfalso; omega) | (simp -dsimp only [g, wkI])) | (with_reducible refine condE_dec (fun g => ?_) (fun g => ?_) <;> try (exfalso; omega)) | (with_reducible refine condE_not (fun g => ?_) (fun g => ?_) <;> try (exfalso; omega)) | (simp -dsimp only [↓wkA, ↓wkE, ↓wkJ, wkB, ↓tt, Nat.reduceBEq, Nat.reduceEqDiff, ↓reduceIte, Nat.reduceLT, Array.toList, Nat.reduceAdd, Nat.reduceMul, Int.reduceToNat, Int.reducePow, UInt8.reduceToNat]) | (refine call_by (nat_big _ (by first | assumption | omega)) (views_data rfl) ⟨trivial, trivial⟩ rfl ?_) | (refine callD_by (nat_size _ (by first | assumption | omega)) (views_data rfl) ⟨trivial, trivial⟩ rfl ?_) | (simp only [hal, hbl]) | (simp -dsimp only [hba, hbb]) | (simp -dsimp (disch := first | assumption | omega) only [dec_t, dec_f])
    | (refine And.intro ?_ ?_
       · first | omega | decide | (simp (disch := omega) only [wkW, Int.reduceToNat, Int.reducePow] <;> omega) | (simp <;> omega)) | (simp (disch := omega) only [wkW, Int.reduceToNat, Int.reducePow]) | fail
  exfalso
  simp (disch := omega) only [hal, hbl, wkW, Int.reduceToNat, Int.reducePow] at g
  omega
set_option exponentiation.threshold 300000 in
theorem mul_over {u v : Nat} (hu : u ≠ 0) (hv : v ≠ 0) (hul : u < NMax) (hvl : v < NMax) (h : ¬ u * v < NMax) : Meets Tryz.prog 61 [.ints .u64 (natL u), .ints .u64 (natL v)] (.tup [.nil, .int .i64 2]) := by
  have h1 := natL_small hul
  have h2 := natL_small hvl
  have g1 := natL_ge hu
  have g2 := natL_ge hv
  by_cases hsum : 4097 < (natL u).length + (natL v).length
  · exact mul_long _ _ (by omega) (by omega) (by rw [size_natL]; exact h1) (by rw [size_natL]; exact h2) (by rw [size_natL]; exact g1.1) (by rw [size_natL]; exact g2.1) (by rw [size_natL, size_natL]; exact hsum)
  have hlt : u * v < 18446744073709551616 ^ ((natL u).length + (natL v).length) := by
    rw [Nat.pow_add]
    exact Nat.mul_lt_mul_of_lt_of_le (natL_lt u) (Nat.le_of_lt (natL_lt v)) (Nat.pow_pos (by decide))
  have hval : (val (natL u) * val (natL v)).toNat = u * v := by
    rw [val_natL, val_natL]
    have : ((u : Int) * (v : Int)) = ((u * v : Nat) : Int) := by simp
    rw [this, Int.toNat_natCast]
  have hm := nat_mul (natL u) (natL v) (natL_limbs u) (natL_limbs v) (by omega) (by omega) (by rw [size_natL]; exact h1) (by rw [size_natL]; exact h2) (by rw [size_natL]; exact g1.1) (by rw [size_natL]; exact g2.1) (by rw [size_natL, size_natL]; omega) _ rfl
  rw [hval, size_natL, size_natL] at hm
  have htr := trim_limbsOf hlt
  have hsz : size (limbsOf ((natL u).length + (natL v).length) (u * v)) = (natL (u * v)).length := by
    have := trim_len (limbsOf ((natL u).length + (natL v).length) (u * v))
    rw [htr] at this
    exact this.symm
  have hbig : 4096 < (natL (u * v)).length := by
    rcases Nat.lt_or_ge 4096 (natL (u * v)).length with h3 | h3
    · exact h3
    · exfalso
      have h4 := natL_lt (u * v)
      have h5 := pow64_mono h3
      exact h (Nat.lt_of_lt_of_le h4 h5)
  rw [hsz, if_pos hbig] at hm
  exact hm
theorem sub64 {x y c : Int} (hx : 0 ≤ x ∧ x < 18446744073709551616) (hy : 0 ≤ y ∧ y < 18446744073709551616) (hc : 0 ≤ c ∧ c ≤ 1) : Meets Tryz.prog 80 [.int .u64 x, .int .u64 y, .int .u64 c] (.tup [.int .u64 ((x - y - c) % 18446744073709551616), .int .u64 (-((x - y - c) / 18446744073709551616))]) :=
  meets_extern Tryz.func80 (by kernel_rfl) (by kernel_rfl) (by kernel_rfl) (e := sub64Entry) (by kernel_rfl) fun w A vs hl ha => by
    obtain rfl := args3 hl ha
    obtain ⟨x, rfl⟩ := Int.eq_ofNat_of_zero_le hx.1
    obtain ⟨y, rfl⟩ := Int.eq_ofNat_of_zero_le hy.1
    obtain ⟨c, rfl⟩ := Int.eq_ofNat_of_zero_le hc.1
    refine ⟨_, run_sub64 x y c (by omega) w, .tup _ _ rfl fun i hi => ?_⟩
    have e1 : ((((x + 18446744073709551616 - y - c) % 18446744073709551616 : Nat)) : Int) = ((x : Int) - y - c) % 18446744073709551616 := by omega
    have e2 : ((if x < y + c then 1 else 0 : Nat) : Int) = -(((x : Int) - y - c) / 18446744073709551616) := by split <;> omega
    rw [e1, e2]
    match i, hi with
    | 0, _ => exact .int _ _
    | 1, _ => exact .int _ _
structure SubS (a b o : List Int) (i : Nat) (c : Int) : Prop where
  len : o.length = a.length
  lim : Limbs o
  car : 0 ≤ c ∧ c ≤ 1
  eq : vt o i = vt a i - vt b i + B64 ^ i * c
theorem SubS.step {a b o : List Int} {i : Nat} {c s : Int} (h : SubS a b o i c) (ha : Limbs a) (hb : Limbs b) (hi : i < a.length) (hs : s = a.getD i 0 - b.getD i 0 - c) : SubS a b (o.set i (s % 18446744073709551616)) (i + 1) (-(s / 18446744073709551616)) := by
  have hlt : i < o.length := by rw [h.len]; exact hi
  have hx := getD_limb ha i
  have hy := getD_limb hb i
  have hc := h.car
  simp only [B64] at hx hy
  refine ⟨by rw [List.length_set, h.len], limbs_set h.lim _ ⟨Int.emod_nonneg _ (by decide), Int.emod_lt_of_pos _ (by decide)⟩, by omega, ?_⟩
  simp only [vt]
  rw [vt_set_ge _ _ _ _ hlt (Nat.le_refl _), getD_set _ _ _ _ hlt, if_pos rfl, h.eq, Int.pow_succ]
  have hsum : 18446744073709551616 * (s / 18446744073709551616) + s % 18446744073709551616 = s := Int.mul_ediv_add_emod s 18446744073709551616
  rw [hs] at hsum ⊢
  simp only [B64]
  generalize (18446744073709551616 : Int) ^ i = p at *
  generalize (a.getD i 0 - b.getD i 0 - c) / 18446744073709551616 = q at *
  generalize (a.getD i 0 - b.getD i 0 - c) % 18446744073709551616 = r at *
  grind
theorem vt_beyond {b : List Int} : ∀ n, b.length ≤ n → vt b n = val b := fun n h => by
  obtain ⟨d, rfl⟩ := Nat.exists_eq_add_of_le h
  clear h
  induction d with
  | zero => rfl
  | succ d ih =>
    rw [show b.length + (d + 1) = (b.length + d) + 1 by omega]
    simp only [vt]
    rw [ih, List.getD_eq_getElem?_getD, List.getElem?_eq_none (by omega)]
    simp
theorem SubS.fin {a b o : List Int} {c : Int} (h : SubS a b o a.length c) (hlen : b.length ≤ a.length) (hle : val b ≤ val a) : val o = val a - val b := by
  have h1 := h.eq
  rw [vt_beyond _ hlen, vt_beyond _ (Nat.le_refl _), ← h.len, show vt o o.length = val o from rfl] at h1
  have h2 := (vt_bound h.lim o.length).2
  have h3 : val o < B64 ^ o.length := h2
  have hp := pow_pos64 o.length
  have hc := h.car
  rcases (show c = 0 ∨ c = 1 by omega) with rfl | rfl
  · omega
  · omega
theorem size_as {a : List Int} (hla : a.length ≤ 4096) (hsa : size a = a.length) : Meets Tryz.prog 77 [.ints .u64 a] (.int .i64 (a.length : Int)) := by
  have := nat_size a (by omega)
  rwa [hsa] at this
theorem big_as {a : List Int} (hla : a.length ≤ 4096) (hsa : size a = a.length) : Meets Tryz.prog 76 [.ints .u64 a] (.bool false) := by
  have := nat_big a (by omega)
  rwa [hsa, decide_eq_false (by omega)] at this
theorem cut_as {o : List Int} (ho : Limbs o) (hol : o.length ≤ 100000) {v : Nat} (hv : val o = v) (hm : v < NMax) : Meets Tryz.prog 79 [.ints .u64 o] (.tup [.ints .u64 (natL v), .int .i64 0]) := by
  have h := nat_cut o (by omega)
  have ht : trim o = natL v := by rw [trim_eq ho, hv, Int.toNat_natCast]
  have hs : ¬ 4096 < size o := by rw [← trim_len, ht]; have := natL_small hm; omega
  rwa [if_neg hs, ht] at h
abbrev sbF (a b : List Int) (i : Nat) (c : Int) : PV.Frame := [(34, .int .i64 (i : Int)), (33, .int .i64 a.length), (32, .ints .u64 a), (7, .int .u64 c), (6, .sl 0 0 a.length true), (1, .ints .u64 b), (0, .ints .u64 a)]
theorem sub_list (a b : List Int) (ha : Limbs a) (hb : Limbs b) (hla : a.length ≤ 4096) (hlb : b.length ≤ 4096) (hsa : size a = a.length) (hsb : size b = b.length) (hlen : b.length ≤ a.length) (hle : val b ≤ val a) (v : Nat) (hv : val a - val b = v) (hm : v < NMax) :
    Meets Tryz.prog 40 [.ints .u64 a, .ints .u64 b] (.tup [.ints .u64 (natL v), .int .i64 0]) := by
  have hcm := nat_cmp a b ha hb (by omega) (by omega)
  have hc0 : 0 ≤ cmpN a b := by unfold cmpN; split <;> (try split) <;> omega
  have s1 := size_as hla hsa
  have s2 := size_as hlb hsb
  have b1 := big_as hla hsa
  have b2 := big_as hlb hsb
  have hcut : ∀ o, Limbs o → o.length ≤ 100000 → val o = v → Meets Tryz.prog 79 [.ints .u64 o] (.tup [.ints .u64 (natL v), .int .i64 0]) := fun o h1 h2 h3 => cut_as h1 h2 h3 hm
  generalize cmpN a b = cm at *
  generalize natL v = res at *
  clear hm hsa hsb
  refine meets_by ttOk Tryz.func40 Tryz.ntmps40 Tryz.results40 (by kernel_rfl) (c := _) rfl rfl rfl fun E => ?_
  simp only [argsFrame]
  repeat' first
    | (with_reducible first | refine PW.seq ?_ | refine PW.block ?_ | refine PW.fork ?_ | refine PW.skip ?_ | refine PW.exit ?_ | refine PW.ret ?_ | refine PW.scope ?_ | refine PW.label ?_ | refine PW.goto ?_)
    | (with_reducible refine PW.region ttOk ?_ ?_
       · rfl)
    | (with_reducible refine PW.regionD ttOk mixed ?_ ?_ ?_
       · rfl
       · rfl) | (with_reducible refine ifW_dec (fun g => ?_) (fun g => ?_) <;> first | (exfalso; omega) | (simp -dsimp only [g, wkI])) | (with_reducible refine condE_dec (fun g => ?_) (fun g => ?_) <;> try (exfalso; omega)) | (with_reducible refine condE_not (fun g => ?_) (fun g => ?_) <;> try (exfalso; omega)) | (simp -dsimp only [↓wkA, ↓wkE, ↓wkJ, wkB, ↓tt, Nat.reduceBEq, Nat.reduceEqDiff, ↓reduceIte, Nat.reduceLT, Array.toList, Nat.reduceAdd, Nat.reduceMul, Int.reduceToNat, Int.reducePow, UInt8.reduceToNat]) | (refine call_by b1 (views_data rfl) ⟨trivial, trivial⟩ rfl ?_) | (refine call_by b2 (views_data rfl) ⟨trivial, trivial⟩ rfl ?_) | (refine call_by hcm (views_data rfl) ⟨trivial, trivial, trivial⟩ rfl ?_) | (refine callD_by s1 (views_data rfl) ⟨trivial, trivial⟩ rfl ?_) | (refine callD_by s2 (views_data rfl) ⟨trivial, trivial⟩ rfl ?_) | (simp -dsimp (disch := first | assumption | omega) only [dec_t, dec_f])
    | (refine And.intro ?_ ?_
       · first | omega | decide | (simp (disch := omega) only [wkW, Int.reduceToNat, Int.reducePow] <;> omega) | (simp <;> omega)) | (simp (disch := omega) only [wkW, Int.reduceToNat, Int.reducePow]) | fail
  refine PW.loopA (fun m F H => ∃ i o c, i + m = a.length ∧ SubS a b o i c ∧ F = sbF a b i c ∧ H = ⟨1, [(0, .ints .u64 o)], [], []⟩) a.length (sbF a b 0 0) ⟨1, [(0, .ints .u64 (List.replicate a.length 0))], [], []⟩ (Sub.norm ⟨rfl, rfl, rfl, rfl, rfl, rfl, rfl, trivial⟩ ⟨?_, trivial⟩ (by simp) rfl rfl rfl rfl) ⟨0, _, 0, by omega, ⟨by simp, fun x hx => by rw [List.eq_of_mem_replicate hx]; decide, by decide, by simp [vt]⟩, rfl, rfl⟩ ?_
  · simp (disch := omega) only [↓wkA, ↓wkE, ↓wkJ, wkB, ↓tt, Nat.reduceBEq, Nat.reduceEqDiff, ↓reduceIte, Nat.reduceLT, Array.toList, Nat.reduceAdd, Nat.reduceMul, Int.reduceToNat, Int.reducePow, UInt8.reduceToNat, wkW, Int.reduceToNat, Int.reducePow]
  rintro m F H ⟨i, o, c, hi, hS, rfl, rfl⟩
  have hol := hS.len
  cases m with
  | zero =>
    obtain rfl : i = a.length := by omega
    have hc := hcut o hS.lim (by omega) (by rw [hS.fin hlen hle]; exact hv)
    repeat' first
      | (with_reducible first | refine PW.seq ?_ | refine PW.block ?_ | refine PW.fork ?_ | refine PW.skip ?_ | refine PW.exit ?_ | refine PW.ret ?_ | refine PW.scope ?_ | refine PW.label ?_ | refine PW.goto ?_)
      | (with_reducible refine PW.region ttOk ?_ ?_
         · rfl)
      | (with_reducible refine PW.regionD ttOk mixed ?_ ?_ ?_
         · rfl
         · rfl) | (with_reducible refine ifW_dec (fun g => ?_) (fun g => ?_) <;> first | (exfalso; omega) | (simp -dsimp only [g, wkI])) | (with_reducible refine condE_dec (fun g => ?_) (fun g => ?_) <;> try (exfalso; omega)) | (with_reducible refine condE_not (fun g => ?_) (fun g => ?_) <;> try (exfalso; omega)) | (simp -dsimp only [↓wkA, ↓wkE, ↓wkJ, wkB, ↓tt, Nat.reduceBEq, Nat.reduceEqDiff, ↓reduceIte, Nat.reduceLT, Array.toList, Nat.reduceAdd, Nat.reduceMul, Int.reduceToNat, Int.reducePow, UInt8.reduceToNat]) | (refine call_drop (args' := [.ints .u64 o]) (by simp -dsimp only [↓wkA, ↓wkE, ↓wkJ, wkB, ↓tt, Nat.reduceBEq, Nat.reduceEqDiff, ↓reduceIte, Nat.reduceLT, Array.toList, Nat.reduceAdd, Nat.reduceMul, Int.reduceToNat, Int.reducePow, UInt8.reduceToNat] <;> rw [List.take_of_length_le (by omega)]) hc (by simp -dsimp only [okViews, ↓wkA, ↓wkE, ↓wkJ, wkB, ↓tt, Nat.reduceBEq, Nat.reduceEqDiff, ↓reduceIte, Nat.reduceLT, Array.toList, Nat.reduceAdd, Nat.reduceMul, Int.reduceToNat, Int.reducePow, UInt8.reduceToNat] <;> omega) rfl ?_) | (simp -dsimp (disch := first | assumption | omega) only [dec_t, dec_f])
      | (refine And.intro ?_ ?_
         · first | omega | decide | (simp (disch := omega) only [wkW, Int.reduceToNat, Int.reducePow] <;> omega) | (simp <;> omega)) | (simp (disch := omega) only [wkW, Int.reduceToNat, Int.reducePow]) | fail
  | succ m =>
    have hx := getD_limb ha i
    have hy := getD_limb hb i
    have hc := hS.car
    simp only [B64] at hx hy
    have hstep := hS.step ha hb (by omega) rfl
    have h64 := sub64 hx hy hc
    by_cases hib : i < b.length
    · skip
      repeat' first
        | (with_reducible first | refine PW.seq ?_ | refine PW.block ?_ | refine PW.fork ?_ | refine PW.skip ?_ | refine PW.exit ?_ | refine PW.ret ?_ | refine PW.scope ?_ | refine PW.label ?_ | refine PW.goto ?_)
        | (with_reducible refine PW.region ttOk ?_ ?_
           · rfl)
        | (with_reducible refine PW.regionD ttOk mixed ?_ ?_ ?_
           · rfl
           · rfl) | (with_reducible refine ifW_dec (fun g => ?_) (fun g => ?_) <;> first | (exfalso; omega) | (simp -dsimp only [g, wkI])) | (with_reducible refine condE_dec (fun g => ?_) (fun g => ?_) <;> try (exfalso; omega)) | (with_reducible refine condE_not (fun g => ?_) (fun g => ?_) <;> try (exfalso; omega)) | (simp -dsimp only [↓wkA, ↓wkE, ↓wkJ, wkB, ↓tt, Nat.reduceBEq, Nat.reduceEqDiff, ↓reduceIte, Nat.reduceLT, Array.toList, Nat.reduceAdd, Nat.reduceMul, Int.reduceToNat, Int.reducePow, UInt8.reduceToNat]) | (refine call_by h64 (views_data rfl) ⟨trivial, trivial, trivial, trivial⟩ rfl ?_) | (simp -dsimp (disch := first | assumption | omega) only [dec_t, dec_f])
        | (refine And.intro ?_ ?_
           · first | omega | decide | (simp (disch := omega) only [wkW, Int.reduceToNat, Int.reducePow] <;> omega) | (simp <;> omega)) | (simp (disch := omega) only [wkW, Int.reduceToNat, Int.reducePow]) | fail
      exact Again.mk m (sbF a b (i + 1) _) ⟨1, [(0, .ints .u64 _)], [], []⟩ (by omega) (Sub.norm ⟨rfl, rfl, rfl, rfl, rfl, rfl, rfl, trivial⟩ ⟨rfl, trivial⟩ (Nat.le_refl _) rfl rfl rfl rfl) ⟨i + 1, _, _, by omega, hstep, rfl, rfl⟩
    · have hy0 : b.getD i 0 = 0 := by rw [List.getD_eq_getElem?_getD, List.getElem?_eq_none (by omega)]; rfl
      rw [hy0] at h64 hstep
      repeat' first
        | (with_reducible first | refine PW.seq ?_ | refine PW.block ?_ | refine PW.fork ?_ | refine PW.skip ?_ | refine PW.exit ?_ | refine PW.ret ?_ | refine PW.scope ?_ | refine PW.label ?_ | refine PW.goto ?_)
        | (with_reducible refine PW.region ttOk ?_ ?_
           · rfl)
        | (with_reducible refine PW.regionD ttOk mixed ?_ ?_ ?_
           · rfl
           · rfl) | (with_reducible refine ifW_dec (fun g => ?_) (fun g => ?_) <;> first | (exfalso; omega) | (simp -dsimp only [g, wkI])) | (with_reducible refine condE_dec (fun g => ?_) (fun g => ?_) <;> try (exfalso; omega)) | (with_reducible refine condE_not (fun g => ?_) (fun g => ?_) <;> try (exfalso; omega)) | (simp -dsimp only [↓wkA, ↓wkE, ↓wkJ, wkB, ↓tt, Nat.reduceBEq, Nat.reduceEqDiff, ↓reduceIte, Nat.reduceLT, Array.toList, Nat.reduceAdd, Nat.reduceMul, Int.reduceToNat, Int.reducePow, UInt8.reduceToNat]) | (refine call_by h64 (views_data rfl) ⟨trivial, trivial, trivial, trivial⟩ rfl ?_) | (simp -dsimp (disch := first | assumption | omega) only [dec_t, dec_f])
        | (refine And.intro ?_ ?_
           · first | omega | decide | (simp (disch := omega) only [wkW, Int.reduceToNat, Int.reducePow] <;> omega) | (simp <;> omega)) | (simp (disch := omega) only [wkW, Int.reduceToNat, Int.reducePow]) | fail
      exact Again.mk m (sbF a b (i + 1) _) ⟨1, [(0, .ints .u64 _)], [], []⟩ (by omega) (Sub.norm ⟨rfl, rfl, rfl, rfl, rfl, rfl, rfl, trivial⟩ ⟨rfl, trivial⟩ (Nat.le_refl _) rfl rfl rfl rfl) ⟨i + 1, _, _, by omega, hstep, rfl, rfl⟩
theorem getD_zeros (n k : Nat) : (List.replicate n (0 : Int)).getD k 0 = 0 := by
  rw [List.getD_eq_getElem?_getD, List.getElem?_replicate]; split <;> rfl
theorem natL_zero : natL 0 = [] := by unfold natL; rw [digs_zero]; rfl
theorem natL_len0 {v : Nat} : (natL v).length = 0 ↔ v = 0 := by
  constructor
  · intro h
    apply Classical.byContradiction
    intro h0
    have := (natL_ge h0).1
    omega
  · rintro rfl; rw [natL_zero]; rfl
theorem natL_mono {u v : Nat} (h : u ≤ v) : (natL u).length ≤ (natL v).length := by
  apply Classical.byContradiction
  intro h1
  have h2 := size_lt_val (natL_limbs v) (natL_limbs u) (by rw [size_natL, size_natL]; omega)
  rw [val_natL, val_natL] at h2
  omega
theorem sub_nat {u v : Nat} (hu : u < NMax) (hv : v < NMax) (h : v ≤ u) : Meets Tryz.prog 40 [.ints .u64 (natL u), .ints .u64 (natL v)] (.tup [.ints .u64 (natL (u - v)), .int .i64 0]) :=
  sub_list _ _ (natL_limbs u) (natL_limbs v) (natL_small hu) (natL_small hv) (size_natL u) (size_natL v) (natL_mono h) (by rw [val_natL, val_natL]; omega) _ (by rw [val_natL, val_natL]; omega) (by omega)
theorem mul_zero {a b : List Int} (hla : a.length ≤ 4096) (hlb : b.length ≤ 4096) (hsa : size a = a.length) (hsb : size b = b.length) (h : a.length = 0 ∨ b.length = 0) : Meets Tryz.prog 61 [.ints .u64 a, .ints .u64 b] (.tup [.ints .u64 [], .int .i64 0]) := by
  have s1 := size_as hla hsa
  have s2 := size_as hlb hsb
  have b1 := big_as hla hsa
  have b2 := big_as hlb hsb
  refine Meets.nil_head .u64 ?_
  refine meets_by ttOk Tryz.func61 Tryz.ntmps61 Tryz.results61 (by kernel_rfl) (c := _) rfl rfl rfl fun E => ?_
  simp only [argsFrame]
  repeat' first
    | (with_reducible first | refine PW.seq ?_ | refine PW.block ?_ | refine PW.fork ?_ | refine PW.skip ?_ | refine PW.exit ?_ | refine PW.ret ?_ | refine PW.scope ?_ | refine PW.label ?_ | refine PW.goto ?_)
    | (with_reducible refine PW.region ttOk ?_ ?_
       · rfl)
    | (with_reducible refine PW.regionD ttOk mixed ?_ ?_ ?_
       · rfl
       · rfl) | (with_reducible refine ifW_dec (fun g => ?_) (fun g => ?_) <;> first | (exfalso; omega) | (simp -dsimp only [g, wkI])) | (with_reducible refine condE_dec (fun g => ?_) (fun g => ?_) <;> try (exfalso; omega)) | (with_reducible refine condE_not (fun g => ?_) (fun g => ?_) <;> try (exfalso; omega)) | (simp -dsimp only [↓wkA, ↓wkE, ↓wkJ, wkB, ↓tt, Nat.reduceBEq, Nat.reduceEqDiff, ↓reduceIte, Nat.reduceLT, Array.toList, Nat.reduceAdd, Nat.reduceMul, Int.reduceToNat, Int.reducePow, UInt8.reduceToNat]) | (refine call_by b1 (views_data rfl) ⟨trivial, trivial⟩ rfl ?_) | (refine call_by b2 (views_data rfl) ⟨trivial, trivial⟩ rfl ?_) | (refine callD_by s1 (views_data rfl) ⟨trivial, trivial⟩ rfl ?_) | (refine callD_by s2 (views_data rfl) ⟨trivial, trivial⟩ rfl ?_) | (simp -dsimp (disch := first | assumption | omega) only [dec_t, dec_f])
    | (refine And.intro ?_ ?_
       · first | omega | decide | (simp (disch := omega) only [wkW, Int.reduceToNat, Int.reducePow] <;> omega) | (simp <;> omega)) | (simp (disch := omega) only [wkW, Int.reduceToNat, Int.reducePow]) | fail
theorem mul_nat0 {u v : Nat} (hu : u < NMax) (hv : v < NMax) (h : u * v < NMax) : Meets Tryz.prog 61 [.ints .u64 (natL u), .ints .u64 (natL v)] (.tup [.ints .u64 (natL (u * v)), .int .i64 0]) := by
  by_cases h0 : u = 0 ∨ v = 0
  · have e : u * v = 0 := by rcases h0 with rfl | rfl <;> simp
    rw [e, natL_zero]
    exact mul_zero (natL_small hu) (natL_small hv) (size_natL u) (size_natL v) (by rw [natL_len0, natL_len0]; exact h0)
  · exact mul_nat (fun e => h0 (.inl e)) (fun e => h0 (.inr e)) hu hv h
theorem cmp_nat {u v : Nat} (hu : u < NMax) (hv : v < NMax) : Meets Tryz.prog 62 [.ints .u64 (natL u), .ints .u64 (natL v)] (.int .i64 (if u < v then -1 else if v < u then 1 else 0)) := by
  have hcm := nat_cmp (natL u) (natL v) (natL_limbs u) (natL_limbs v) (by have := natL_small hu; omega) (by have := natL_small hv; omega)
  have e : cmpN (natL u) (natL v) = (if u < v then -1 else if v < u then 1 else 0) := by
    unfold cmpN
    rw [val_natL, val_natL]
    simp only [Int.ofNat_lt]
  rwa [e] at hcm
structure ShlS (a o : List Int) (q p i : Nat) : Prop where
  len : o.length = q + a.length + 1
  lim : Limbs o
  top : o.getD (q + i) 0 < 2 ^ p
  eq : vt o (q + i + 1) = 2 ^ p * (B64 ^ q * vt a i)
  rest : ∀ k, q + i < k → o.getD k 0 = 0
theorem shl_parts {x : Int} (p : Nat) (hp : p < 64) (hx : 0 ≤ x ∧ x < B64) : x * 2 ^ p / B64 < 2 ^ p ∧ x * 2 ^ p % B64 % 2 ^ p = 0 ∧ x * 2 ^ p % B64 ≤ B64 - 2 ^ p ∧ 0 ≤ x * 2 ^ p / B64 := by
  obtain ⟨x, rfl⟩ := Int.eq_ofNat_of_zero_le hx.1
  have hB : B64 = ((2 ^ p * 2 ^ (64 - p) : Nat) : Int) := by rw [← Nat.pow_add, show p + (64 - p) = 64 by omega]; rfl
  have h2 : ((2 : Int) ^ p) = ((2 ^ p : Nat) : Int) := by simp
  have hP : 0 < 2 ^ p := Nat.pow_pos (by omega)
  have hR : 0 < 2 ^ (64 - p) := Nat.pow_pos (by omega)
  have hx2 : x < 2 ^ p * 2 ^ (64 - p) := by have := hx.2; rw [hB] at this; exact_mod_cast this
  rw [hB, h2]
  clear hx hB h2
  generalize 2 ^ p = P at *
  generalize 2 ^ (64 - p) = R at *
  have hdiv : x * P / (P * R) = x / R := by rw [Nat.mul_comm x P]; exact Nat.mul_div_mul_left _ _ hP
  have hmod : x * P % (P * R) = P * (x % R) := by rw [Nat.mul_comm x P]; exact Nat.mul_mod_mul_left _ _ _
  have hlt : x % R + 1 ≤ R := Nat.mod_lt _ hR
  have hle : P * (x % R + 1) ≤ P * R := Nat.mul_le_mul_left P hlt
  rw [Nat.mul_add, Nat.mul_one] at hle
  refine ⟨?_, ?_, ?_, ?_⟩
  · have : x * P / (P * R) < P := by rw [hdiv]; exact Nat.div_lt_of_lt_mul (by rw [Nat.mul_comm]; exact hx2)
    exact_mod_cast this
  · have : x * P % (P * R) % P = 0 := by rw [hmod]; exact Nat.mul_mod_right _ _
    exact_mod_cast this
  · have : x * P % (P * R) + P ≤ P * R := by rw [hmod]; exact hle
    have h3 : (((x * P % (P * R) : Nat)) : Int) + (P : Int) ≤ ((P * R : Nat) : Int) := by exact_mod_cast this
    have h4 : (((x * P % (P * R) : Nat)) : Int) = (x : Int) * (P : Int) % ((P * R : Nat) : Int) := by simp
    omega
  · have : 0 ≤ x * P / (P * R) := Nat.zero_le _
    exact_mod_cast this
theorem ShlS.step {a o : List Int} {q p i : Nat} (h : ShlS a o q p i) (ha : Limbs a) (hp : p < 64) (hi : i < a.length) {x : Int} (hx : a.getD i 0 = x) :
    ShlS a ((o.set (q + i) (o.getD (q + i) 0 + x * 2 ^ p % B64)).set (q + i + 1) (x * 2 ^ p / B64)) q p (i + 1) := by
  have hlt : q + i < o.length := by rw [h.len]; omega
  have hlt2 : q + i + 1 < o.length := by rw [h.len]; omega
  have hxl : 0 ≤ x ∧ x < B64 := by rw [← hx]; exact getD_limb ha i
  obtain ⟨p1, p2, p3, p4⟩ := shl_parts p hp hxl
  have hd := getD_limb h.lim (q + i)
  have ht := h.top
  have hm0 : 0 ≤ x * 2 ^ p % B64 := Int.emod_nonneg _ (by decide)
  have h64 : (2 : Int) ^ p ≤ B64 := by
    have : (2 : Nat) ^ p ≤ 2 ^ 64 := Nat.pow_le_pow_right (by omega) (by omega)
    have e : B64 = ((2 ^ 64 : Nat) : Int) := rfl
    rw [e]; exact_mod_cast this
  have hs1 : (o.set (q + i) (o.getD (q + i) 0 + x * 2 ^ p % B64)).length = o.length := List.length_set
  refine ⟨by rw [List.length_set, hs1, h.len], limbs_set (limbs_set h.lim _ ⟨by omega, by omega⟩) _ ⟨p4, by omega⟩, ?_, ?_, fun k hk => ?_⟩
  · rw [show q + (i + 1) = q + i + 1 by omega, getD_set _ _ _ _ (by rw [hs1]; exact hlt2), if_pos rfl]
    exact p1
  · rw [show q + (i + 1) + 1 = (q + i + 1) + 1 by omega]
    simp only [vt]
    have g1 := getD_set (o.set (q + i) (o.getD (q + i) 0 + x * 2 ^ p % B64)) (q + i + 1) (q + i + 1) (x * 2 ^ p / B64) (by rw [hs1]; exact hlt2)
    have g2 := getD_set (o.set (q + i) (o.getD (q + i) 0 + x * 2 ^ p % B64)) (q + i + 1) (q + i) (x * 2 ^ p / B64) (by rw [hs1]; exact hlt2)
    have g3 := getD_set o (q + i) (q + i) (o.getD (q + i) 0 + x * 2 ^ p % B64) hlt
    rw [if_pos rfl] at g1 g3
    rw [if_neg (by omega), g3] at g2
    rw [g1, g2, vt_set_ge _ _ _ _ (by rw [hs1]; exact hlt2) (by omega), vt_set_ge _ _ _ _ hlt (Nat.le_refl _), hx]
    have he := h.eq
    simp only [vt] at he
    have hsum : B64 * (x * 2 ^ p / B64) + x * 2 ^ p % B64 = x * 2 ^ p := Int.mul_ediv_add_emod _ _
    have e1 : B64 ^ (q + i + 1) = B64 ^ q * B64 ^ i * B64 := by rw [Int.pow_succ, Int.pow_add]
    have e2 : B64 ^ (q + i) = B64 ^ q * B64 ^ i := Int.pow_add _ _ _
    rw [e1]
    rw [e2] at he ⊢
    generalize x * 2 ^ p / B64 = hi at *
    generalize x * 2 ^ p % B64 = lo at *
    generalize vt o (q + i) = V at *
    generalize o.getD (q + i) 0 = d at *
    generalize B64 ^ q = Q at *
    generalize B64 ^ i = I at *
    generalize vt a i = A at *
    generalize (2 : Int) ^ p = T at *
    generalize B64 = B at *
    grind
  · rw [getD_set _ _ _ _ (by rw [hs1]; exact hlt2), if_neg (by omega), getD_set _ _ _ _ hlt, if_neg (by omega)]
    exact h.rest k (by omega)
abbrev shF (a : List Int) (q p i n : Nat) : PV.Frame := [(39, .int .i64 (i : Int)), (38, .int .i64 a.length), (37, .ints .u64 a), (8, .sl 0 0 n true), (7, .int .u64 (p : Int)), (6, .int .i64 (q : Int)), (0, .ints .u64 a)]
theorem shl_list (a : List Int) (ha : Limbs a) (hla : a.length ≤ 4096) (hsa : size a = a.length) (h0 : a.length ≠ 0) (n q p : Nat) (hn : n ≤ 262144) (hq : n / 64 = q) (hp : n % 64 = p) (v : Nat) (hv : 2 ^ p * (B64 ^ q * val a) = v) (hm : v < NMax) :
    Meets Tryz.prog 39 [.ints .u64 a, .int .i64 (n : Int)] (.tup [.ints .u64 (natL v), .int .i64 0]) := by
  have hp64 : p < 64 := by omega
  have s1 := size_as hla hsa
  have b1 := big_as hla hsa
  have hcut : ∀ o, Limbs o → o.length ≤ 100000 → val o = v → Meets Tryz.prog 79 [.ints .u64 o] (.tup [.ints .u64 (natL v), .int .i64 0]) := fun o h1 h2 h3 => cut_as h1 h2 h3 hm
  generalize natL v = res at *
  clear hm hsa
  have hq2 : q ≤ 4096 := by omega
  have e1 : ((n : Int)).tdiv 64 = (q : Int) := by rw [Int.tdiv_eq_ediv_of_nonneg (by omega)]; omega
  have e2 : ((n : Int)).tmod 64 = (p : Int) := by rw [Int.tmod_eq_emod_of_nonneg (by omega)]; omega
  have w1 : IntKind.wrap .i64 (q : Int) = (q : Int) := wrap_i64 (by omega)
  have w2 : IntKind.wrap .u64 (p : Int) = (p : Int) := wrap_u64 (by omega)
  have w3 : IntKind.wrap .i64 ((q : Int) + (a.length : Int)) = ((q + a.length : Nat) : Int) := by rw [wrap_i64 (by omega)]; omega
  have w4 : IntKind.wrap .i64 (((q + a.length : Nat) : Int) + 1) = ((q + a.length + 1 : Nat) : Int) := by rw [wrap_i64 (by omega)]; omega
  have hpow : (2 : Nat) ^ p ≤ 2 ^ 63 := Nat.pow_le_pow_right (by omega) (by omega)
  have hpow0 : 0 < (2 : Nat) ^ p := Nat.pow_pos (by omega)
  have e3 : (1 : Int) * 2 ^ min p 64 = ((2 ^ p : Nat) : Int) := by rw [Nat.min_eq_left (by omega)]; simp
  have w5 : IntKind.wrap .u64 ((2 ^ p : Nat) : Int) = ((2 ^ p : Nat) : Int) := wrap_u64 (by omega)
  refine meets_by ttOk Tryz.func39 Tryz.ntmps39 Tryz.results39 (by kernel_rfl) (c := _) rfl rfl rfl fun E => ?_
  simp only [argsFrame]
  repeat' first
    | (simp only [e1, e2, w1, w2, w3, w4])
    | (with_reducible first | refine PW.seq ?_ | refine PW.block ?_ | refine PW.fork ?_ | refine PW.skip ?_ | refine PW.exit ?_ | refine PW.ret ?_ | refine PW.scope ?_ | refine PW.label ?_ | refine PW.goto ?_)
    | (with_reducible refine PW.region ttOk ?_ ?_
       · rfl)
    | (with_reducible refine PW.regionD ttOk mixed ?_ ?_ ?_
       · rfl
       · rfl) | (with_reducible refine ifW_dec (fun g => ?_) (fun g => ?_) <;> first | (exfalso; omega) | (simp -dsimp only [g, wkI])) | (with_reducible refine condE_dec (fun g => ?_) (fun g => ?_) <;> try (exfalso; omega)) | (with_reducible refine condE_not (fun g => ?_) (fun g => ?_) <;> try (exfalso; omega)) | (simp -dsimp only [↓wkA, ↓wkE, ↓wkJ, wkB, ↓tt, Nat.reduceBEq, Nat.reduceEqDiff, ↓reduceIte, Nat.reduceLT, Array.toList, Nat.reduceAdd, Nat.reduceMul, Int.reduceToNat, Int.reducePow, UInt8.reduceToNat]) | (refine call_by b1 (views_data rfl) ⟨trivial, trivial⟩ rfl ?_) | (refine call_by s1 (views_data rfl) ⟨trivial, trivial⟩ rfl ?_) | (simp -dsimp (disch := first | assumption | omega) only [dec_t, dec_f])
    | (refine And.intro ?_ ?_
       · first | omega | decide | (simp (disch := omega) only [wkW, Int.reduceToNat, Int.reducePow] <;> omega) | (simp <;> omega)) | (simp (disch := omega) only [wkW, Int.reduceToNat, Int.reducePow]) | fail
  refine PW.loopA (fun m F H => ∃ i o, i + m = a.length ∧ ShlS a o q p i ∧ F = shF a q p i (q + a.length + 1) ∧ H = ⟨1, [(0, .ints .u64 o)], [], []⟩) a.length (shF a q p 0 (q + a.length + 1)) ⟨1, [(0, .ints .u64 (List.replicate (q + a.length + 1) 0))], [], []⟩ (Sub.norm ⟨rfl, rfl, rfl, rfl, rfl, rfl, rfl, trivial⟩ ⟨rfl, trivial⟩ (by simp) rfl rfl rfl rfl) ⟨0, _, by omega, ⟨by simp, fun x hx => by rw [List.eq_of_mem_replicate hx]; decide, ?_, ?_, fun k hk => ?_⟩, rfl, rfl⟩ ?_
  · rw [getD_zeros]; exact_mod_cast hpow0
  · rw [vt_zeros]; simp [vt]
  · rw [getD_zeros]
  rintro m F H ⟨i, o, hi, hS, rfl, rfl⟩
  have hol := hS.len
  cases m with
  | zero =>
    obtain rfl : i = a.length := by omega
    have hc := hcut o hS.lim (by omega) (by rw [val, hol, hS.eq]; exact hv)
    repeat' first
      | (with_reducible first | refine PW.seq ?_ | refine PW.block ?_ | refine PW.fork ?_ | refine PW.skip ?_ | refine PW.exit ?_ | refine PW.ret ?_ | refine PW.scope ?_ | refine PW.label ?_ | refine PW.goto ?_)
      | (with_reducible refine PW.region ttOk ?_ ?_
         · rfl)
      | (with_reducible refine PW.regionD ttOk mixed ?_ ?_ ?_
         · rfl
         · rfl) | (with_reducible refine ifW_dec (fun g => ?_) (fun g => ?_) <;> first | (exfalso; omega) | (simp -dsimp only [g, wkI])) | (with_reducible refine condE_dec (fun g => ?_) (fun g => ?_) <;> try (exfalso; omega)) | (with_reducible refine condE_not (fun g => ?_) (fun g => ?_) <;> try (exfalso; omega)) | (simp -dsimp only [↓wkA, ↓wkE, ↓wkJ, wkB, ↓tt, Nat.reduceBEq, Nat.reduceEqDiff, ↓reduceIte, Nat.reduceLT, Array.toList, Nat.reduceAdd, Nat.reduceMul, Int.reduceToNat, Int.reducePow, UInt8.reduceToNat]) | (refine call_drop (args' := [.ints .u64 o]) (by simp -dsimp only [↓wkA, ↓wkE, ↓wkJ, wkB, ↓tt, Nat.reduceBEq, Nat.reduceEqDiff, ↓reduceIte, Nat.reduceLT, Array.toList, Nat.reduceAdd, Nat.reduceMul, Int.reduceToNat, Int.reducePow, UInt8.reduceToNat] <;> rw [List.take_of_length_le (by omega)]) hc (by simp -dsimp only [okViews, ↓wkA, ↓wkE, ↓wkJ, wkB, ↓tt, Nat.reduceBEq, Nat.reduceEqDiff, ↓reduceIte, Nat.reduceLT, Array.toList, Nat.reduceAdd, Nat.reduceMul, Int.reduceToNat, Int.reducePow, UInt8.reduceToNat] <;> omega) rfl ?_) | (simp -dsimp (disch := first | assumption | omega) only [dec_t, dec_f])
      | (refine And.intro ?_ ?_
         · first | omega | decide | (simp (disch := omega) only [wkW, Int.reduceToNat, Int.reducePow] <;> omega) | (simp <;> omega)) | (simp (disch := omega) only [wkW, Int.reduceToNat, Int.reducePow]) | fail
  | succ m =>
    have hx := getD_limb ha i
    have hstep := hS.step ha hp64 (by omega) rfl
    obtain ⟨p1, p2, p3, p4⟩ := shl_parts p hp64 hx
    have hd := getD_limb hS.lim (q + i)
    have ht := hS.top
    have h2 : ((2 : Int) ^ p) = ((2 ^ p : Nat) : Int) := by simp
    rw [h2] at p1 p3 p2 hstep
    have h64 := mul64 (a.getD i 0) ((2 ^ p : Nat) : Int) hx (by simp only [B64]; omega)
    have hlo : 0 ≤ a.getD i 0 * ((2 ^ p : Nat) : Int) % B64 := Int.emod_nonneg _ (by decide)
    have hlo2 : a.getD i 0 * ((2 ^ p : Nat) : Int) % B64 < 18446744073709551616 := Int.emod_lt_of_pos _ (by decide)
    have hor := or_apart p ⟨hd.1, ht⟩ ⟨hlo, hlo2⟩ (by rw [h2]; exact p2) hd.2
    have w6 : IntKind.wrap .i64 ((q : Int) + (i : Int)) = ((q + i : Nat) : Int) := by rw [wrap_i64 (by omega)]; omega
    have w7 : IntKind.wrap .i64 (((q + i : Nat) : Int) + 1) = ((q + i + 1 : Nat) : Int) := by rw [wrap_i64 (by omega)]; omega
    generalize a.getD i 0 * ((2 ^ p : Nat) : Int) % B64 = lo at *
    generalize a.getD i 0 * ((2 ^ p : Nat) : Int) / B64 = hi' at *
    repeat' first
      | (simp only [e3, w5, w6, w7, hor, Int.toNat_natCast])
      | (with_reducible first | refine PW.seq ?_ | refine PW.block ?_ | refine PW.fork ?_ | refine PW.skip ?_ | refine PW.exit ?_ | refine PW.ret ?_ | refine PW.scope ?_ | refine PW.label ?_ | refine PW.goto ?_)
      | (with_reducible refine PW.region ttOk ?_ ?_
         · rfl)
      | (with_reducible refine PW.regionD ttOk mixed ?_ ?_ ?_
         · rfl
         · rfl) | (with_reducible refine ifW_dec (fun g => ?_) (fun g => ?_) <;> first | (exfalso; omega) | (simp -dsimp only [g, wkI])) | (with_reducible refine condE_dec (fun g => ?_) (fun g => ?_) <;> try (exfalso; omega)) | (with_reducible refine condE_not (fun g => ?_) (fun g => ?_) <;> try (exfalso; omega)) | (simp -dsimp only [↓wkA, ↓wkE, ↓wkJ, wkB, ↓tt, Nat.reduceBEq, Nat.reduceEqDiff, ↓reduceIte, Nat.reduceLT, Array.toList, Nat.reduceAdd, Nat.reduceMul, Int.reduceToNat, Int.reducePow, UInt8.reduceToNat]) | (refine call_by h64 (views_data rfl) ⟨trivial, trivial, trivial⟩ rfl ?_) | (simp -dsimp (disch := first | assumption | omega) only [dec_t, dec_f])
      | (refine And.intro ?_ ?_
         · first | omega | decide | (simp (disch := omega) only [wkW, Int.reduceToNat, Int.reducePow] <;> omega) | (simp <;> omega)) | (simp (disch := omega) only [wkW, Int.reduceToNat, Int.reducePow]) | fail
    exact Again.mk m (shF a q p (i + 1) (q + a.length + 1)) ⟨1, [(0, .ints .u64 _)], [], []⟩ (by omega) (Sub.norm ⟨rfl, rfl, rfl, rfl, rfl, rfl, rfl, trivial⟩ ⟨rfl, trivial⟩ (Nat.le_refl _) rfl rfl rfl rfl) ⟨i + 1, _, by omega, hstep, rfl, rfl⟩
theorem and1_i64 {a : Int} (ha : 0 ≤ a ∧ a ≤ 9223372036854775807) : ibits .and .i64 a 1 = a % 2 := by
  change IntKind.wrap .i64 (((BitVec.ofInt 64 a &&& BitVec.ofInt 64 1).toNat : Nat) : Int) = _
  rw [BitVec.toNat_and, BitVec.toNat_ofInt, BitVec.toNat_ofInt]
  have e1 : (a % ((2 ^ 64 : Nat) : Int)).toNat = a.toNat := by rw [Int.emod_eq_of_lt ha.1 (by simp; omega)]
  have e2 : ((1 : Int) % ((2 ^ 64 : Nat) : Int)).toNat = 2 ^ 1 - 1 := by decide
  rw [e1, e2, and_mask, wrap_i64 (by omega)]
  omega
theorem bits_len (x : Int) (hx : 0 ≤ x ∧ x < B64) : Meets Tryz.prog 156 [.int .u64 x] (.int .i64 ((bitlen x.toNat : Nat) : Int)) := by
  have h := len64 x hx
  refine meets_by ttOk Tryz.func156 Tryz.ntmps156 Tryz.results156 (by kernel_rfl) (c := _) rfl rfl rfl fun E => ?_
  simp only [argsFrame]
  repeat' first
    | (with_reducible first | refine PW.seq ?_ | refine PW.block ?_ | refine PW.fork ?_ | refine PW.skip ?_ | refine PW.exit ?_ | refine PW.ret ?_ | refine PW.scope ?_ | refine PW.label ?_ | refine PW.goto ?_)
    | (with_reducible refine PW.region ttOk ?_ ?_
       · rfl)
    | (with_reducible refine PW.regionD ttOk mixed ?_ ?_ ?_
       · rfl
       · rfl) | (with_reducible refine ifW_dec (fun g => ?_) (fun g => ?_) <;> first | (exfalso; omega) | (simp -dsimp only [g, wkI])) | (with_reducible refine condE_dec (fun g => ?_) (fun g => ?_) <;> try (exfalso; omega)) | (with_reducible refine condE_not (fun g => ?_) (fun g => ?_) <;> try (exfalso; omega)) | (simp -dsimp only [↓wkA, ↓wkE, ↓wkJ, wkB, ↓tt, Nat.reduceBEq, Nat.reduceEqDiff, ↓reduceIte, Nat.reduceLT, Array.toList, Nat.reduceAdd, Nat.reduceMul, Int.reduceToNat, Int.reducePow, UInt8.reduceToNat]) | (refine call_by h (views_data rfl) ⟨trivial, trivial⟩ rfl ?_) | (simp -dsimp (disch := first | assumption | omega) only [dec_t, dec_f])
    | (refine And.intro ?_ ?_
       · first | omega | decide | (simp (disch := omega) only [wkW, Int.reduceToNat, Int.reducePow] <;> omega) | (simp <;> omega)) | (simp (disch := omega) only [wkW, Int.reduceToNat, Int.reducePow]) | fail
theorem size_ten : size [10] = 1 := by decide
theorem bitlen_ten : Meets Tryz.prog 144 [.ints .u64 [10]] (.int .i64 4) := by
  have hs := nat_size [10] (by simp)
  rw [size_ten] at hs
  have hl := len64 10 (by decide)
  have e : bitlen (10 : Int).toNat = 4 := by decide
  rw [e] at hl
  refine meets_by ttOk Tryz.func144 Tryz.ntmps144 Tryz.results144 (by kernel_rfl) (c := _) rfl rfl rfl fun E => ?_
  simp only [argsFrame]
  repeat' first
    | (with_reducible first | refine PW.seq ?_ | refine PW.block ?_ | refine PW.fork ?_ | refine PW.skip ?_ | refine PW.exit ?_ | refine PW.ret ?_ | refine PW.scope ?_ | refine PW.label ?_ | refine PW.goto ?_)
    | (with_reducible refine PW.region ttOk ?_ ?_
       · rfl)
    | (with_reducible refine PW.regionD ttOk mixed ?_ ?_ ?_
       · rfl
       · rfl) | (with_reducible refine ifW_dec (fun g => ?_) (fun g => ?_) <;> first | (exfalso; omega) | (simp -dsimp only [g, wkI])) | (with_reducible refine condE_dec (fun g => ?_) (fun g => ?_) <;> try (exfalso; omega)) | (with_reducible refine condE_not (fun g => ?_) (fun g => ?_) <;> try (exfalso; omega)) | (simp -dsimp only [↓wkA, ↓wkE, ↓wkJ, wkB, ↓tt, Nat.reduceBEq, Nat.reduceEqDiff, ↓reduceIte, Nat.reduceLT, Array.toList, Nat.reduceAdd, Nat.reduceMul, Int.reduceToNat, Int.reducePow, UInt8.reduceToNat]) | (refine call_by hs (views_data rfl) ⟨trivial, trivial⟩ rfl ?_) | (refine call_by hl (views_data rfl) ⟨trivial, trivial⟩ rfl ?_) | (simp -dsimp (disch := first | assumption | omega) only [dec_t, dec_f])
    | (refine And.intro ?_ ?_
       · first | omega | decide | (simp (disch := omega) only [wkW, Int.reduceToNat, Int.reducePow] <;> omega) | (simp <;> omega)) | (simp (disch := omega) only [wkW, Int.reduceToNat, Int.reducePow]) | fail
  all_goals (refine congrArg _ ?_; omega)
theorem small_ten : Meets Tryz.prog 155 [.ints .u64 [10], .int .i64 4096] (.tup [.ints .u64 [10], .bool true]) := by
  have h := nat_trim [10] (by simp)
  have e : trim [10] = [10] := by decide
  rw [e] at h
  refine meets_by ttOk Tryz.func155 Tryz.ntmps155 Tryz.results155 (by kernel_rfl) (c := _) rfl rfl rfl fun E => ?_
  simp only [argsFrame]
  repeat' first
    | (with_reducible first | refine PW.seq ?_ | refine PW.block ?_ | refine PW.fork ?_ | refine PW.skip ?_ | refine PW.exit ?_ | refine PW.ret ?_ | refine PW.scope ?_ | refine PW.label ?_ | refine PW.goto ?_)
    | (with_reducible refine PW.region ttOk ?_ ?_
       · rfl)
    | (with_reducible refine PW.regionD ttOk mixed ?_ ?_ ?_
       · rfl
       · rfl) | (with_reducible refine ifW_dec (fun g => ?_) (fun g => ?_) <;> first | (exfalso; omega) | (simp -dsimp only [g, wkI])) | (with_reducible refine condE_dec (fun g => ?_) (fun g => ?_) <;> try (exfalso; omega)) | (with_reducible refine condE_not (fun g => ?_) (fun g => ?_) <;> try (exfalso; omega)) | (simp -dsimp only [↓wkA, ↓wkE, ↓wkJ, wkB, ↓tt, Nat.reduceBEq, Nat.reduceEqDiff, ↓reduceIte, Nat.reduceLT, Array.toList, Nat.reduceAdd, Nat.reduceMul, Int.reduceToNat, Int.reducePow, UInt8.reduceToNat]) | (refine call_by h (views_data rfl) ⟨trivial, trivial⟩ rfl ?_) | (simp -dsimp (disch := first | assumption | omega) only [dec_t, dec_f])
    | (refine And.intro ?_ ?_
       · first | omega | decide | (simp (disch := omega) only [wkW, Int.reduceToNat, Int.reducePow] <;> omega) | (simp <;> omega)) | (simp (disch := omega) only [wkW, Int.reduceToNat, Int.reducePow]) | fail
theorem natL_ten : natL 10 = [10] := by simp [natL, digs]
theorem natL_oneL : natL 1 = [1] := by simp [natL, digs]
set_option exponentiation.threshold 300000 in
theorem nmax_two : NMax = 2 ^ 262144 := by
  unfold NMax
  rw [show (262144 : Nat) = 64 * 4096 from rfl, Nat.pow_mul]
set_option exponentiation.threshold 300000 in
theorem ten_big {n : Nat} (h : 262144 ≤ 3 * n) : ¬ 10 ^ n < NMax := by
  have h1 : 2 ^ (3 * n) ≤ 10 ^ n := by
    rw [Nat.pow_mul]; exact Nat.pow_le_pow_left (by decide) n
  have h2 : 2 ^ 262144 ≤ 2 ^ (3 * n) := Nat.pow_le_pow_right (by decide) h
  rw [nmax_two]; omega
abbrev pwF (n : Nat) (l : List Int) (i : Nat) : PV.Frame := [(10, .int .i64 ((i : Int) - 1)), (9, .ints .u64 l), (6, .ints .u64 [10]), (1, .int .i64 (n : Int))]
set_option exponentiation.threshold 300000 in
set_option maxHeartbeats 4000000 in
theorem pow_ten (n : Nat) (hn : n < 9223372036854775807) (R : PV) (hR1 : 10 ^ n < NMax → R = .tup [.ints .u64 (natL (10 ^ n)), .int .i64 0]) (hR2 : ¬ 10 ^ n < NMax → R = .tup [.nil, .int .i64 2]) :
    Meets Tryz.prog 111 [.ints .u64 [10], .int .i64 (n : Int)] R := by
  refine meets_by ttOk Tryz.func111 Tryz.ntmps111 Tryz.results111 (by kernel_rfl) (c := _) rfl rfl rfl fun E => ?_
  simp only [argsFrame]
  have hbl := bits_len (n : Int) (by simp only [B64]; omega)
  rw [Int.toNat_natCast] at hbl
  have hmul3 : IntKind.wrap .i64 (3 * (n : Int)) = 3 * (n : Int) ∨ ¬ (n : Int) < 262144 := by
    by_cases h : (n : Int) < 262144
    · left; exact wrap_i64 (by omega)
    · exact .inr h
  have hw : IntKind.wrap .u64 (n : Int) = (n : Int) := wrap_u64 (by omega)
  have h1 : 10 ^ 0 < NMax := Nat.lt_of_lt_of_le (by decide) (pow64_mono (show 1 ≤ 4096 by decide))
  by_cases h0 : n = 0
  · subst h0
    rw [hR1 h1, Nat.pow_zero, natL_oneL]
    repeat' first
      | (with_reducible first | refine PW.seq ?_ | refine PW.block ?_ | refine PW.fork ?_ | refine PW.skip ?_ | refine PW.exit ?_ | refine PW.ret ?_ | refine PW.scope ?_ | refine PW.label ?_ | refine PW.goto ?_)
      | (with_reducible refine PW.region ttOk ?_ ?_
         · rfl)
      | (with_reducible refine PW.regionD ttOk mixed ?_ ?_ ?_
         · rfl
         · rfl) | (with_reducible refine ifW_dec (fun g => ?_) (fun g => ?_) <;> first | (exfalso; omega) | (simp -dsimp only [g, wkI])) | (with_reducible refine condE_dec (fun g => ?_) (fun g => ?_) <;> try (exfalso; omega)) | (with_reducible refine condE_not (fun g => ?_) (fun g => ?_) <;> try (exfalso; omega)) | (simp -dsimp only [↓wkA, ↓wkE, ↓wkJ, wkB, ↓tt, Nat.reduceBEq, Nat.reduceEqDiff, ↓reduceIte, Nat.reduceLT, Array.toList, Nat.reduceAdd, Nat.reduceMul, Int.reduceToNat, Int.reducePow, UInt8.reduceToNat]) | (refine call_by small_ten (views_data rfl) ⟨trivial, trivial, trivial⟩ rfl ?_) | (refine call_by bitlen_ten (views_data rfl) ⟨trivial, trivial⟩ rfl ?_) | (exact Nat.le_refl _) | (simp -dsimp (disch := first | assumption | omega) only [dec_t, dec_f])
      | (refine And.intro ?_ ?_
         · first | omega | decide | (simp (disch := omega) only [wkW, Int.reduceToNat, Int.reducePow] <;> omega) | (simp <;> omega)) | (simp (disch := omega) only [wkW, Int.reduceToNat, Int.reducePow]) | fail
  by_cases hbig : 262144 ≤ 3 * n
  · rw [hR2 (ten_big hbig)]
    repeat' first
      | (simp (disch := omega) only [hw, show (4 : Int) - 1 = 3 from rfl, wkW, Int.reduceToNat, Int.reducePow])
      | (with_reducible first | refine PW.seq ?_ | refine PW.block ?_ | refine PW.fork ?_ | refine PW.skip ?_ | refine PW.exit ?_ | refine PW.ret ?_ | refine PW.scope ?_ | refine PW.label ?_ | refine PW.goto ?_)
      | (with_reducible refine PW.region ttOk ?_ ?_
         · rfl)
      | (with_reducible refine PW.regionD ttOk mixed ?_ ?_ ?_
         · rfl
         · rfl) | (with_reducible refine ifW_dec (fun g => ?_) (fun g => ?_) <;> first | (exfalso; omega) | (simp -dsimp only [g, wkI])) | (with_reducible refine condE_dec (fun g => ?_) (fun g => ?_) <;> try (exfalso; omega)) | (with_reducible refine condE_not (fun g => ?_) (fun g => ?_) <;> try (exfalso; omega)) | (simp -dsimp only [↓wkA, ↓wkE, ↓wkJ, wkB, ↓tt, Nat.reduceBEq, Nat.reduceEqDiff, ↓reduceIte, Nat.reduceLT, Array.toList, Nat.reduceAdd, Nat.reduceMul, Int.reduceToNat, Int.reducePow, UInt8.reduceToNat]) | (refine call_by small_ten (views_data rfl) ⟨trivial, trivial, trivial⟩ rfl ?_) | (refine call_by bitlen_ten (views_data rfl) ⟨trivial, trivial⟩ rfl ?_) | (simp -dsimp (disch := first | assumption | omega) only [dec_t, dec_f])
      | (refine And.intro ?_ ?_
         · first | omega | decide | (simp (disch := omega) only [wkW, Int.reduceToNat, Int.reducePow] <;> omega) | (simp <;> omega)) | (simp (disch := omega) only [wkW, Int.reduceToNat, Int.reducePow]) | fail
  obtain ⟨L, hL, hL1, hL2⟩ := bitlen_spec h0
  rw [hL] at hbl
  have hL63 : L < 64 := by
    have h3 : 2 ^ L < 2 ^ 64 := Nat.lt_of_le_of_lt hL1 (by simp only [Nat.reducePow]; omega)
    exact (Nat.pow_lt_pow_iff_right (by decide)).1 h3
  repeat' first
    | (simp (disch := omega) only [hw, show (4 : Int) - 1 = 3 from rfl, wkW, Int.reduceToNat, Int.reducePow])
    | (with_reducible first | refine PW.seq ?_ | refine PW.block ?_ | refine PW.fork ?_ | refine PW.skip ?_ | refine PW.exit ?_ | refine PW.ret ?_ | refine PW.scope ?_ | refine PW.label ?_ | refine PW.goto ?_)
    | (with_reducible refine PW.region ttOk ?_ ?_
       · rfl)
    | (with_reducible refine PW.regionD ttOk mixed ?_ ?_ ?_
       · rfl
       · rfl) | (with_reducible refine ifW_dec (fun g => ?_) (fun g => ?_) <;> first | (exfalso; omega) | (simp -dsimp only [g, wkI])) | (with_reducible refine condE_dec (fun g => ?_) (fun g => ?_) <;> try (exfalso; omega)) | (with_reducible refine condE_not (fun g => ?_) (fun g => ?_) <;> try (exfalso; omega)) | (simp -dsimp only [↓wkA, ↓wkE, ↓wkJ, wkB, ↓tt, Nat.reduceBEq, Nat.reduceEqDiff, ↓reduceIte, Nat.reduceLT, Array.toList, Nat.reduceAdd, Nat.reduceMul, Int.reduceToNat, Int.reducePow, UInt8.reduceToNat]) | (refine call_by small_ten (views_data rfl) ⟨trivial, trivial, trivial⟩ rfl ?_) | (refine call_by bitlen_ten (views_data rfl) ⟨trivial, trivial⟩ rfl ?_) | (refine call_by hbl (views_data rfl) ⟨trivial, trivial⟩ rfl ?_) | (simp -dsimp (disch := first | assumption | omega) only [dec_t, dec_f])
    | (refine And.intro ?_ ?_
       · first | omega | decide | (simp (disch := omega) only [wkW, Int.reduceToNat, Int.reducePow] <;> omega) | (simp <;> omega)) | (simp (disch := omega) only [wkW, Int.reduceToNat, Int.reducePow]) | fail
  have hten : natL (10 ^ 0) = [1] := natL_oneL
  refine PW.meetB (fun F H => 10 ^ n < NMax ∧ F = [(9, .ints .u64 (natL (10 ^ n)))] ∧ H = ⟨1, [], [], []⟩) ?_ ?_
  · refine PW.loopA (fun i F H => i ≤ L + 1 ∧ 10 ^ (n / 2 ^ i) < NMax ∧ F = pwF n (natL (10 ^ (n / 2 ^ i))) i ∧ H = ⟨1, [], [], []⟩) (L + 1) (pwF n (natL (10 ^ (n / 2 ^ (L + 1)))) (L + 1)) ⟨1, [], [], []⟩ (Sub.trans (toData 9 0 0 1 true rfl (Nat.le_refl _)) (Sub.norm ⟨?_, ?_, rfl, rfl, trivial⟩ trivial (Nat.le_refl _) rfl rfl rfl rfl)) ⟨Nat.le_refl _, ?_, rfl, rfl⟩ ?_
    · simp (disch := omega) only [↓wkA, ↓wkE, ↓wkJ, wkB, ↓tt, Nat.reduceBEq, Nat.reduceEqDiff, ↓reduceIte, Nat.reduceLT, Array.toList, Nat.reduceAdd, Nat.reduceMul, Int.reduceToNat, Int.reducePow, UInt8.reduceToNat, wkW, Int.reduceToNat, Int.reducePow]
    · rw [Nat.div_eq_of_lt hL2, hten]; rfl
    · rw [Nat.div_eq_of_lt hL2]; exact h1
    rintro i F H ⟨hi, hlt, rfl, rfl⟩
    cases i with
    | zero =>
      rw [Nat.pow_zero, Nat.div_one] at hlt ⊢
      repeat' first
        | (with_reducible first | refine PW.seq ?_ | refine PW.block ?_ | refine PW.fork ?_ | refine PW.skip ?_ | refine PW.exit ?_ | refine PW.ret ?_ | refine PW.scope ?_ | refine PW.label ?_ | refine PW.goto ?_)
        | (with_reducible refine PW.region ttOk ?_ ?_
           · rfl)
        | (with_reducible refine PW.regionD ttOk mixed ?_ ?_ ?_
           · rfl
           · rfl) | (with_reducible refine ifW_dec (fun g => ?_) (fun g => ?_) <;> first | (exfalso; omega) | (simp -dsimp only [g, wkI])) | (with_reducible refine condE_dec (fun g => ?_) (fun g => ?_) <;> try (exfalso; omega)) | (with_reducible refine condE_not (fun g => ?_) (fun g => ?_) <;> try (exfalso; omega)) | (simp -dsimp only [↓wkA, ↓wkE, ↓wkJ, wkB, ↓tt, Nat.reduceBEq, Nat.reduceEqDiff, ↓reduceIte, Nat.reduceLT, Array.toList, Nat.reduceAdd, Nat.reduceMul, Int.reduceToNat, Int.reducePow, UInt8.reduceToNat]) | (simp -dsimp (disch := first | assumption | omega) only [dec_t, dec_f])
        | (refine And.intro ?_ ?_
           · first | omega | decide | (simp (disch := omega) only [wkW, Int.reduceToNat, Int.reducePow] <;> omega) | (simp <;> omega)) | (simp (disch := omega) only [wkW, Int.reduceToNat, Int.reducePow]) | fail
      exact Meet.mk [(9, .ints .u64 (natL (10 ^ n)))] ⟨1, [], [], []⟩ (Sub.norm ⟨rfl, trivial⟩ trivial (Nat.le_refl _) rfl rfl rfl rfl) ⟨hlt, rfl, rfl⟩
    | succ i =>
      have e1 : (((i + 1 : Nat)) : Int) - 1 = (i : Int) := by omega
      simp only [pwF, e1]
      have hne : ∀ k, 10 ^ k ≠ 0 := fun k => Nat.ne_of_gt (Nat.pow_pos (by decide))
      have hstep : n / 2 ^ i = 2 * (n / 2 ^ (i + 1)) + n / 2 ^ i % 2 := by rw [Nat.pow_succ, ← Nat.div_div_eq_div_mul]; omega
      have hmono : ∀ k, k ≤ n / 2 ^ i → ¬ 10 ^ k < NMax → R = .tup [.nil, .int .i64 2] := fun k hk hb => hR2 fun h => hb (Nat.lt_of_le_of_lt (Nat.pow_le_pow_right (by decide) (Nat.le_trans hk (Nat.div_le_self _ _))) h)
      have hsq : 10 ^ (n / 2 ^ (i + 1)) * 10 ^ (n / 2 ^ (i + 1)) = 10 ^ (2 * (n / 2 ^ (i + 1))) := by rw [← Nat.pow_add]; congr 1; omega
      have hshr : ((n : Int)).fdiv (2 ^ min ((i : Int)).toNat 64) = ((n / 2 ^ i : Nat) : Int) := by
        rw [Int.toNat_natCast, Nat.min_eq_left (by omega), fdiv_pos (Int.le_of_lt (Int.pow_pos (by decide)))]
        simp
      have hwi : IntKind.wrap .u64 (i : Int) = (i : Int) := wrap_u64 (by omega)
      have hqn : n / 2 ^ i ≤ n := Nat.div_le_self _ _
      generalize n / 2 ^ (i + 1) = p at *
      generalize hqe : n / 2 ^ i = q at *
      have hand : ibits .and .i64 ((q : Nat) : Int) 1 = ((q % 2 : Nat) : Int) := by rw [and1_i64 (by omega)]; omega
      by_cases hs : 10 ^ (2 * p) < NMax
      · have hm1 := mul_nat (hne p) (hne p) hlt hlt (by rw [hsq]; exact hs)
        rw [hsq] at hm1
        by_cases hbit : q % 2 = 1
        · have hq : 10 ^ (2 * p) * 10 = 10 ^ q := by rw [← Nat.pow_succ]; congr 1; omega
          by_cases hs2 : 10 ^ q < NMax
          · have hm2 := mul_nat (hne (2 * p)) (show (10 : Nat) ≠ 0 by decide) hs (Nat.lt_of_lt_of_le (by decide) (pow64_mono (show 1 ≤ 4096 by decide))) (by rw [hq]; exact hs2)
            rw [hq, natL_ten] at hm2
            repeat' first
              | (simp only [hwi, hshr, hand])
              | (with_reducible first | refine PW.seq ?_ | refine PW.block ?_ | refine PW.fork ?_ | refine PW.skip ?_ | refine PW.exit ?_ | refine PW.ret ?_ | refine PW.scope ?_ | refine PW.label ?_ | refine PW.goto ?_)
              | (with_reducible refine PW.region ttOk ?_ ?_
                 · rfl)
              | (with_reducible refine PW.regionD ttOk mixed ?_ ?_ ?_
                 · rfl
                 · rfl) | (with_reducible refine ifW_dec (fun g => ?_) (fun g => ?_) <;> first | (exfalso; omega) | (simp -dsimp only [g, wkI])) | (with_reducible refine condE_dec (fun g => ?_) (fun g => ?_) <;> try (exfalso; omega)) | (with_reducible refine condE_not (fun g => ?_) (fun g => ?_) <;> try (exfalso; omega)) | (simp -dsimp only [↓wkA, ↓wkE, ↓wkJ, wkB, ↓tt, Nat.reduceBEq, Nat.reduceEqDiff, ↓reduceIte, Nat.reduceLT, Array.toList, Nat.reduceAdd, Nat.reduceMul, Int.reduceToNat, Int.reducePow, UInt8.reduceToNat]) | (refine call_by hm1 (views_data rfl) ⟨trivial, trivial, trivial⟩ rfl ?_) | (refine call_by hm2 (views_data rfl) ⟨trivial, trivial, trivial⟩ rfl ?_) | (simp -dsimp (disch := first | assumption | omega) only [dec_t, dec_f])
              | (refine And.intro ?_ ?_
                 · first | omega | decide | (simp (disch := omega) only [wkW, Int.reduceToNat, Int.reducePow] <;> omega) | (simp <;> omega)) | (simp (disch := omega) only [wkW, Int.reduceToNat, Int.reducePow]) | fail
            exact Again.mk i (pwF n (natL (10 ^ q)) i) ⟨1, [], [], []⟩ (by omega) (Sub.norm ⟨rfl, rfl, rfl, rfl, trivial⟩ trivial (Nat.le_refl _) rfl rfl rfl rfl) ⟨by omega, by rw [hqe]; exact hs2, by rw [hqe], rfl⟩
          · have hm2 := mul_over (hne (2 * p)) (show (10 : Nat) ≠ 0 by decide) hs (Nat.lt_of_lt_of_le (by decide) (pow64_mono (show 1 ≤ 4096 by decide))) (by rw [hq]; exact hs2)
            rw [natL_ten] at hm2
            rw [hmono q (Nat.le_refl _) hs2]
            repeat' first
              | (simp only [hwi, hshr, hand])
              | (with_reducible first | refine PW.seq ?_ | refine PW.block ?_ | refine PW.fork ?_ | refine PW.skip ?_ | refine PW.exit ?_ | refine PW.ret ?_ | refine PW.scope ?_ | refine PW.label ?_ | refine PW.goto ?_)
              | (with_reducible refine PW.region ttOk ?_ ?_
                 · rfl)
              | (with_reducible refine PW.regionD ttOk mixed ?_ ?_ ?_
                 · rfl
                 · rfl) | (with_reducible refine ifW_dec (fun g => ?_) (fun g => ?_) <;> first | (exfalso; omega) | (simp -dsimp only [g, wkI])) | (with_reducible refine condE_dec (fun g => ?_) (fun g => ?_) <;> try (exfalso; omega)) | (with_reducible refine condE_not (fun g => ?_) (fun g => ?_) <;> try (exfalso; omega)) | (simp -dsimp only [↓wkA, ↓wkE, ↓wkJ, wkB, ↓tt, Nat.reduceBEq, Nat.reduceEqDiff, ↓reduceIte, Nat.reduceLT, Array.toList, Nat.reduceAdd, Nat.reduceMul, Int.reduceToNat, Int.reducePow, UInt8.reduceToNat]) | (refine call_by hm1 (views_data rfl) ⟨trivial, trivial, trivial⟩ rfl ?_) | (refine call_by hm2 (views_data rfl) ⟨trivial, trivial, trivial⟩ rfl ?_) | (simp -dsimp (disch := first | assumption | omega) only [dec_t, dec_f])
              | (refine And.intro ?_ ?_
                 · first | omega | decide | (simp (disch := omega) only [wkW, Int.reduceToNat, Int.reducePow] <;> omega) | (simp <;> omega)) | (simp (disch := omega) only [wkW, Int.reduceToNat, Int.reducePow]) | fail
        · have hq : 2 * p = q := by omega
          rw [hq] at hm1 hs
          repeat' first
            | (simp only [hwi, hshr, hand])
            | (with_reducible first | refine PW.seq ?_ | refine PW.block ?_ | refine PW.fork ?_ | refine PW.skip ?_ | refine PW.exit ?_ | refine PW.ret ?_ | refine PW.scope ?_ | refine PW.label ?_ | refine PW.goto ?_)
            | (with_reducible refine PW.region ttOk ?_ ?_
               · rfl)
            | (with_reducible refine PW.regionD ttOk mixed ?_ ?_ ?_
               · rfl
               · rfl) | (with_reducible refine ifW_dec (fun g => ?_) (fun g => ?_) <;> first | (exfalso; omega) | (simp -dsimp only [g, wkI])) | (with_reducible refine condE_dec (fun g => ?_) (fun g => ?_) <;> try (exfalso; omega)) | (with_reducible refine condE_not (fun g => ?_) (fun g => ?_) <;> try (exfalso; omega)) | (simp -dsimp only [↓wkA, ↓wkE, ↓wkJ, wkB, ↓tt, Nat.reduceBEq, Nat.reduceEqDiff, ↓reduceIte, Nat.reduceLT, Array.toList, Nat.reduceAdd, Nat.reduceMul, Int.reduceToNat, Int.reducePow, UInt8.reduceToNat]) | (refine call_by hm1 (views_data rfl) ⟨trivial, trivial, trivial⟩ rfl ?_) | (simp -dsimp (disch := first | assumption | omega) only [dec_t, dec_f])
            | (refine And.intro ?_ ?_
               · first | omega | decide | (simp (disch := omega) only [wkW, Int.reduceToNat, Int.reducePow] <;> omega) | (simp <;> omega)) | (simp (disch := omega) only [wkW, Int.reduceToNat, Int.reducePow]) | fail
          exact Again.mk i (pwF n (natL (10 ^ q)) i) ⟨1, [], [], []⟩ (by omega) (Sub.norm ⟨rfl, rfl, rfl, rfl, trivial⟩ trivial (Nat.le_refl _) rfl rfl rfl rfl) ⟨by omega, by rw [hqe]; exact hs, by rw [hqe], rfl⟩
      · have hm1 := mul_over (hne p) (hne p) hlt hlt (by rw [hsq]; exact hs)
        rw [hmono (2 * p) (by omega) hs]
        repeat' first
          | (simp only [hwi, hshr, hand])
          | (with_reducible first | refine PW.seq ?_ | refine PW.block ?_ | refine PW.fork ?_ | refine PW.skip ?_ | refine PW.exit ?_ | refine PW.ret ?_ | refine PW.scope ?_ | refine PW.label ?_ | refine PW.goto ?_)
          | (with_reducible refine PW.region ttOk ?_ ?_
             · rfl)
          | (with_reducible refine PW.regionD ttOk mixed ?_ ?_ ?_
             · rfl
             · rfl) | (with_reducible refine ifW_dec (fun g => ?_) (fun g => ?_) <;> first | (exfalso; omega) | (simp -dsimp only [g, wkI])) | (with_reducible refine condE_dec (fun g => ?_) (fun g => ?_) <;> try (exfalso; omega)) | (with_reducible refine condE_not (fun g => ?_) (fun g => ?_) <;> try (exfalso; omega)) | (simp -dsimp only [↓wkA, ↓wkE, ↓wkJ, wkB, ↓tt, Nat.reduceBEq, Nat.reduceEqDiff, ↓reduceIte, Nat.reduceLT, Array.toList, Nat.reduceAdd, Nat.reduceMul, Int.reduceToNat, Int.reducePow, UInt8.reduceToNat]) | (refine call_by hm1 (views_data rfl) ⟨trivial, trivial, trivial⟩ rfl ?_) | (simp -dsimp (disch := first | assumption | omega) only [dec_t, dec_f])
          | (refine And.intro ?_ ?_
             · first | omega | decide | (simp (disch := omega) only [wkW, Int.reduceToNat, Int.reducePow] <;> omega) | (simp <;> omega)) | (simp (disch := omega) only [wkW, Int.reduceToNat, Int.reducePow]) | fail
  rintro F H ⟨hfin, rfl, rfl⟩
  rw [hR1 hfin]
  repeat' first
    | (with_reducible first | refine PW.seq ?_ | refine PW.block ?_ | refine PW.fork ?_ | refine PW.skip ?_ | refine PW.exit ?_ | refine PW.ret ?_ | refine PW.scope ?_ | refine PW.label ?_ | refine PW.goto ?_)
    | (with_reducible refine PW.region ttOk ?_ ?_
       · rfl)
    | (with_reducible refine PW.regionD ttOk mixed ?_ ?_ ?_
       · rfl
       · rfl) | (with_reducible refine ifW_dec (fun g => ?_) (fun g => ?_) <;> first | (exfalso; omega) | (simp -dsimp only [g, wkI])) | (with_reducible refine condE_dec (fun g => ?_) (fun g => ?_) <;> try (exfalso; omega)) | (with_reducible refine condE_not (fun g => ?_) (fun g => ?_) <;> try (exfalso; omega)) | (simp -dsimp only [↓wkA, ↓wkE, ↓wkJ, wkB, ↓tt, Nat.reduceBEq, Nat.reduceEqDiff, ↓reduceIte, Nat.reduceLT, Array.toList, Nat.reduceAdd, Nat.reduceMul, Int.reduceToNat, Int.reducePow, UInt8.reduceToNat]) | (simp -dsimp (disch := first | assumption | omega) only [dec_t, dec_f])
    | (refine And.intro ?_ ?_
       · first | omega | decide | (simp (disch := omega) only [wkW, Int.reduceToNat, Int.reducePow] <;> omega) | (simp <;> omega)) | (simp (disch := omega) only [wkW, Int.reduceToNat, Int.reducePow]) | fail
def endN (s : List Int) (c : Int) : Nat → Nat
  | 0 => 0
  | n + 1 => if s.getD n 0 = c then endN s c n else n + 1
theorem endN_le (s : List Int) (c : Int) : ∀ n, endN s c n ≤ n
  | 0 => Nat.le_refl _
  | n + 1 => by
    rw [endN]
    split
    · have := endN_le s c n; omega
    · exact Nat.le_refl _
theorem endN_last {s : List Int} {c : Int} : ∀ n, endN s c n ≠ 0 → s.getD (endN s c n - 1) 0 ≠ c
  | 0, h => absurd rfl h
  | n + 1, h => by
    rw [endN] at h ⊢
    by_cases h2 : s.getD n 0 = c
    · rw [if_pos h2] at h ⊢; exact endN_last n h
    · rw [if_neg h2]; exact h2
def headL (c : Int) : List Int → List Int
  | [] => []
  | x :: r => if x = c then headL c r else x :: r
theorem trim_right (s : List Int) (c : Int) (hsl : s.length ≤ 1000000000000000) : Meets Tryz.prog 137 [.str s, .int .u8 c] (.str (s.take (endN s c s.length))) := by
  refine meets_by ttOk Tryz.func137 Tryz.ntmps137 Tryz.results137 (by kernel_rfl) (c := _) rfl rfl rfl fun E => ?_
  simp only [argsFrame]
  repeat' first
    | (with_reducible first | refine PW.seq ?_ | refine PW.block ?_ | refine PW.fork ?_ | refine PW.skip ?_ | refine PW.exit ?_ | refine PW.ret ?_ | refine PW.scope ?_ | refine PW.label ?_ | refine PW.goto ?_)
    | (with_reducible refine PW.region ttOk ?_ ?_
       · rfl)
    | (with_reducible refine PW.regionD ttOk mixed ?_ ?_ ?_
       · rfl
       · rfl) | (with_reducible refine ifW_dec (fun g => ?_) (fun g => ?_) <;> first | (exfalso; omega) | (simp -dsimp only [g, wkI])) | (with_reducible refine condE_dec (fun g => ?_) (fun g => ?_) <;> try (exfalso; omega)) | (with_reducible refine condE_not (fun g => ?_) (fun g => ?_) <;> try (exfalso; omega)) | (simp -dsimp only [↓wkA, ↓wkE, ↓wkJ, wkB, ↓tt, Nat.reduceBEq, Nat.reduceEqDiff, ↓reduceIte, Nat.reduceLT, Array.toList, Nat.reduceAdd, Nat.reduceMul, Int.reduceToNat, Int.reducePow, UInt8.reduceToNat]) | (simp -dsimp (disch := first | assumption | omega) only [dec_t, dec_f])
    | (refine And.intro ?_ ?_
       · first | omega | decide | (simp (disch := omega) only [wkW, Int.reduceToNat, Int.reducePow] <;> omega) | (simp <;> omega)) | (simp (disch := omega) only [wkW, Int.reduceToNat, Int.reducePow]) | fail
  refine PW.loopA (fun m F H => m ≤ s.length ∧ endN s c m = endN s c s.length ∧ F = [(0, .str (s.take m)), (1, .int .u8 c)] ∧ H = ⟨0, [], [], []⟩) s.length [(0, .str (s.take s.length)), (1, .int .u8 c)] ⟨0, [], [], []⟩ (Sub.norm ⟨congrArg PV.str List.take_length.symm, rfl, trivial⟩ trivial (Nat.le_refl _) rfl rfl rfl rfl) ⟨Nat.le_refl _, rfl, rfl, rfl⟩ ?_
  rintro m F H ⟨hm, he, rfl, rfl⟩
  have hl : (s.take m).length = m := by simp; omega
  cases m with
  | zero =>
    have : s.take (endN s c s.length) = [] := by rw [← he]; rfl
    rw [this]
    repeat' first
      | (with_reducible first | refine PW.seq ?_ | refine PW.block ?_ | refine PW.fork ?_ | refine PW.skip ?_ | refine PW.exit ?_ | refine PW.ret ?_ | refine PW.scope ?_ | refine PW.label ?_ | refine PW.goto ?_)
      | (with_reducible refine PW.region ttOk ?_ ?_
         · rfl)
      | (with_reducible refine PW.regionD ttOk mixed ?_ ?_ ?_
         · rfl
         · rfl) | (with_reducible refine ifW_dec (fun g => ?_) (fun g => ?_) <;> first | (exfalso; omega) | (simp -dsimp only [g, wkI])) | (with_reducible refine condE_dec (fun g => ?_) (fun g => ?_) <;> try (exfalso; omega)) | (with_reducible refine condE_not (fun g => ?_) (fun g => ?_) <;> try (exfalso; omega)) | (simp -dsimp only [↓wkA, ↓wkE, ↓wkJ, wkB, ↓tt, Nat.reduceBEq, Nat.reduceEqDiff, ↓reduceIte, Nat.reduceLT, Array.toList, Nat.reduceAdd, Nat.reduceMul, Int.reduceToNat, Int.reducePow, UInt8.reduceToNat]) | (simp -dsimp (disch := first | assumption | omega) only [dec_t, dec_f])
      | (refine And.intro ?_ ?_
         · first | omega | decide | (simp (disch := omega) only [wkW, Int.reduceToNat, Int.reducePow] <;> omega) | (simp <;> omega)) | (simp (disch := omega) only [wkW, Int.reduceToNat, Int.reducePow]) | fail
  | succ m =>
    have hg : (s.take (m + 1)).getD m 0 = s.getD m 0 := by
      rw [List.getD_eq_getElem?_getD, List.getElem?_take, if_pos (by omega), List.getD_eq_getElem?_getD]
    have e : ((m + 1 : Nat) : Int) - 1 = (m : Int) := by omega
    have hw : IntKind.wrap .i64 (m : Int) = (m : Int) := wrap_i64 (by omega)
    have htt : (s.take (m + 1)).take m = s.take m := by rw [List.take_take, Nat.min_eq_left (by omega)]
    obtain ⟨t, htd⟩ : ∃ t, s.take (m + 1) = t := ⟨_, rfl⟩
    rw [htd] at hl hg htt ⊢
    repeat' first
      | (simp only [hl, e, hw, Int.toNat_natCast, Int.sub_zero, hg, htt])
      | (with_reducible first | refine PW.seq ?_ | refine PW.block ?_ | refine PW.fork ?_ | refine PW.skip ?_ | refine PW.exit ?_ | refine PW.ret ?_ | refine PW.scope ?_ | refine PW.label ?_ | refine PW.goto ?_)
      | (with_reducible refine PW.region ttOk ?_ ?_
         · rfl)
      | (with_reducible refine PW.regionD ttOk mixed ?_ ?_ ?_
         · rfl
         · rfl) | (with_reducible refine ifW_dec (fun g => ?_) (fun g => ?_) <;> first | (exfalso; omega) | (simp -dsimp only [g, wkI])) | (with_reducible refine condE_dec (fun g => ?_) (fun g => ?_) <;> try (exfalso; omega)) | (with_reducible refine condE_not (fun g => ?_) (fun g => ?_) <;> try (exfalso; omega)) | (simp -dsimp only [↓wkA, ↓wkE, ↓wkJ, wkB, ↓tt, Nat.reduceBEq, Nat.reduceEqDiff, ↓reduceIte, Nat.reduceLT, Array.toList, Nat.reduceAdd, Nat.reduceMul, Int.reduceToNat, Int.reducePow, UInt8.reduceToNat]) | (simp -dsimp (disch := first | assumption | omega) only [dec_t, dec_f])
      | (refine And.intro ?_ ?_
         · first | omega | decide | (simp (disch := omega) only [wkW, Int.reduceToNat, Int.reducePow] <;> omega) | (simp <;> omega)) | (simp (disch := omega) only [wkW, Int.reduceToNat, Int.reducePow]) | fail
    · have h0 : s.getD m 0 = c := by assumption
      exact Again.mk m [(0, .str (s.take m)), (1, .int .u8 c)] ⟨0, [], [], []⟩ (by omega) (Sub.norm ⟨rfl, rfl, trivial⟩ trivial (Nat.le_refl _) rfl rfl rfl rfl) ⟨by omega, by rw [← he, endN, if_pos h0], rfl, rfl⟩
    · have h0 : ¬ s.getD m 0 = c := by assumption
      rw [← he, endN, if_neg h0, htd]
theorem trim_left (s : List Int) (c : Int) (hsl : s.length ≤ 1000000000000000) : Meets Tryz.prog 133 [.str s, .int .u8 c] (.str (headL c s)) := by
  refine meets_by ttOk Tryz.func133 Tryz.ntmps133 Tryz.results133 (by kernel_rfl) (c := _) rfl rfl rfl fun E => ?_
  simp only [argsFrame]
  repeat' first
    | (with_reducible first | refine PW.seq ?_ | refine PW.block ?_ | refine PW.fork ?_ | refine PW.skip ?_ | refine PW.exit ?_ | refine PW.ret ?_ | refine PW.scope ?_ | refine PW.label ?_ | refine PW.goto ?_)
    | (with_reducible refine PW.region ttOk ?_ ?_
       · rfl)
    | (with_reducible refine PW.regionD ttOk mixed ?_ ?_ ?_
       · rfl
       · rfl) | (with_reducible refine ifW_dec (fun g => ?_) (fun g => ?_) <;> first | (exfalso; omega) | (simp -dsimp only [g, wkI])) | (with_reducible refine condE_dec (fun g => ?_) (fun g => ?_) <;> try (exfalso; omega)) | (with_reducible refine condE_not (fun g => ?_) (fun g => ?_) <;> try (exfalso; omega)) | (simp -dsimp only [↓wkA, ↓wkE, ↓wkJ, wkB, ↓tt, Nat.reduceBEq, Nat.reduceEqDiff, ↓reduceIte, Nat.reduceLT, Array.toList, Nat.reduceAdd, Nat.reduceMul, Int.reduceToNat, Int.reducePow, UInt8.reduceToNat]) | (simp -dsimp (disch := first | assumption | omega) only [dec_t, dec_f])
    | (refine And.intro ?_ ?_
       · first | omega | decide | (simp (disch := omega) only [wkW, Int.reduceToNat, Int.reducePow] <;> omega) | (simp <;> omega)) | (simp (disch := omega) only [wkW, Int.reduceToNat, Int.reducePow]) | fail
  refine PW.loopA (fun m F H => ∃ t : List Int, t.length = m ∧ m ≤ s.length ∧ headL c t = headL c s ∧ F = [(0, .str t), (1, .int .u8 c)] ∧ H = ⟨0, [], [], []⟩) s.length [(0, .str s), (1, .int .u8 c)] ⟨0, [], [], []⟩ (Sub.norm ⟨rfl, rfl, trivial⟩ trivial (Nat.le_refl _) rfl rfl rfl rfl) ⟨s, rfl, Nat.le_refl _, rfl, rfl, rfl⟩ ?_
  rintro m F H ⟨t, ht, hm, he, rfl, rfl⟩
  rw [← he]
  clear he
  cases t with
  | nil =>
    repeat' first
      | (with_reducible first | refine PW.seq ?_ | refine PW.block ?_ | refine PW.fork ?_ | refine PW.skip ?_ | refine PW.exit ?_ | refine PW.ret ?_ | refine PW.scope ?_ | refine PW.label ?_ | refine PW.goto ?_)
      | (with_reducible refine PW.region ttOk ?_ ?_
         · rfl)
      | (with_reducible refine PW.regionD ttOk mixed ?_ ?_ ?_
         · rfl
         · rfl) | (with_reducible refine ifW_dec (fun g => ?_) (fun g => ?_) <;> first | (exfalso; omega) | (simp -dsimp only [g, wkI])) | (with_reducible refine condE_dec (fun g => ?_) (fun g => ?_) <;> try (exfalso; omega)) | (with_reducible refine condE_not (fun g => ?_) (fun g => ?_) <;> try (exfalso; omega)) | (simp -dsimp only [↓wkA, ↓wkE, ↓wkJ, wkB, ↓tt, Nat.reduceBEq, Nat.reduceEqDiff, ↓reduceIte, Nat.reduceLT, Array.toList, Nat.reduceAdd, Nat.reduceMul, Int.reduceToNat, Int.reducePow, UInt8.reduceToNat]) | (simp -dsimp (disch := first | assumption | omega) only [dec_t, dec_f])
      | (refine And.intro ?_ ?_
         · first | omega | decide | (simp (disch := omega) only [wkW, Int.reduceToNat, Int.reducePow] <;> omega) | (simp <;> omega)) | (simp (disch := omega) only [wkW, Int.reduceToNat, Int.reducePow]) | fail
    rfl
  | cons x r =>
    simp only [List.length_cons] at ht
    have hr : List.take r.length r = r := List.take_length
    repeat' first
      | (simp only [List.drop_succ_cons, List.drop_zero, hr, Int.toNat_natCast])
      | (with_reducible first | refine PW.seq ?_ | refine PW.block ?_ | refine PW.fork ?_ | refine PW.skip ?_ | refine PW.exit ?_ | refine PW.ret ?_ | refine PW.scope ?_ | refine PW.label ?_ | refine PW.goto ?_)
      | (with_reducible refine PW.region ttOk ?_ ?_
         · rfl)
      | (with_reducible refine PW.regionD ttOk mixed ?_ ?_ ?_
         · rfl
         · rfl) | (with_reducible refine ifW_dec (fun g => ?_) (fun g => ?_) <;> first | (exfalso; omega) | (simp -dsimp only [g, wkI])) | (with_reducible refine condE_dec (fun g => ?_) (fun g => ?_) <;> try (exfalso; omega)) | (with_reducible refine condE_not (fun g => ?_) (fun g => ?_) <;> try (exfalso; omega)) | (simp -dsimp only [↓wkA, ↓wkE, ↓wkJ, wkB, ↓tt, Nat.reduceBEq, Nat.reduceEqDiff, ↓reduceIte, Nat.reduceLT, Array.toList, Nat.reduceAdd, Nat.reduceMul, Int.reduceToNat, Int.reducePow, UInt8.reduceToNat]) | (simp -dsimp (disch := first | assumption | omega) only [dec_t, dec_f])
      | (refine And.intro ?_ ?_
         · first | omega | decide | (simp (disch := omega) only [wkW, Int.reduceToNat, Int.reducePow] <;> omega) | (simp <;> omega)) | (simp (disch := omega) only [wkW, Int.reduceToNat, Int.reducePow]) | fail
    · have h0 : x = c := by assumption
      exact Again.mk r.length [(0, .str r), (1, .int .u8 c)] ⟨0, [], [], []⟩ (by omega) (Sub.norm ⟨rfl, rfl, trivial⟩ trivial (Nat.le_refl _) rfl rfl rfl rfl) ⟨r, rfl, by omega, by conv => { rhs; rw [headL, if_pos h0] }, rfl, rfl⟩
    · have h0 : ¬ x = c := by assumption
      rw [headL, if_neg h0]
def Digs (s : List Int) : Prop := ∀ x ∈ s, 48 ≤ x ∧ x ≤ 57
theorem digs_get {s : List Int} (h : Digs s) {i : Nat} (hi : i < s.length) : 48 ≤ s.getD i 0 ∧ s.getD i 0 ≤ 57 := by
  rw [List.getD_eq_getElem?_getD, List.getElem?_eq_getElem hi]; exact h _ (List.getElem_mem hi)
theorem digs_bytes {s : List Int} (h : Digs s) : Bytes' s := fun x hx => by have := h x hx; omega
theorem digs_take {s : List Int} (h : Digs s) (k : Nat) : Digs (s.take k) := fun x hx => h x (List.mem_of_mem_take hx)
theorem numN_congr (b : Nat) {s t : List Int} : ∀ n, (∀ j, j < n → s.getD j 0 = t.getD j 0) → numN b s n = numN b t n
  | 0, _ => rfl
  | n + 1, h => by rw [numN, numN, numN_congr b n fun j hj => h j (by omega), h n (by omega)]
theorem getD_set_ne {s : List Int} {k j : Nat} {x : Int} (h : k ≠ j) : (s.set k x).getD j 0 = s.getD j 0 := by
  rw [List.getD_eq_getElem?_getD, List.getD_eq_getElem?_getD, List.getElem?_set_ne h]
theorem getD_take' {s : List Int} {k j : Nat} (h : j < k) : (s.take k).getD j 0 = s.getD j 0 := by
  rw [List.getD_eq_getElem?_getD, List.getD_eq_getElem?_getD, List.getElem?_take_of_lt h]
theorem getD_drop' {s : List Int} {k j : Nat} : (s.drop k).getD j 0 = s.getD (k + j) 0 := by
  rw [List.getD_eq_getElem?_getD, List.getD_eq_getElem?_getD, List.getElem?_drop]
theorem numN_split (b : Nat) (s : List Int) (k : Nat) : ∀ i, numN b s (k + i) = numN b s k * b ^ i + numN b (s.drop k) i
  | 0 => by simp [numN]
  | i + 1 => by
    rw [show k + (i + 1) = (k + i) + 1 by omega, numN, numN_split b s k i, numN, getD_drop', Nat.pow_succ, Nat.add_mul, Nat.mul_assoc]
    omega
theorem num_split (b : Nat) {s : List Int} {k : Nat} (hk : k ≤ s.length) : num b s = num b (s.take k) * b ^ (s.length - k) + num b (s.drop k) := by
  have h := numN_split b s k (s.length - k)
  rw [show k + (s.length - k) = s.length by omega] at h
  unfold num
  rw [List.length_take, List.length_drop, Nat.min_eq_left hk, numN_congr b (s := s.take k) (t := s) k fun j hj => getD_take' hj]
  exact h
theorem worth_digit {c : Int} (h : 48 ≤ c ∧ c ≤ 57) : worth c = c - 48 := by unfold worth; rw [if_pos h]
theorem numN_digs_lt {s : List Int} (hs : Digs s) : ∀ n, n ≤ s.length → numN 10 s n < 10 ^ n
  | 0, _ => by simp [numN]
  | n + 1, h => by
    have ih := numN_digs_lt hs n (by omega)
    have hd := digs_get hs (show n < s.length by omega)
    rw [numN, worth_digit hd, Nat.pow_succ]
    omega
theorem num_digs_lt {s : List Int} (hs : Digs s) : num 10 s < 10 ^ s.length := numN_digs_lt hs _ (Nat.le_refl _)
theorem digs_drop {s : List Int} (h : Digs s) (k : Nat) : Digs (s.drop k) := fun x hx => h x (List.mem_of_mem_drop hx)
theorem numN_allz {s : List Int} (hs : Digs s) : ∀ n, n ≤ s.length → (numN 10 s n = 0 ↔ ∀ j, j < n → s.getD j 0 = 48)
  | 0, _ => ⟨fun _ j hj => absurd hj (by omega), fun _ => rfl⟩
  | n + 1, h => by
    have ih := numN_allz hs n (by omega)
    have hd := digs_get hs (show n < s.length by omega)
    rw [numN, worth_digit hd]
    constructor
    · intro h0 j hj
      by_cases e : j = n
      · subst e; omega
      · exact ih.1 (by omega) j (by omega)
    · intro h0
      rw [ih.2 fun j hj => h0 j (by omega), h0 n (by omega)]; rfl
set_option exponentiation.threshold 300000 in
theorem nmax_pos : 0 < NMax := Nat.pow_pos (by decide)
theorem nmax_of {v k : Nat} (h : v < 2 ^ k) (hk : k ≤ 100000) : v < NMax := by
  rw [nmax_two]
  exact Nat.lt_of_lt_of_le h (Nat.pow_le_pow_right (by decide) (by omega))
theorem shl_zero (n : Nat) (hn : n ≤ 9223372036854775807) : Meets Tryz.prog 39 [.ints .u64 [], .int .i64 (n : Int)] (.tup [.ints .u64 [], .int .i64 0]) := by
  have s1 := size_as (a := []) (by decide) rfl
  have b1 := big_as (a := []) (by decide) rfl
  refine Meets.nil_head .u64 ?_
  refine meets_by ttOk Tryz.func39 Tryz.ntmps39 Tryz.results39 (by kernel_rfl) (c := _) rfl rfl rfl fun E => ?_
  simp only [argsFrame]
  repeat' first
    | (with_reducible first | refine PW.seq ?_ | refine PW.block ?_ | refine PW.fork ?_ | refine PW.skip ?_ | refine PW.exit ?_ | refine PW.ret ?_ | refine PW.scope ?_ | refine PW.label ?_ | refine PW.goto ?_)
    | (with_reducible refine PW.region ttOk ?_ ?_
       · rfl)
    | (with_reducible refine PW.regionD ttOk mixed ?_ ?_ ?_
       · rfl
       · rfl) | (with_reducible refine ifW_dec (fun g => ?_) (fun g => ?_) <;> first | (exfalso; omega) | (simp -dsimp only [g, wkI])) | (with_reducible refine condE_dec (fun g => ?_) (fun g => ?_) <;> try (exfalso; omega)) | (with_reducible refine condE_not (fun g => ?_) (fun g => ?_) <;> try (exfalso; omega)) | (simp -dsimp only [↓wkA, ↓wkE, ↓wkJ, wkB, ↓tt, Nat.reduceBEq, Nat.reduceEqDiff, ↓reduceIte, Nat.reduceLT, Array.toList, Nat.reduceAdd, Nat.reduceMul, Int.reduceToNat, Int.reducePow, UInt8.reduceToNat]) | (refine call_by b1 (views_data rfl) ⟨trivial, trivial⟩ rfl ?_) | (refine call_by s1 (views_data rfl) ⟨trivial, trivial⟩ rfl ?_) | (simp -dsimp (disch := first | assumption | omega) only [dec_t, dec_f])
    | (refine And.intro ?_ ?_
       · first | omega | decide | (simp (disch := omega) only [wkW, Int.reduceToNat, Int.reducePow] <;> omega) | (simp <;> omega)) | (simp (disch := omega) only [wkW, Int.reduceToNat, Int.reducePow]) | fail
theorem shl_nat {u n : Nat} (hu : u < NMax) (hn : n ≤ 262144) (h : u * 2 ^ n < NMax) : Meets Tryz.prog 39 [.ints .u64 (natL u), .int .i64 (n : Int)] (.tup [.ints .u64 (natL (u * 2 ^ n)), .int .i64 0]) := by
  by_cases h0 : u = 0
  · subst h0
    rw [Nat.zero_mul, natL_zero]
    exact shl_zero n (by omega)
  · refine shl_list _ (natL_limbs u) (natL_small hu) (size_natL u) (fun e => h0 (natL_len0.1 e)) n (n / 64) (n % 64) hn rfl rfl _ ?_ h
    rw [val_natL]
    have e : (2 : Nat) ^ n = 2 ^ (n % 64) * 18446744073709551616 ^ (n / 64) := by
      rw [show (18446744073709551616 : Nat) = 2 ^ 64 from rfl, ← Nat.pow_mul, ← Nat.pow_add, show n % 64 + 64 * (n / 64) = n by omega]
    rw [e, Int.natCast_mul, Int.natCast_mul, Int.natCast_pow, Int.natCast_pow]
    simp only [B64]
    grind
theorem digs_getD {b : Nat} (hb : 2 ≤ b) : ∀ (k v : Nat), (digs b v).getD k 0 = v / b ^ k % b
  | 0, v => by
    by_cases h0 : v = 0
    · subst h0; simp [digs_zero]
    · rw [digs_step hb h0]; simp
  | k + 1, v => by
    by_cases h0 : v = 0
    · subst h0; simp [digs_zero]
    · rw [digs_step hb h0, List.getD_cons_succ, digs_getD hb k (v / b), Nat.div_div_eq_div_mul, Nat.pow_succ, Nat.mul_comm b]
theorem natL_getD (v k : Nat) : (natL v).getD k 0 = ((v / 18446744073709551616 ^ k % 18446744073709551616 : Nat) : Int) := by
  have h := digs_getD (b := 18446744073709551616) (by decide) k v
  rw [← h]
  unfold natL
  rw [List.getD_eq_getElem?_getD, List.getElem?_map, List.getD_eq_getElem?_getD]
  cases (digs 18446744073709551616 v)[k]? <;> rfl
theorem bit_parts (v k p : Nat) (hp : p < 64) : v / 18446744073709551616 ^ k % 18446744073709551616 / 2 ^ p % 2 = v / 2 ^ (64 * k + p) % 2 := by
  have e : (18446744073709551616 : Nat) = 2 ^ p * 2 ^ (64 - p) := by rw [← Nat.pow_add, show p + (64 - p) = 64 by omega]
  rw [Nat.pow_add, ← Nat.div_div_eq_div_mul, Nat.pow_mul]
  have e2 : (2 : Nat) ^ 64 = 18446744073709551616 := rfl
  rw [e2]
  generalize v / 18446744073709551616 ^ k = m
  rw [e, Nat.mod_mul_right_div_self, Nat.mod_mod_of_dvd _ (by rw [show 64 - p = (63 - p) + 1 by omega, Nat.pow_succ]; exact Nat.dvd_mul_left ..)]
theorem nat64 (y : Nat) (h : y < 18446744073709551616) : (y : Int) < 18446744073709551616 := by omega
theorem bit_nat (v i : Nat) (hv : v < NMax) (hi : i ≤ 1000000000000) : Meets Tryz.prog 189 [.ints .u64 (natL v), .int .i64 (i : Int)] (.int .i64 ((v / 2 ^ i % 2 : Nat) : Int)) := by
  have hl := natL_small hv
  have hlt := natL_lt v
  have hg := natL_getD v (i / 64)
  have hgl := getD_limb (natL_limbs v) (i / 64)
  have hb := bit_parts v (i / 64) (i % 64) (by omega)
  rw [show 64 * (i / 64) + i % 64 = i by omega] at hb
  have e1 : ((i : Int)).tdiv 64 = ((i / 64 : Nat) : Int) := by rw [Int.tdiv_eq_ediv_of_nonneg (by omega)]; omega
  have e2 : ((i : Int)).tmod 64 = ((i % 64 : Nat) : Int) := by rw [Int.tmod_eq_emod_of_nonneg (by omega)]; omega
  have w1 : IntKind.wrap .i64 ((i / 64 : Nat) : Int) = ((i / 64 : Nat) : Int) := wrap_i64 (by omega)
  have w2 : IntKind.wrap .u64 ((i % 64 : Nat) : Int) = ((i % 64 : Nat) : Int) := wrap_u64 (by omega)
  have ez : (natL v).length ≤ i / 64 → v / 2 ^ i % 2 = 0 := fun h => by
    have h1 : 18446744073709551616 ^ (natL v).length ≤ 2 ^ i := by
      rw [show (18446744073709551616 : Nat) = 2 ^ 64 from rfl, ← Nat.pow_mul]
      exact Nat.pow_le_pow_right (by omega) (by omega)
    rw [Nat.div_eq_of_lt (by omega)]
  have e3 : ((natL v).getD (i / 64) 0).fdiv (2 ^ min (i % 64) 64) = ((v / 18446744073709551616 ^ (i / 64) % 18446744073709551616 / 2 ^ (i % 64) : Nat) : Int) := by
    rw [hg, Nat.min_eq_left (by omega), Int.fdiv_eq_ediv_of_nonneg _ (by exact_mod_cast Nat.zero_le _)]
    simp
  have hsm : v / 18446744073709551616 ^ (i / 64) % 18446744073709551616 / 2 ^ (i % 64) < 18446744073709551616 := Nat.lt_of_le_of_lt (Nat.div_le_self _ _) (Nat.mod_lt _ (by decide))
  have e4 := and_low 1 (by omega) (a := ((v / 18446744073709551616 ^ (i / 64) % 18446744073709551616 / 2 ^ (i % 64) : Nat) : Int)) ⟨Int.natCast_nonneg _, nat64 _ hsm⟩
  have e5 : ibits .and .u64 ((v / 18446744073709551616 ^ (i / 64) % 18446744073709551616 / 2 ^ (i % 64) : Nat) : Int) 1 = ((v / 2 ^ i % 2 : Nat) : Int) := by
    rw [← hb]
    refine e4.trans ?_
    simp
  have w3 : IntKind.wrap .i64 ((v / 2 ^ i % 2 : Nat) : Int) = ((v / 2 ^ i % 2 : Nat) : Int) := wrap_i64 (by omega)
  refine meets_by ttOk Tryz.func189 Tryz.ntmps189 Tryz.results189 (by kernel_rfl) (c := _) rfl rfl rfl fun E => ?_
  simp only [argsFrame]
  clear hlt hg hb e4 hsm
  by_cases hk : (natL v).length ≤ i / 64
  · rw [ez hk]
    clear e3 e5 w3 ez
    generalize natL v = a at *
    repeat' first
      | (simp only [e1, w1])
      | (with_reducible first | refine PW.seq ?_ | refine PW.block ?_ | refine PW.fork ?_ | refine PW.skip ?_ | refine PW.exit ?_ | refine PW.ret ?_ | refine PW.scope ?_ | refine PW.label ?_ | refine PW.goto ?_)
      | (with_reducible refine PW.region ttOk ?_ ?_
         · rfl)
      | (with_reducible refine PW.regionD ttOk mixed ?_ ?_ ?_
         · rfl
         · rfl) | (with_reducible refine ifW_dec (fun g => ?_) (fun g => ?_) <;> first | (exfalso; omega) | (simp -dsimp only [g, wkI])) | (with_reducible refine condE_dec (fun g => ?_) (fun g => ?_) <;> try (exfalso; omega)) | (with_reducible refine condE_not (fun g => ?_) (fun g => ?_) <;> try (exfalso; omega)) | (simp -dsimp only [↓wkA, ↓wkE, ↓wkJ, wkB, ↓tt, Nat.reduceBEq, Nat.reduceEqDiff, ↓reduceIte, Nat.reduceLT, Array.toList, Nat.reduceAdd, Nat.reduceMul, Int.reduceToNat, Int.reducePow, UInt8.reduceToNat]) | (simp -dsimp (disch := first | assumption | omega) only [dec_t, dec_f])
      | (refine And.intro ?_ ?_
         · first | omega | decide | (simp (disch := omega) only [wkW, Int.reduceToNat, Int.reducePow] <;> omega) | (simp <;> omega)) | (simp (disch := omega) only [wkW, Int.reduceToNat, Int.reducePow]) | fail
  · clear ez
    generalize v / 18446744073709551616 ^ (i / 64) % 18446744073709551616 / 2 ^ (i % 64) = y at *
    generalize v / 2 ^ i % 2 = z at *
    generalize natL v = a at *
    repeat' first
      | (simp only [e1, e2, w1, w2, w3, e3, e5, Int.toNat_natCast])
      | (with_reducible first | refine PW.seq ?_ | refine PW.block ?_ | refine PW.fork ?_ | refine PW.skip ?_ | refine PW.exit ?_ | refine PW.ret ?_ | refine PW.scope ?_ | refine PW.label ?_ | refine PW.goto ?_)
      | (with_reducible refine PW.region ttOk ?_ ?_
         · rfl)
      | (with_reducible refine PW.regionD ttOk mixed ?_ ?_ ?_
         · rfl
         · rfl) | (with_reducible refine ifW_dec (fun g => ?_) (fun g => ?_) <;> first | (exfalso; omega) | (simp -dsimp only [g, wkI])) | (with_reducible refine condE_dec (fun g => ?_) (fun g => ?_) <;> try (exfalso; omega)) | (with_reducible refine condE_not (fun g => ?_) (fun g => ?_) <;> try (exfalso; omega)) | (simp -dsimp only [↓wkA, ↓wkE, ↓wkJ, wkB, ↓tt, Nat.reduceBEq, Nat.reduceEqDiff, ↓reduceIte, Nat.reduceLT, Array.toList, Nat.reduceAdd, Nat.reduceMul, Int.reduceToNat, Int.reducePow, UInt8.reduceToNat]) | (simp -dsimp (disch := first | assumption | omega) only [dec_t, dec_f])
      | (refine And.intro ?_ ?_
         · first | omega | decide | (simp (disch := omega) only [wkW, Int.reduceToNat, Int.reducePow] <;> omega) | (simp <;> omega)) | (simp (disch := omega) only [wkW, Int.reduceToNat, Int.reducePow]) | fail
set_option exponentiation.threshold 300000 in
theorem ten_small {n : Nat} (h : n ≤ 65000) : 10 ^ n < NMax := by
  rw [nmax_two]
  have h1 : 10 ^ n ≤ (2 ^ 4) ^ n := Nat.pow_le_pow_left (by decide) n
  rw [← Nat.pow_mul] at h1
  exact Nat.lt_of_le_of_lt h1 (Nat.pow_lt_pow_right (by decide) (by omega))
theorem read_nat {s : List Int} (hs : Digs s) (hne : s ≠ []) (hl : s.length ≤ 50000) : Meets Tryz.prog 28 [.str s] (.tup [.ints .u64 (natL (num 10 s)), .int .i64 0, .int .i64 0]) := by
  have hf := from_base_ok (digs_bytes hs) (by omega) (b := 10) (by omega) hne (fun j hj => by have := digs_get hs hj; rw [worth_digit this]; omega) (by
    rw [nmax_int]
    have h1 := num_digs_lt hs
    have h2 := ten_small (n := s.length) (by omega)
    omega)
  refine meets_by ttOk Tryz.func28 Tryz.ntmps28 Tryz.results28 (by kernel_rfl) (c := _) rfl rfl rfl fun E => ?_
  simp only [argsFrame]
  repeat' first
    | (with_reducible first | refine PW.seq ?_ | refine PW.block ?_ | refine PW.fork ?_ | refine PW.skip ?_ | refine PW.exit ?_ | refine PW.ret ?_ | refine PW.scope ?_ | refine PW.label ?_ | refine PW.goto ?_)
    | (with_reducible refine PW.region ttOk ?_ ?_
       · rfl)
    | (with_reducible refine PW.regionD ttOk mixed ?_ ?_ ?_
       · rfl
       · rfl) | (with_reducible refine ifW_dec (fun g => ?_) (fun g => ?_) <;> first | (exfalso; omega) | (simp -dsimp only [g, wkI])) | (with_reducible refine condE_dec (fun g => ?_) (fun g => ?_) <;> try (exfalso; omega)) | (with_reducible refine condE_not (fun g => ?_) (fun g => ?_) <;> try (exfalso; omega)) | (simp -dsimp only [↓wkA, ↓wkE, ↓wkJ, wkB, ↓tt, Nat.reduceBEq, Nat.reduceEqDiff, ↓reduceIte, Nat.reduceLT, Array.toList, Nat.reduceAdd, Nat.reduceMul, Int.reduceToNat, Int.reducePow, UInt8.reduceToNat]) | (refine call_by hf (views_data rfl) ⟨trivial, trivial, trivial⟩ rfl ?_) | (simp -dsimp (disch := first | assumption | omega) only [dec_t, dec_f])
    | (refine And.intro ?_ ?_
       · first | omega | decide | (simp (disch := omega) only [wkW, Int.reduceToNat, Int.reducePow] <;> omega) | (simp <;> omega)) | (simp (disch := omega) only [wkW, Int.reduceToNat, Int.reducePow]) | fail
theorem pow10_ok (n : Nat) (hn : n < 9223372036854775807) (h : 10 ^ n < NMax) : Meets Tryz.prog 60 [.int .i64 (n : Int)] (.tup [.ints .u64 (natL (10 ^ n)), .int .i64 0]) := by
  have hp := pow_ten n hn _ (fun _ => rfl) (fun h2 => absurd h h2)
  refine meets_by ttOk Tryz.func60 Tryz.ntmps60 Tryz.results60 (by kernel_rfl) (c := _) rfl rfl rfl fun E => ?_
  simp only [argsFrame]
  repeat' first
    | (with_reducible first | refine PW.seq ?_ | refine PW.block ?_ | refine PW.fork ?_ | refine PW.skip ?_ | refine PW.exit ?_ | refine PW.ret ?_ | refine PW.scope ?_ | refine PW.label ?_ | refine PW.goto ?_)
    | (with_reducible refine PW.region ttOk ?_ ?_
       · rfl)
    | (with_reducible refine PW.regionD ttOk mixed ?_ ?_ ?_
       · rfl
       · rfl) | (with_reducible refine ifW_dec (fun g => ?_) (fun g => ?_) <;> first | (exfalso; omega) | (simp -dsimp only [g, wkI])) | (with_reducible refine condE_dec (fun g => ?_) (fun g => ?_) <;> try (exfalso; omega)) | (with_reducible refine condE_not (fun g => ?_) (fun g => ?_) <;> try (exfalso; omega)) | (simp -dsimp only [↓wkA, ↓wkE, ↓wkJ, wkB, ↓tt, Nat.reduceBEq, Nat.reduceEqDiff, ↓reduceIte, Nat.reduceLT, Array.toList, Nat.reduceAdd, Nat.reduceMul, Int.reduceToNat, Int.reducePow, UInt8.reduceToNat]) | (refine call_drop (args' := [.ints .u64 [10], .int .i64 (n : Int)]) rfl hp (by simp -dsimp only [okViews, ↓wkA, ↓wkE, ↓wkJ, wkB, ↓tt, Nat.reduceBEq, Nat.reduceEqDiff, ↓reduceIte, Nat.reduceLT, Array.toList, Nat.reduceAdd, Nat.reduceMul, Int.reduceToNat, Int.reducePow, UInt8.reduceToNat]; decide) rfl ?_) | (simp -dsimp (disch := first | assumption | omega) only [dec_t, dec_f])
    | (refine And.intro ?_ ?_
       · first | omega | decide | (simp (disch := omega) only [wkW, Int.reduceToNat, Int.reducePow] <;> omega) | (simp <;> omega)) | (simp (disch := omega) only [wkW, Int.reduceToNat, Int.reducePow]) | fail
theorem digits_of (a s : List Int) (e : Int) (h : Meets Tryz.prog 129 [.ints .u64 a, .int .i64 10, .bool false] (.tup [.str s, .int .i64 e])) : Meets Tryz.prog 74 [.ints .u64 a] (.tup [.str s, .int .i64 e]) := by
  refine meets_by ttOk Tryz.func74 Tryz.ntmps74 Tryz.results74 (by kernel_rfl) (c := _) rfl rfl rfl fun E => ?_
  simp only [argsFrame]
  repeat' first
    | (with_reducible first | refine PW.seq ?_ | refine PW.block ?_ | refine PW.fork ?_ | refine PW.skip ?_ | refine PW.exit ?_ | refine PW.ret ?_ | refine PW.scope ?_ | refine PW.label ?_ | refine PW.goto ?_)
    | (with_reducible refine PW.region ttOk ?_ ?_
       · rfl)
    | (with_reducible refine PW.regionD ttOk mixed ?_ ?_ ?_
       · rfl
       · rfl) | (with_reducible refine ifW_dec (fun g => ?_) (fun g => ?_) <;> first | (exfalso; omega) | (simp -dsimp only [g, wkI])) | (with_reducible refine condE_dec (fun g => ?_) (fun g => ?_) <;> try (exfalso; omega)) | (with_reducible refine condE_not (fun g => ?_) (fun g => ?_) <;> try (exfalso; omega)) | (simp -dsimp only [↓wkA, ↓wkE, ↓wkJ, wkB, ↓tt, Nat.reduceBEq, Nat.reduceEqDiff, ↓reduceIte, Nat.reduceLT, Array.toList, Nat.reduceAdd, Nat.reduceMul, Int.reduceToNat, Int.reducePow, UInt8.reduceToNat]) | (refine call_by h (views_data rfl) ⟨trivial, trivial, trivial, trivial⟩ rfl ?_) | (simp -dsimp (disch := first | assumption | omega) only [dec_t, dec_f])
    | (refine And.intro ?_ ?_
       · first | omega | decide | (simp (disch := omega) only [wkW, Int.reduceToNat, Int.reducePow] <;> omega) | (simp <;> omega)) | (simp (disch := omega) only [wkW, Int.reduceToNat, Int.reducePow]) | fail
theorem digs_append {s t : List Int} (hs : Digs s) (ht : Digs t) : Digs (s ++ t) := fun x hx => (List.mem_append.1 hx).elim (hs x) (ht x)
theorem worth_dec {c : Int} : worth c < 10 ↔ 48 ≤ c ∧ c ≤ 57 := by
  unfold worth
  repeat' split
  all_goals omega
theorem text_digs {v : Nat} : Digs (text 10 false v) := fun x hx => by
  obtain ⟨d, hd, rfl⟩ := text_all (by decide) false v x hx
  have h := (letter_all false ⟨d, by omega⟩).1
  simp only at h
  have := worth_dec (c := letter false d)
  omega
theorem endN_split {s : List Int} (hs : Digs s) (h : num 10 s ≠ 0) : 0 < endN s 48 s.length ∧ num 10 s = num 10 (s.take (endN s 48 s.length)) * 10 ^ (s.length - endN s 48 s.length) ∧ num 10 (s.take (endN s 48 s.length)) % 10 ≠ 0 := by
  have hle := endN_le s 48 s.length
  have hz : ∀ n, n ≤ s.length → ∀ j, endN s 48 n ≤ j → j < n → s.getD j 0 = 48 := by
    intro n
    induction n with
    | zero => intro _ j _ hj; omega
    | succ n ih =>
      intro hn j h1 h2
      rw [endN] at h1
      by_cases h3 : s.getD n 0 = 48
      · rw [if_pos h3] at h1
        by_cases e : j = n
        · rw [e]; exact h3
        · exact ih (by omega) j h1 (by omega)
      · rw [if_neg h3] at h1; omega
  have hz := hz s.length (Nat.le_refl _)
  have hsp := num_split 10 (s := s) (k := endN s 48 s.length) hle
  have hd0 : num 10 (s.drop (endN s 48 s.length)) = 0 := by
    rw [num, numN_allz (digs_drop hs _) _ (Nat.le_refl _)]
    intro j hj
    rw [List.length_drop] at hj
    rw [getD_drop']
    exact hz _ (by omega) (by omega)
  rw [hd0, Nat.add_zero] at hsp
  have hpos : 0 < endN s 48 s.length := by
    rcases Nat.eq_zero_or_pos (endN s 48 s.length) with h0 | h0
    · rw [h0] at hsp
      exact absurd (by rw [hsp]; simp [num, numN]) h
    · exact h0
  refine ⟨hpos, hsp, ?_⟩
  have hl := endN_last (s := s) (c := 48) s.length (by omega)
  obtain ⟨k, hk⟩ : ∃ k, endN s 48 s.length = k + 1 := ⟨endN s 48 s.length - 1, by omega⟩
  rw [hk] at hl ⊢
  rw [Nat.add_sub_cancel] at hl
  have htl : (s.take (k + 1)).length = k + 1 := by simp; omega
  have hx := digs_get hs (show k < s.length by omega)
  rw [num, htl, numN, getD_take' (by omega), worth_digit hx]
  omega
def absD (d : Nat) : Nat := d % 9223372036854775808
def fieldD (d : Nat) : Nat := absD d / 4503599627370496
def fracD (d : Nat) : Nat := d % 4503599627370496
def negD (d : Nat) : Bool := decide (9223372036854775808 ≤ d)
def classD (d : Nat) : Int := if absD d = 0 then 0 else if fieldD d = 0 then 1 else if fieldD d < 2047 then 2 else if fracD d = 0 then 3 else 4
def mantD (d : Nat) : Nat := if fieldD d = 0 then fracD d else 4503599627370496 + fracD d
def expD (d : Nat) : Int := if fieldD d = 0 then -1074 else (fieldD d : Int) - 1075
def finD (d : Nat) : Prop := fieldD d < 2047
instance (d : Nat) : Decidable (finD d) := inferInstanceAs (Decidable (_ < _))
def partsM (d : Nat) : Int := if classD d = 1 ∨ classD d = 2 then (mantD d : Int) else (fracD d : Int)
def partsE (d : Nat) : Int := if classD d = 1 ∨ classD d = 2 then expD d else 0
def partsP (d : Nat) : PV := .agg [.bool (negD d), .int .i64 (classD d), .int .u64 (partsM d), .int .i64 (partsE d)]
theorem abs_lt (d : Nat) : absD d < 9223372036854775808 := Nat.mod_lt _ (by decide)
theorem abs_frac (d : Nat) : absD d % 4503599627370496 = fracD d := by unfold absD fracD; omega
theorem abs_parts (d : Nat) : absD d = fieldD d * 4503599627370496 + fracD d := by have := abs_frac d; unfold fieldD; omega
theorem frac_lt (d : Nat) : fracD d < 4503599627370496 := Nat.mod_lt _ (by decide)
theorem field_lt (d : Nat) : fieldD d < 2048 := by have := abs_lt d; unfold fieldD; omega
theorem abs_zero {d : Nat} : absD d = 0 ↔ fieldD d = 0 ∧ fracD d = 0 := by have := abs_parts d; omega
theorem mantD_zero {d : Nat} : mantD d = 0 ↔ absD d = 0 := by
  rw [abs_zero]; unfold mantD; split <;> omega
theorem mantD_lt (d : Nat) : mantD d < 9007199254740992 := by have := frac_lt d; unfold mantD; split <;> omega
theorem expD_ge (d : Nat) : -1074 ≤ expD d := by unfold expD; split <;> omega
theorem expD_le {d : Nat} (h : finD d) : expD d ≤ 971 := by unfold finD at h; unfold expD; split <;> omega
theorem fin_class {d : Nat} : finD d ↔ classD d < 3 := by
  have := @abs_zero d
  unfold finD classD
  split
  · omega
  · split
    · omega
    · split
      · omega
      · split <;> omega
theorem classD_le (d : Nat) : 0 ≤ classD d ∧ classD d ≤ 4 := by unfold classD; split; omega; split; omega; split; omega; split <;> omega
theorem class_zero {d : Nat} : classD d = 0 ↔ absD d = 0 := by unfold classD; split; omega; split; omega; split; omega; split <;> omega
theorem parts_fin {d : Nat} (h : finD d) (h0 : absD d ≠ 0) : partsM d = mantD d ∧ partsE d = expD d := by
  have h1 := fin_class.1 h
  have h2 := class_zero (d := d)
  have h3 := classD_le d
  unfold partsM partsE
  rw [if_pos (by omega), if_pos (by omega)]
  exact ⟨rfl, rfl⟩
theorem and_bit (d i : Nat) : d &&& 2 ^ i = d / 2 ^ i % 2 * 2 ^ i := by
  have := Nat.mod_lt (d / 2 ^ i) (show 2 > 0 by decide)
  refine Nat.eq_of_testBit_eq fun j => ?_
  rw [Nat.testBit_and, Nat.testBit_two_pow]
  by_cases e : i = j
  · subst e
    rw [Nat.testBit_eq_decide_div_mod_eq]
    by_cases h : d / 2 ^ i % 2 = 1
    · rw [h]; simp
    · have h0 : d / 2 ^ i % 2 = 0 := by omega
      rw [h0]; simp
  · by_cases h : d / 2 ^ i % 2 = 1
    · rw [h, Nat.one_mul, Nat.testBit_two_pow]; simp [e]
    · have h0 : d / 2 ^ i % 2 = 0 := by omega
      rw [h0]; simp [e]
theorem and_sign {d : Nat} (hd : d < 18446744073709551616) : ibits .and .u64 (d : Int) 9223372036854775808 = if 9223372036854775808 ≤ d then 9223372036854775808 else 0 := by
  rw [ibits_and_u64 ⟨by omega, by omega⟩ (by decide), Int.toNat_natCast]
  have e : (9223372036854775808 : Int).toNat = 2 ^ 63 := by decide
  rw [e, and_bit]
  have e2 : (2 : Nat) ^ 63 = 9223372036854775808 := by decide
  rw [e2]
  split <;> omega
theorem andNot_sign {d : Nat} (hd : d < 18446744073709551616) : ibits .andNot .u64 (d : Int) 9223372036854775808 = (absD d : Int) := by
  rw [ibits_andNot_u64 ⟨by omega, by omega⟩ (by decide), Int.toNat_natCast]
  have e : (9223372036854775808 : Int).toNat = 2 ^ 63 := by decide
  rw [e, and_bit]
  have e2 : (2 : Nat) ^ 63 = 9223372036854775808 := by decide
  rw [e2]
  unfold absD
  omega
theorem and_frac {d : Nat} (hd : d < 18446744073709551616) : ibits .and .u64 (d : Int) 4503599627370495 = (fracD d : Int) := by
  have h := and_low 52 (by decide) (a := (d : Int)) ⟨by omega, by omega⟩
  rw [show (((2 ^ 52 - 1 : Nat)) : Int) = 4503599627370495 from rfl] at h
  rw [h]
  unfold fracD
  have e2 : (2 : Int) ^ 52 = 4503599627370496 := by decide
  rw [e2]
  omega
theorem or_hidden {f : Nat} (hf : f < 4503599627370496) : ibits .or .u64 4503599627370496 (f : Int) = ((4503599627370496 + f : Nat) : Int) := by
  rw [ibits_or_u64 (by decide) ⟨by omega, by omega⟩, Int.toNat_natCast]
  have h := Nat.two_pow_add_eq_or_of_lt (i := 52) (b := f) (by simpa using hf) 1
  have e : (4503599627370496 : Int).toNat = 2 ^ 52 * 1 := by decide
  rw [e, ← h]
theorem and_field {x : Nat} (hx : x < 4096) : ibits .and .u64 (x : Int) 2047 = ((x % 2048 : Nat) : Int) := by
  have h := and_low 11 (by decide) (a := (x : Int)) ⟨by omega, by omega⟩
  rw [show (((2 ^ 11 - 1 : Nat)) : Int) = 2047 from rfl] at h
  rw [h]
  have e2 : (2 : Int) ^ 11 = 2048 := by decide
  rw [e2]
  omega
theorem shr_52 {d : Nat} : d / 4503599627370496 % 2048 = fieldD d := by unfold fieldD absD; omega
def tzRen : Go.Shelf.Ren := ⟨fun | 29 => 203 | n => n, fun | 0 => 0 | 3 => 3 | 4 => 4 | 5 => 5 | 22 => 27 | 25 => 30 | 54 => 225 | n => n, fun | 1 => 5 | n => n⟩
theorem tzLays : Go.Proofs.Lays7.n29 Tryz.prog tzRen := {
  mixed := by kernel_rfl
  f29 := Tryz.func203.trans (congrArg some (by kernel_rfl))
  t0 := Tryz.underlying0
  a0 := Tryz.isAgg0
  z0 := Tryz.sizeOf0
  v0 := Tryz.zeroValue0
  i0 := by kernel_rfl
  t3 := Tryz.underlying3
  a3 := Tryz.isAgg3
  z3 := Tryz.sizeOf3
  v3 := Tryz.zeroValue3
  i3 := by kernel_rfl
  t4 := Tryz.underlying4
  a4 := Tryz.isAgg4
  z4 := Tryz.sizeOf4
  v4 := Tryz.zeroValue4
  i4 := by kernel_rfl
  t5 := Tryz.underlying5
  a5 := Tryz.isAgg5
  z5 := Tryz.sizeOf5
  v5 := Tryz.zeroValue5
  i5 := by kernel_rfl
  t22 := Tryz.underlying27
  a22 := Tryz.isAgg27
  z22 := Tryz.sizeOf27
  v22 := Tryz.zeroValue27
  i22 := by kernel_rfl
  t25 := Tryz.underlying30
  a25 := Tryz.isAgg30
  z25 := Tryz.sizeOf30
  v25 := Tryz.zeroValue30
  i25 := by kernel_rfl
  t54 := Tryz.underlying225
  a54 := Tryz.isAgg225
  z54 := Tryz.sizeOf225
  g1 := by kernel_rfl }
theorem trailing64 (x : Nat) (hx : x < 18446744073709551616) : Meets Tryz.prog 203 [.int .u64 (x : Int)] (.int .i64 ((Lib.ctz 64 x : Nat) : Int)) := by
  refine ⟨fun w A vs hA hl ha => .inl ⟨call_enters Tryz.func203 (by kernel_rfl) (c := _) rfl vs w, ?_⟩⟩
  have hs : vs.size = 1 := by simpa using hl.symm
  obtain ⟨v, rfl⟩ : ∃ v, vs = #[v] := ⟨vs[0], Array.ext (by simp [hs]) fun i h1 h2 => by
    have : i = 0 := by omega
    subst this; rfl⟩
  have h0 := ha 0 (by simp)
  simp only [List.getD_cons_zero, Array.getD] at h0
  obtain rfl := rd_int h0
  obtain ⟨gl, hg, hn⟩ := Option.map_eq_some_iff.1 (show (Tryz.prog.globals[5]?).map (·.name) = some "math/bits.deBruijn64tab" by kernel_rfl)
  refine (Go.Proofs.Any7.bits_TrailingZeros64 tzLays x hx w fun _ j hj => hA.1 _ gl _ hg (by rw [hn]; rfl) j hj).mono fun e w' ⟨he, hw⟩ => ⟨_, he, ?_⟩
  rw [hw]
  exact ⟨Go.RowKit.Below.refl _ _, .int _ _⟩
theorem ctz_spec {x : Nat} (h0 : x ≠ 0) (hx : x < 18446744073709551616) : Lib.ctz 64 x < 64 ∧ ∃ m, x = 2 ^ Lib.ctz 64 x * (2 * m + 1) := by
  unfold Lib.ctz
  rw [if_neg h0]
  obtain ⟨m, h1, h2⟩ := Lib.ctzFrom_spec 64 x (by omega) (by simpa using hx)
  exact ⟨h2, m, h1⟩
theorem ieee_abs (d : Nat) (hd : d < 18446744073709551616) : Meets Tryz.prog 112 [.int .u64 (d : Int)] (.int .u64 (absD d : Int)) := by
  have h1 := andNot_sign hd
  refine meets_by ttOk Tryz.func112 Tryz.ntmps112 Tryz.results112 (by kernel_rfl) (c := _) rfl rfl rfl fun E => ?_
  simp only [argsFrame]
  repeat' first
    | (simp only [h1])
    | (with_reducible first | refine PW.seq ?_ | refine PW.block ?_ | refine PW.fork ?_ | refine PW.skip ?_ | refine PW.exit ?_ | refine PW.ret ?_ | refine PW.scope ?_ | refine PW.label ?_ | refine PW.goto ?_)
    | (with_reducible refine PW.region ttOk ?_ ?_
       · rfl)
    | (with_reducible refine PW.regionD ttOk mixed ?_ ?_ ?_
       · rfl
       · rfl) | (with_reducible refine ifW_dec (fun g => ?_) (fun g => ?_) <;> first | (exfalso; omega) | (simp -dsimp only [g, wkI])) | (with_reducible refine condE_dec (fun g => ?_) (fun g => ?_) <;> try (exfalso; omega)) | (with_reducible refine condE_not (fun g => ?_) (fun g => ?_) <;> try (exfalso; omega)) | (simp -dsimp only [↓wkA, ↓wkE, ↓wkJ, wkB, ↓tt, Nat.reduceBEq, Nat.reduceEqDiff, ↓reduceIte, Nat.reduceLT, Array.toList, Nat.reduceAdd, Nat.reduceMul, Int.reduceToNat, Int.reducePow, UInt8.reduceToNat]) | (simp -dsimp (disch := first | assumption | omega) only [dec_t, dec_f])
    | (refine And.intro ?_ ?_
       · first | omega | decide | (simp (disch := omega) only [wkW, Int.reduceToNat, Int.reducePow] <;> omega) | (simp <;> omega)) | (simp (disch := omega) only [wkW, Int.reduceToNat, Int.reducePow]) | fail
theorem ieee_class (d : Nat) (hd : d < 18446744073709551616) : Meets Tryz.prog 63 [.int .u64 (d : Int)] (.int .i64 (classD d)) := by
  have h1 := ieee_abs d hd
  have hp := abs_parts d
  have hf := frac_lt d
  have hb := field_lt d
  refine meets_by ttOk Tryz.func63 Tryz.ntmps63 Tryz.results63 (by kernel_rfl) (c := _) rfl rfl rfl fun E => ?_
  simp only [argsFrame]
  repeat' first
    | (with_reducible first | refine PW.seq ?_ | refine PW.block ?_ | refine PW.fork ?_ | refine PW.skip ?_ | refine PW.exit ?_ | refine PW.ret ?_ | refine PW.scope ?_ | refine PW.label ?_ | refine PW.goto ?_)
    | (with_reducible refine PW.region ttOk ?_ ?_
       · rfl)
    | (with_reducible refine PW.regionD ttOk mixed ?_ ?_ ?_
       · rfl
       · rfl) | (with_reducible refine ifW_dec (fun g => ?_) (fun g => ?_) <;> first | (exfalso; omega) | (simp -dsimp only [g, wkI])) | (with_reducible refine condE_dec (fun g => ?_) (fun g => ?_) <;> try (exfalso; omega)) | (with_reducible refine condE_not (fun g => ?_) (fun g => ?_) <;> try (exfalso; omega)) | (simp -dsimp only [↓wkA, ↓wkE, ↓wkJ, wkB, ↓tt, Nat.reduceBEq, Nat.reduceEqDiff, ↓reduceIte, Nat.reduceLT, Array.toList, Nat.reduceAdd, Nat.reduceMul, Int.reduceToNat, Int.reducePow, UInt8.reduceToNat]) | (refine call_by (h1) (views_data rfl) ⟨trivial, trivial⟩ rfl ?_) | (simp -dsimp (disch := first | assumption | omega) only [dec_t, dec_f])
    | (refine And.intro ?_ ?_
       · first | omega | decide | (simp (disch := omega) only [wkW, Int.reduceToNat, Int.reducePow] <;> omega) | (simp <;> omega)) | (simp (disch := omega) only [wkW, Int.reduceToNat, Int.reducePow]) | fail
  all_goals (refine congrArg (PV.int _) ?_; unfold classD; repeat' split)
  all_goals omega
theorem ieee_decode (d : Nat) (hd : d < 18446744073709551616) : Meets Tryz.prog 30 [.int .u64 (d : Int)] (partsP d) := by
  have hc := ieee_class d hd
  have h1 := and_sign hd
  have h2 := and_frac hd
  have h3 := or_hidden (frac_lt d)
  have h4 : ((d : Int)).fdiv (2 ^ min 52 64) = ((d / 4503599627370496 : Nat) : Int) := by
    rw [show (2 : Int) ^ min 52 64 = 4503599627370496 from by decide, fdiv_pos (by decide)]; omega
  have h5 := and_field (x := d / 4503599627370496) (by omega)
  rw [shr_52] at h5
  have hb := field_lt d
  have w1 : IntKind.wrap .i64 ((fieldD d : Nat) : Int) = (fieldD d : Int) := wrap_i64 (by omega)
  have w2 : IntKind.wrap .i64 ((fieldD d : Int) - 1075) = (fieldD d : Int) - 1075 := wrap_i64 (by omega)
  have hn : (!decide ((if 9223372036854775808 ≤ d then (9223372036854775808 : Int) else 0) = 0)) = negD d := by
    unfold negD
    by_cases h : 9223372036854775808 ≤ d
    · rw [if_pos h]; simp [h]
    · rw [if_neg h]; simp [h]
  have hcl := classD_le d
  have hcd : classD d = 1 → fieldD d = 0 := fun h => by unfold classD at h; repeat' split at h <;> omega
  have hce : classD d = 2 → fieldD d ≠ 0 := fun h => by unfold classD at h; repeat' split at h <;> omega
  have hcz : classD d = 0 → fracD d = 0 := fun h => (abs_zero.1 (class_zero.1 h)).2
  have hci : classD d = 3 → fracD d = 0 := fun h => by unfold classD at h; repeat' split at h <;> omega
  have hM : partsM d = if classD d = 1 then (fracD d : Int) else if classD d = 2 then ((4503599627370496 + fracD d : Nat) : Int) else if classD d = 4 then (fracD d : Int) else 0 := by
    unfold partsM mantD
    repeat' split
    all_goals omega
  have hE : partsE d = if classD d = 1 then -1074 else if classD d = 2 then (fieldD d : Int) - 1075 else 0 := by
    unfold partsE expD
    repeat' split
    all_goals omega
  clear hcd hce hcz hci
  unfold partsP
  rw [hM, hE]
  generalize classD d = c at *
  generalize fieldD d = fd at *
  generalize fracD d = fr at *
  clear hM hE
  rcases (show c = 0 ∨ c = 1 ∨ c = 2 ∨ c = 3 ∨ c = 4 by omega) with rfl | rfl | rfl | rfl | rfl
  all_goals (refine meets_by ttOk Tryz.func30 Tryz.ntmps30 Tryz.results30 (by kernel_rfl) (c := _) rfl rfl rfl fun E => ?_; simp only [argsFrame])
  all_goals
    repeat' first
      | (simp only [h1, h2, h3, h4, h5, w1, w2, hn])
      | (with_reducible first | refine PW.seq ?_ | refine PW.block ?_ | refine PW.fork ?_ | refine PW.skip ?_ | refine PW.exit ?_ | refine PW.ret ?_ | refine PW.scope ?_ | refine PW.label ?_ | refine PW.goto ?_)
      | (with_reducible refine PW.region ttOk ?_ ?_
         · rfl)
      | (with_reducible refine PW.regionD ttOk mixed ?_ ?_ ?_
         · rfl
         · rfl) | (with_reducible refine ifW_dec (fun g => ?_) (fun g => ?_) <;> first | (exfalso; omega) | (simp -dsimp only [g, wkI])) | (with_reducible refine condE_dec (fun g => ?_) (fun g => ?_) <;> try (exfalso; omega)) | (with_reducible refine condE_not (fun g => ?_) (fun g => ?_) <;> try (exfalso; omega)) | (simp -dsimp only [↓wkA, ↓wkE, ↓wkJ, wkB, ↓tt, Nat.reduceBEq, Nat.reduceEqDiff, ↓reduceIte, Nat.reduceLT, Array.toList, Nat.reduceAdd, Nat.reduceMul, Int.reduceToNat, Int.reducePow, UInt8.reduceToNat]) | (refine call_by (hc) (views_data rfl) ⟨trivial, trivial⟩ rfl ?_) | (simp -dsimp (disch := first | assumption | omega) only [dec_t, dec_f])
      | (refine And.intro ?_ ?_
         · first | omega | decide | (simp (disch := omega) only [wkW, Int.reduceToNat, Int.reducePow] <;> omega) | (simp <;> omega)) | (simp (disch := omega) only [wkW, Int.reduceToNat, Int.reducePow]) | fail
  all_goals simp
theorem natL_one (x : Nat) (hx : 0 < x ∧ x < 18446744073709551616) : natL x = [(x : Int)] := by
  have h := digs_step (b := 18446744073709551616) (by decide) (v := x) (by omega)
  rw [Nat.mod_eq_of_lt hx.2, Nat.div_eq_of_lt hx.2, digs_zero] at h
  simp [natL, h]
theorem nil_as_ints {f : FuncId} {args : List PV} (k : IntKind) (hm : Meets Tryz.prog f args .nil) : Meets Tryz.prog f args (.ints k []) := hm.mono fun w A v h => rd_nil_ints h
theorem from_uint (x : Nat) (hx : x < 18446744073709551616) : Meets Tryz.prog 141 [.int .u64 (x : Int)] (.ints .u64 (natL x)) := by
  by_cases h0 : x = 0
  · subst h0
    rw [natL_zero]
    refine nil_as_ints .u64 ?_
    refine meets_by ttOk Tryz.func141 Tryz.ntmps141 Tryz.results141 (by kernel_rfl) (c := _) rfl rfl rfl fun E => ?_
    simp only [argsFrame]
    repeat' first
      | (with_reducible first | refine PW.seq ?_ | refine PW.block ?_ | refine PW.fork ?_ | refine PW.skip ?_ | refine PW.exit ?_ | refine PW.ret ?_ | refine PW.scope ?_ | refine PW.label ?_ | refine PW.goto ?_)
      | (with_reducible refine PW.region ttOk ?_ ?_
         · rfl)
      | (with_reducible refine PW.regionD ttOk mixed ?_ ?_ ?_
         · rfl
         · rfl) | (with_reducible refine ifW_dec (fun g => ?_) (fun g => ?_) <;> first | (exfalso; omega) | (simp -dsimp only [g, wkI])) | (with_reducible refine condE_dec (fun g => ?_) (fun g => ?_) <;> try (exfalso; omega)) | (with_reducible refine condE_not (fun g => ?_) (fun g => ?_) <;> try (exfalso; omega)) | (simp -dsimp only [↓wkA, ↓wkE, ↓wkJ, wkB, ↓tt, Nat.reduceBEq, Nat.reduceEqDiff, ↓reduceIte, Nat.reduceLT, Array.toList, Nat.reduceAdd, Nat.reduceMul, Int.reduceToNat, Int.reducePow, UInt8.reduceToNat]) | (simp -dsimp (disch := first | assumption | omega) only [dec_t, dec_f])
      | (refine And.intro ?_ ?_
         · first | omega | decide | (simp (disch := omega) only [wkW, Int.reduceToNat, Int.reducePow] <;> omega) | (simp <;> omega)) | (simp (disch := omega) only [wkW, Int.reduceToNat, Int.reducePow]) | fail
  · rw [natL_one x ⟨by omega, hx⟩]
    refine meets_by ttOk Tryz.func141 Tryz.ntmps141 Tryz.results141 (by kernel_rfl) (c := _) rfl rfl rfl fun E => ?_
    simp only [argsFrame]
    repeat' first
      | (with_reducible first | refine PW.seq ?_ | refine PW.block ?_ | refine PW.fork ?_ | refine PW.skip ?_ | refine PW.exit ?_ | refine PW.ret ?_ | refine PW.scope ?_ | refine PW.label ?_ | refine PW.goto ?_)
      | (with_reducible refine PW.region ttOk ?_ ?_
         · rfl)
      | (with_reducible refine PW.regionD ttOk mixed ?_ ?_ ?_
         · rfl
         · rfl) | (with_reducible refine ifW_dec (fun g => ?_) (fun g => ?_) <;> first | (exfalso; omega) | (simp -dsimp only [g, wkI])) | (with_reducible refine condE_dec (fun g => ?_) (fun g => ?_) <;> try (exfalso; omega)) | (with_reducible refine condE_not (fun g => ?_) (fun g => ?_) <;> try (exfalso; omega)) | (simp -dsimp only [↓wkA, ↓wkE, ↓wkJ, wkB, ↓tt, Nat.reduceBEq, Nat.reduceEqDiff, ↓reduceIte, Nat.reduceLT, Array.toList, Nat.reduceAdd, Nat.reduceMul, Int.reduceToNat, Int.reducePow, UInt8.reduceToNat]) | (exact Nat.le_refl _) | (simp -dsimp (disch := first | assumption | omega) only [dec_t, dec_f])
      | (refine And.intro ?_ ?_
         · first | omega | decide | (simp (disch := omega) only [wkW, Int.reduceToNat, Int.reducePow] <;> omega) | (simp <;> omega)) | (simp (disch := omega) only [wkW, Int.reduceToNat, Int.reducePow]) | fail
theorem nat_bitlen (v : Nat) (hv : v < NMax) : Meets Tryz.prog 144 [.ints .u64 (natL v)] (.int .i64 ((bitlen v : Nat) : Int)) := by
  have hl := natL_small hv
  have hs := nat_size (natL v) (by omega)
  rw [size_natL] at hs
  by_cases h0 : v = 0
  · subst h0
    rw [natL_zero] at hs ⊢
    have e : ((bitlen 0 : Nat) : Int) = 0 := by decide
    rw [e]
    refine meets_by ttOk Tryz.func144 Tryz.ntmps144 Tryz.results144 (by kernel_rfl) (c := _) rfl rfl rfl fun E => ?_
    simp only [argsFrame]
    repeat' first
      | (with_reducible first | refine PW.seq ?_ | refine PW.block ?_ | refine PW.fork ?_ | refine PW.skip ?_ | refine PW.exit ?_ | refine PW.ret ?_ | refine PW.scope ?_ | refine PW.label ?_ | refine PW.goto ?_)
      | (with_reducible refine PW.region ttOk ?_ ?_
         · rfl)
      | (with_reducible refine PW.regionD ttOk mixed ?_ ?_ ?_
         · rfl
         · rfl) | (with_reducible refine ifW_dec (fun g => ?_) (fun g => ?_) <;> first | (exfalso; omega) | (simp -dsimp only [g, wkI])) | (with_reducible refine condE_dec (fun g => ?_) (fun g => ?_) <;> try (exfalso; omega)) | (with_reducible refine condE_not (fun g => ?_) (fun g => ?_) <;> try (exfalso; omega)) | (simp -dsimp only [↓wkA, ↓wkE, ↓wkJ, wkB, ↓tt, Nat.reduceBEq, Nat.reduceEqDiff, ↓reduceIte, Nat.reduceLT, Array.toList, Nat.reduceAdd, Nat.reduceMul, Int.reduceToNat, Int.reducePow, UInt8.reduceToNat]) | (refine call_by (hs) (views_data rfl) ⟨trivial, trivial⟩ rfl ?_) | (simp -dsimp (disch := first | assumption | omega) only [dec_t, dec_f])
      | (refine And.intro ?_ ?_
         · first | omega | decide | (simp (disch := omega) only [wkW, Int.reduceToNat, Int.reducePow] <;> omega) | (simp <;> omega)) | (simp (disch := omega) only [wkW, Int.reduceToNat, Int.reducePow]) | fail
  obtain ⟨h1, h2⟩ := natL_ge h0
  have h3 := natL_lt v
  obtain ⟨k, hk⟩ : ∃ k, (natL v).length = k + 1 := ⟨(natL v).length - 1, by omega⟩
  have hg := natL_getD v k
  rw [hk] at hs h2 h3 hl
  rw [Nat.add_sub_cancel] at h2
  have hlt : v / 18446744073709551616 ^ k < 18446744073709551616 := by
    rw [Nat.div_lt_iff_lt_mul (Nat.pow_pos (by decide)), Nat.mul_comm, ← Nat.pow_succ]
    exact h3
  rw [Nat.mod_eq_of_lt hlt] at hg
  have hL := len64 ((v / 18446744073709551616 ^ k : Nat) : Int) ⟨Int.natCast_nonneg _, nat64 _ hlt⟩
  rw [Int.toNat_natCast] at hL
  have e2 : (18446744073709551616 : Nat) = 2 ^ 64 := rfl
  have hb : bitlen v = bitlen (v / 18446744073709551616 ^ k) + 64 * k := by
    rw [e2, ← Nat.pow_mul] at h2 ⊢
    exact bitlen_div (64 * k) h2
  have hb2 : bitlen (v / 18446744073709551616 ^ k) ≤ 64 := bitlen_le (k := 64) hlt
  rw [hb]
  generalize v / 18446744073709551616 ^ k = x at *
  generalize bitlen x = B at *
  have ek : ((k + 1 : Nat) : Int) - 1 = (k : Int) := by omega
  have w1 : IntKind.wrap .i64 (k : Int) = (k : Int) := wrap_i64 (by omega)
  have w2 : IntKind.wrap .i64 (64 * (k : Int)) = 64 * (k : Int) := wrap_i64 (by omega)
  have w3 : IntKind.wrap .i64 (64 * (k : Int) + (B : Int)) = ((B + 64 * k : Nat) : Int) := by rw [wrap_i64 (by omega)]; omega
  clear h1 h2 h3 hlt hb hb2
  generalize natL v = a at *
  refine meets_by ttOk Tryz.func144 Tryz.ntmps144 Tryz.results144 (by kernel_rfl) (c := _) rfl rfl rfl fun E => ?_
  simp only [argsFrame]
  repeat' first
    | (simp only [ek, w1, w2, w3, hg, Int.toNat_natCast])
    | (with_reducible first | refine PW.seq ?_ | refine PW.block ?_ | refine PW.fork ?_ | refine PW.skip ?_ | refine PW.exit ?_ | refine PW.ret ?_ | refine PW.scope ?_ | refine PW.label ?_ | refine PW.goto ?_)
    | (with_reducible refine PW.region ttOk ?_ ?_
       · rfl)
    | (with_reducible refine PW.regionD ttOk mixed ?_ ?_ ?_
       · rfl
       · rfl) | (with_reducible refine ifW_dec (fun g => ?_) (fun g => ?_) <;> first | (exfalso; omega) | (simp -dsimp only [g, wkI])) | (with_reducible refine condE_dec (fun g => ?_) (fun g => ?_) <;> try (exfalso; omega)) | (with_reducible refine condE_not (fun g => ?_) (fun g => ?_) <;> try (exfalso; omega)) | (simp -dsimp only [↓wkA, ↓wkE, ↓wkJ, wkB, ↓tt, Nat.reduceBEq, Nat.reduceEqDiff, ↓reduceIte, Nat.reduceLT, Array.toList, Nat.reduceAdd, Nat.reduceMul, Int.reduceToNat, Int.reducePow, UInt8.reduceToNat]) | (refine call_by (hs) (views_data rfl) ⟨trivial, trivial⟩ rfl ?_) | (refine call_by (hL) (views_data rfl) ⟨trivial, trivial⟩ rfl ?_) | (simp -dsimp (disch := first | assumption | omega) only [dec_t, dec_f])
    | (refine And.intro ?_ ?_
       · first | omega | decide | (simp (disch := omega) only [wkW, Int.reduceToNat, Int.reducePow] <;> omega) | (simp <;> omega)) | (simp (disch := omega) only [wkW, Int.reduceToNat, Int.reducePow]) | fail
theorem small_one (x : Nat) (hx : 0 < x ∧ x < 18446744073709551616) : Meets Tryz.prog 155 [.ints .u64 [(x : Int)], .int .i64 4096] (.tup [.ints .u64 [(x : Int)], .bool true]) := by
  have h := nat_trim [(x : Int)] (by simp)
  rw [← natL_one x hx, trim_natL, natL_one x hx] at h
  refine meets_by ttOk Tryz.func155 Tryz.ntmps155 Tryz.results155 (by kernel_rfl) (c := _) rfl rfl rfl fun E => ?_
  simp only [argsFrame]
  repeat' first
    | (with_reducible first | refine PW.seq ?_ | refine PW.block ?_ | refine PW.fork ?_ | refine PW.skip ?_ | refine PW.exit ?_ | refine PW.ret ?_ | refine PW.scope ?_ | refine PW.label ?_ | refine PW.goto ?_)
    | (with_reducible refine PW.region ttOk ?_ ?_
       · rfl)
    | (with_reducible refine PW.regionD ttOk mixed ?_ ?_ ?_
       · rfl
       · rfl) | (with_reducible refine ifW_dec (fun g => ?_) (fun g => ?_) <;> first | (exfalso; omega) | (simp -dsimp only [g, wkI])) | (with_reducible refine condE_dec (fun g => ?_) (fun g => ?_) <;> try (exfalso; omega)) | (with_reducible refine condE_not (fun g => ?_) (fun g => ?_) <;> try (exfalso; omega)) | (simp -dsimp only [↓wkA, ↓wkE, ↓wkJ, wkB, ↓tt, Nat.reduceBEq, Nat.reduceEqDiff, ↓reduceIte, Nat.reduceLT, Array.toList, Nat.reduceAdd, Nat.reduceMul, Int.reduceToNat, Int.reducePow, UInt8.reduceToNat]) | (refine call_by (h) (views_data rfl) ⟨trivial, trivial⟩ rfl ?_) | (simp -dsimp (disch := first | assumption | omega) only [dec_t, dec_f])
    | (refine And.intro ?_ ?_
       · first | omega | decide | (simp (disch := omega) only [wkW, Int.reduceToNat, Int.reducePow] <;> omega) | (simp <;> omega)) | (simp (disch := omega) only [wkW, Int.reduceToNat, Int.reducePow]) | fail
set_option exponentiation.threshold 300000 in
theorem bitlen_one (x : Nat) (hx : 0 < x ∧ x < 18446744073709551616) : Meets Tryz.prog 144 [.ints .u64 [(x : Int)]] (.int .i64 ((bitlen x : Nat) : Int)) := by
  have h := nat_bitlen x (Nat.lt_of_lt_of_le hx.2 (pow64_mono (show 1 ≤ 4096 by decide)))
  rwa [natL_one x hx] at h
abbrev pwG (β n : Nat) (l : List Int) (i : Nat) : PV.Frame := [(10, .int .i64 ((i : Int) - 1)), (9, .ints .u64 l), (6, .ints .u64 [(β : Int)]), (1, .int .i64 (n : Int))]
set_option exponentiation.threshold 300000 in
set_option maxHeartbeats 4000000 in
theorem pow_gen (β c : Nat) (hc1 : 2 ^ c ≤ β) (hc2 : β < 2 ^ (c + 1)) (hc : 1 ≤ c ∧ c ≤ 62) (n : Nat) (hn : n < 9223372036854775807) (R : PV) (hR1 : β ^ n < NMax → R = .tup [.ints .u64 (natL (β ^ n)), .int .i64 0]) (hR2 : ¬ β ^ n < NMax → R = .tup [.nil, .int .i64 2]) :
    Meets Tryz.prog 111 [.ints .u64 [(β : Int)], .int .i64 (n : Int)] R := by
  have hβ64 : β < 18446744073709551616 := Nat.lt_of_lt_of_le hc2 (show 2 ^ (c + 1) ≤ 2 ^ 64 from Nat.pow_le_pow_right (by decide) (by omega))
  have hβ0 : 2 ≤ β := Nat.le_trans (show 2 ^ 1 ≤ 2 ^ c from Nat.pow_le_pow_right (by decide) hc.1) hc1
  have hβN : β < NMax := Nat.lt_of_lt_of_le hβ64 (pow64_mono (show 1 ≤ 4096 by decide))
  have hsm := small_one β ⟨by omega, hβ64⟩
  have hbl1 := bitlen_one β ⟨by omega, hβ64⟩
  rw [bitlen_eq hc1 hc2] at hbl1
  have hnβ := natL_one β ⟨by omega, hβ64⟩
  have hcm : ((c + 1 : Nat) : Int) - 1 = (c : Int) := by omega
  have hwc : IntKind.wrap .i64 (c : Int) = (c : Int) := wrap_i64 (by omega)
  refine meets_by ttOk Tryz.func111 Tryz.ntmps111 Tryz.results111 (by kernel_rfl) (c := _) rfl rfl rfl fun E => ?_
  simp only [argsFrame]
  have hbl := bits_len (n : Int) (by simp only [B64]; omega)
  rw [Int.toNat_natCast] at hbl
  obtain ⟨q', hq'⟩ : ∃ q' : Int, (c : Int) * (n : Int) = q' := ⟨_, rfl⟩
  have hq2 : ((c * n : Nat) : Int) = q' := by rw [← hq']; simp
  have hq3 : (n : Int) < 262144 → 0 ≤ q' ∧ q' ≤ 16252928 := fun h => by
    rw [← hq2]
    have h1 : c * n ≤ 62 * 262144 := Nat.mul_le_mul hc.2 (by omega)
    omega
  have hbigc : 262144 ≤ c * n ∨ 262144 ≤ n → ¬ β ^ n < NMax := fun h => by
    have h1 : 2 ^ (c * n) ≤ β ^ n := by rw [Nat.pow_mul]; exact Nat.pow_le_pow_left hc1 n
    have h2 : 2 ^ 262144 ≤ 2 ^ (c * n) := Nat.pow_le_pow_right (by decide) (h.elim id fun h => Nat.le_trans h (Nat.le_mul_of_pos_left n hc.1))
    rw [nmax_two]
    exact Nat.not_lt.2 (Nat.le_trans h2 h1)
  have hwq : (n : Int) < 262144 → IntKind.wrap .i64 q' = q' := fun h => wrap_i64 (by have := hq3 h; omega)
  have hw : IntKind.wrap .u64 (n : Int) = (n : Int) := wrap_u64 (by omega)
  have h1 : β ^ 0 < NMax := Nat.lt_of_lt_of_le (by rw [Nat.pow_zero]; decide) (pow64_mono (show 1 ≤ 4096 by decide))
  by_cases h0 : n = 0
  · subst h0
    rw [hR1 h1, Nat.pow_zero, natL_oneL]
    repeat' first
      | (with_reducible first | refine PW.seq ?_ | refine PW.block ?_ | refine PW.fork ?_ | refine PW.skip ?_ | refine PW.exit ?_ | refine PW.ret ?_ | refine PW.scope ?_ | refine PW.label ?_ | refine PW.goto ?_)
      | (with_reducible refine PW.region ttOk ?_ ?_
         · rfl)
      | (with_reducible refine PW.regionD ttOk mixed ?_ ?_ ?_
         · rfl
         · rfl) | (with_reducible refine ifW_dec (fun g => ?_) (fun g => ?_) <;> first | (exfalso; omega) | (simp -dsimp only [g, wkI])) | (with_reducible refine condE_dec (fun g => ?_) (fun g => ?_) <;> try (exfalso; omega)) | (with_reducible refine condE_not (fun g => ?_) (fun g => ?_) <;> try (exfalso; omega)) | (simp -dsimp only [↓wkA, ↓wkE, ↓wkJ, wkB, ↓tt, Nat.reduceBEq, Nat.reduceEqDiff, ↓reduceIte, Nat.reduceLT, Array.toList, Nat.reduceAdd, Nat.reduceMul, Int.reduceToNat, Int.reducePow, UInt8.reduceToNat]) | (refine call_by hsm (views_data rfl) ⟨trivial, trivial, trivial⟩ rfl ?_) | (refine call_by hbl1 (views_data rfl) ⟨trivial, trivial⟩ rfl ?_) | (exact Nat.le_refl _) | (simp -dsimp (disch := first | assumption | omega) only [dec_t, dec_f])
      | (refine And.intro ?_ ?_
         · first | omega | decide | (simp (disch := omega) only [wkW, Int.reduceToNat, Int.reducePow] <;> omega) | (simp <;> omega)) | (simp (disch := omega) only [wkW, Int.reduceToNat, Int.reducePow]) | fail
  have hnge : (n : Int) < 262144 ∨ 262144 ≤ (n : Int) := by omega
  by_cases hbig : 262144 ≤ c * n ∨ 262144 ≤ n
  · rw [hR2 (hbigc hbig)]
    repeat' first
      | (simp (disch := omega) only [hw, hcm, hwc, hq', hwq, wkW, Int.reduceToNat, Int.reducePow])
      | (with_reducible first | refine PW.seq ?_ | refine PW.block ?_ | refine PW.fork ?_ | refine PW.skip ?_ | refine PW.exit ?_ | refine PW.ret ?_ | refine PW.scope ?_ | refine PW.label ?_ | refine PW.goto ?_)
      | (with_reducible refine PW.region ttOk ?_ ?_
         · rfl)
      | (with_reducible refine PW.regionD ttOk mixed ?_ ?_ ?_
         · rfl
         · rfl) | (with_reducible refine ifW_dec (fun g => ?_) (fun g => ?_) <;> first | (exfalso; omega) | (simp -dsimp only [g, wkI])) | (with_reducible refine condE_dec (fun g => ?_) (fun g => ?_) <;> try (exfalso; omega)) | (with_reducible refine condE_not (fun g => ?_) (fun g => ?_) <;> try (exfalso; omega)) | (simp -dsimp only [↓wkA, ↓wkE, ↓wkJ, wkB, ↓tt, Nat.reduceBEq, Nat.reduceEqDiff, ↓reduceIte, Nat.reduceLT, Array.toList, Nat.reduceAdd, Nat.reduceMul, Int.reduceToNat, Int.reducePow, UInt8.reduceToNat]) | (refine call_by hsm (views_data rfl) ⟨trivial, trivial, trivial⟩ rfl ?_) | (refine call_by hbl1 (views_data rfl) ⟨trivial, trivial⟩ rfl ?_) | (simp -dsimp (disch := first | assumption | omega) only [dec_t, dec_f])
      | (refine And.intro ?_ ?_
         · first | omega | decide | (simp (disch := omega) only [wkW, Int.reduceToNat, Int.reducePow] <;> omega) | (simp <;> omega)) | (simp (disch := omega) only [wkW, Int.reduceToNat, Int.reducePow]) | fail
  obtain ⟨L, hL, hL1, hL2⟩ := bitlen_spec h0
  rw [hL] at hbl
  have hL63 : L < 64 := by
    have h3 : 2 ^ L < 2 ^ 64 := Nat.lt_of_le_of_lt hL1 (by simp only [Nat.reducePow]; omega)
    exact (Nat.pow_lt_pow_iff_right (by decide)).1 h3
  repeat' first
    | (simp (disch := omega) only [hw, hcm, hwc, hq', hwq, wkW, Int.reduceToNat, Int.reducePow])
    | (with_reducible first | refine PW.seq ?_ | refine PW.block ?_ | refine PW.fork ?_ | refine PW.skip ?_ | refine PW.exit ?_ | refine PW.ret ?_ | refine PW.scope ?_ | refine PW.label ?_ | refine PW.goto ?_)
    | (with_reducible refine PW.region ttOk ?_ ?_
       · rfl)
    | (with_reducible refine PW.regionD ttOk mixed ?_ ?_ ?_
       · rfl
       · rfl) | (with_reducible refine ifW_dec (fun g => ?_) (fun g => ?_) <;> first | (exfalso; omega) | (simp -dsimp only [g, wkI])) | (with_reducible refine condE_dec (fun g => ?_) (fun g => ?_) <;> try (exfalso; omega)) | (with_reducible refine condE_not (fun g => ?_) (fun g => ?_) <;> try (exfalso; omega)) | (simp -dsimp only [↓wkA, ↓wkE, ↓wkJ, wkB, ↓tt, Nat.reduceBEq, Nat.reduceEqDiff, ↓reduceIte, Nat.reduceLT, Array.toList, Nat.reduceAdd, Nat.reduceMul, Int.reduceToNat, Int.reducePow, UInt8.reduceToNat]) | (refine call_by hsm (views_data rfl) ⟨trivial, trivial, trivial⟩ rfl ?_) | (refine call_by hbl1 (views_data rfl) ⟨trivial, trivial⟩ rfl ?_) | (refine call_by hbl (views_data rfl) ⟨trivial, trivial⟩ rfl ?_) | (simp -dsimp (disch := first | assumption | omega) only [dec_t, dec_f])
    | (refine And.intro ?_ ?_
       · first | omega | decide | (simp (disch := omega) only [wkW, Int.reduceToNat, Int.reducePow] <;> omega) | (simp <;> omega)) | (simp (disch := omega) only [wkW, Int.reduceToNat, Int.reducePow]) | fail
  have hten : natL (β ^ 0) = [1] := by rw [Nat.pow_zero]; exact natL_oneL
  refine PW.meetB (fun F H => β ^ n < NMax ∧ F = [(9, .ints .u64 (natL (β ^ n)))] ∧ H = ⟨1, [], [], []⟩) ?_ ?_
  · refine PW.loopA (fun i F H => i ≤ L + 1 ∧ β ^ (n / 2 ^ i) < NMax ∧ F = pwG β n (natL (β ^ (n / 2 ^ i))) i ∧ H = ⟨1, [], [], []⟩) (L + 1) (pwG β n (natL (β ^ (n / 2 ^ (L + 1)))) (L + 1)) ⟨1, [], [], []⟩ (Sub.trans (toData 9 0 0 1 true rfl (Nat.le_refl _)) (Sub.norm ⟨?_, ?_, rfl, rfl, trivial⟩ trivial (Nat.le_refl _) rfl rfl rfl rfl)) ⟨Nat.le_refl _, ?_, rfl, rfl⟩ ?_
    · simp (disch := omega) only [↓wkA, ↓wkE, ↓wkJ, wkB, ↓tt, Nat.reduceBEq, Nat.reduceEqDiff, ↓reduceIte, Nat.reduceLT, Array.toList, Nat.reduceAdd, Nat.reduceMul, Int.reduceToNat, Int.reducePow, UInt8.reduceToNat, wkW, Int.reduceToNat, Int.reducePow]
    · rw [Nat.div_eq_of_lt hL2, hten]; rfl
    · rw [Nat.div_eq_of_lt hL2]; exact h1
    rintro i F H ⟨hi, hlt, rfl, rfl⟩
    cases i with
    | zero =>
      rw [Nat.pow_zero, Nat.div_one] at hlt ⊢
      repeat' first
        | (with_reducible first | refine PW.seq ?_ | refine PW.block ?_ | refine PW.fork ?_ | refine PW.skip ?_ | refine PW.exit ?_ | refine PW.ret ?_ | refine PW.scope ?_ | refine PW.label ?_ | refine PW.goto ?_)
        | (with_reducible refine PW.region ttOk ?_ ?_
           · rfl)
        | (with_reducible refine PW.regionD ttOk mixed ?_ ?_ ?_
           · rfl
           · rfl) | (with_reducible refine ifW_dec (fun g => ?_) (fun g => ?_) <;> first | (exfalso; omega) | (simp -dsimp only [g, wkI])) | (with_reducible refine condE_dec (fun g => ?_) (fun g => ?_) <;> try (exfalso; omega)) | (with_reducible refine condE_not (fun g => ?_) (fun g => ?_) <;> try (exfalso; omega)) | (simp -dsimp only [↓wkA, ↓wkE, ↓wkJ, wkB, ↓tt, Nat.reduceBEq, Nat.reduceEqDiff, ↓reduceIte, Nat.reduceLT, Array.toList, Nat.reduceAdd, Nat.reduceMul, Int.reduceToNat, Int.reducePow, UInt8.reduceToNat]) | (simp -dsimp (disch := first | assumption | omega) only [dec_t, dec_f])
        | (refine And.intro ?_ ?_
           · first | omega | decide | (simp (disch := omega) only [wkW, Int.reduceToNat, Int.reducePow] <;> omega) | (simp <;> omega)) | (simp (disch := omega) only [wkW, Int.reduceToNat, Int.reducePow]) | fail
      exact Meet.mk [(9, .ints .u64 (natL (β ^ n)))] ⟨1, [], [], []⟩ (Sub.norm ⟨rfl, trivial⟩ trivial (Nat.le_refl _) rfl rfl rfl rfl) ⟨hlt, rfl, rfl⟩
    | succ i =>
      have e1 : (((i + 1 : Nat)) : Int) - 1 = (i : Int) := by omega
      simp only [pwG, e1]
      have hne : ∀ k, β ^ k ≠ 0 := fun k => Nat.ne_of_gt (Nat.pow_pos (by omega))
      have hstep : n / 2 ^ i = 2 * (n / 2 ^ (i + 1)) + n / 2 ^ i % 2 := by rw [Nat.pow_succ, ← Nat.div_div_eq_div_mul]; omega
      have hmono : ∀ k, k ≤ n / 2 ^ i → ¬ β ^ k < NMax → R = .tup [.nil, .int .i64 2] := fun k hk hb => hR2 fun h => hb (Nat.lt_of_le_of_lt (Nat.pow_le_pow_right (by omega) (Nat.le_trans hk (Nat.div_le_self _ _))) h)
      have hsq : β ^ (n / 2 ^ (i + 1)) * β ^ (n / 2 ^ (i + 1)) = β ^ (2 * (n / 2 ^ (i + 1))) := by rw [← Nat.pow_add]; congr 1; omega
      have hshr : ((n : Int)).fdiv (2 ^ min ((i : Int)).toNat 64) = ((n / 2 ^ i : Nat) : Int) := by
        rw [Int.toNat_natCast, Nat.min_eq_left (by omega), fdiv_pos (Int.le_of_lt (Int.pow_pos (by decide)))]
        simp
      have hwi : IntKind.wrap .u64 (i : Int) = (i : Int) := wrap_u64 (by omega)
      have hqn : n / 2 ^ i ≤ n := Nat.div_le_self _ _
      generalize n / 2 ^ (i + 1) = p at *
      generalize hqe : n / 2 ^ i = q at *
      have hand : ibits .and .i64 ((q : Nat) : Int) 1 = ((q % 2 : Nat) : Int) := by rw [and1_i64 (by omega)]; omega
      by_cases hs : β ^ (2 * p) < NMax
      · have hm1 := mul_nat (hne p) (hne p) hlt hlt (by rw [hsq]; exact hs)
        rw [hsq] at hm1
        by_cases hbit : q % 2 = 1
        · have hq : β ^ (2 * p) * β = β ^ q := by rw [← Nat.pow_succ]; congr 1; omega
          by_cases hs2 : β ^ q < NMax
          · have hm2 := mul_nat (hne (2 * p)) (show β ≠ 0 by omega) hs hβN (by rw [hq]; exact hs2)
            rw [hq, hnβ] at hm2
            repeat' first
              | (simp only [hwi, hshr, hand])
              | (with_reducible first | refine PW.seq ?_ | refine PW.block ?_ | refine PW.fork ?_ | refine PW.skip ?_ | refine PW.exit ?_ | refine PW.ret ?_ | refine PW.scope ?_ | refine PW.label ?_ | refine PW.goto ?_)
              | (with_reducible refine PW.region ttOk ?_ ?_
                 · rfl)
              | (with_reducible refine PW.regionD ttOk mixed ?_ ?_ ?_
                 · rfl
                 · rfl) | (with_reducible refine ifW_dec (fun g => ?_) (fun g => ?_) <;> first | (exfalso; omega) | (simp -dsimp only [g, wkI])) | (with_reducible refine condE_dec (fun g => ?_) (fun g => ?_) <;> try (exfalso; omega)) | (with_reducible refine condE_not (fun g => ?_) (fun g => ?_) <;> try (exfalso; omega)) | (simp -dsimp only [↓wkA, ↓wkE, ↓wkJ, wkB, ↓tt, Nat.reduceBEq, Nat.reduceEqDiff, ↓reduceIte, Nat.reduceLT, Array.toList, Nat.reduceAdd, Nat.reduceMul, Int.reduceToNat, Int.reducePow, UInt8.reduceToNat]) | (refine call_by hm1 (views_data rfl) ⟨trivial, trivial, trivial⟩ rfl ?_) | (refine call_by hm2 (views_data rfl) ⟨trivial, trivial, trivial⟩ rfl ?_) | (simp -dsimp (disch := first | assumption | omega) only [dec_t, dec_f])
              | (refine And.intro ?_ ?_
                 · first | omega | decide | (simp (disch := omega) only [wkW, Int.reduceToNat, Int.reducePow] <;> omega) | (simp <;> omega)) | (simp (disch := omega) only [wkW, Int.reduceToNat, Int.reducePow]) | fail
            exact Again.mk i (pwG β n (natL (β ^ q)) i) ⟨1, [], [], []⟩ (by omega) (Sub.norm ⟨rfl, rfl, rfl, rfl, trivial⟩ trivial (Nat.le_refl _) rfl rfl rfl rfl) ⟨by omega, by rw [hqe]; exact hs2, by rw [hqe], rfl⟩
          · have hm2 := mul_over (hne (2 * p)) (show β ≠ 0 by omega) hs hβN (by rw [hq]; exact hs2)
            rw [hnβ] at hm2
            rw [hmono q (Nat.le_refl _) hs2]
            repeat' first
              | (simp only [hwi, hshr, hand])
              | (with_reducible first | refine PW.seq ?_ | refine PW.block ?_ | refine PW.fork ?_ | refine PW.skip ?_ | refine PW.exit ?_ | refine PW.ret ?_ | refine PW.scope ?_ | refine PW.label ?_ | refine PW.goto ?_)
              | (with_reducible refine PW.region ttOk ?_ ?_
                 · rfl)
              | (with_reducible refine PW.regionD ttOk mixed ?_ ?_ ?_
                 · rfl
                 · rfl) | (with_reducible refine ifW_dec (fun g => ?_) (fun g => ?_) <;> first | (exfalso; omega) | (simp -dsimp only [g, wkI])) | (with_reducible refine condE_dec (fun g => ?_) (fun g => ?_) <;> try (exfalso; omega)) | (with_reducible refine condE_not (fun g => ?_) (fun g => ?_) <;> try (exfalso; omega)) | (simp -dsimp only [↓wkA, ↓wkE, ↓wkJ, wkB, ↓tt, Nat.reduceBEq, Nat.reduceEqDiff, ↓reduceIte, Nat.reduceLT, Array.toList, Nat.reduceAdd, Nat.reduceMul, Int.reduceToNat, Int.reducePow, UInt8.reduceToNat]) | (refine call_by hm1 (views_data rfl) ⟨trivial, trivial, trivial⟩ rfl ?_) | (refine call_by hm2 (views_data rfl) ⟨trivial, trivial, trivial⟩ rfl ?_) | (simp -dsimp (disch := first | assumption | omega) only [dec_t, dec_f])
              | (refine And.intro ?_ ?_
                 · first | omega | decide | (simp (disch := omega) only [wkW, Int.reduceToNat, Int.reducePow] <;> omega) | (simp <;> omega)) | (simp (disch := omega) only [wkW, Int.reduceToNat, Int.reducePow]) | fail
        · have hq : 2 * p = q := by omega
          rw [hq] at hm1 hs
          repeat' first
            | (simp only [hwi, hshr, hand])
            | (with_reducible first | refine PW.seq ?_ | refine PW.block ?_ | refine PW.fork ?_ | refine PW.skip ?_ | refine PW.exit ?_ | refine PW.ret ?_ | refine PW.scope ?_ | refine PW.label ?_ | refine PW.goto ?_)
            | (with_reducible refine PW.region ttOk ?_ ?_
               · rfl)
            | (with_reducible refine PW.regionD ttOk mixed ?_ ?_ ?_
               · rfl
               · rfl) | (with_reducible refine ifW_dec (fun g => ?_) (fun g => ?_) <;> first | (exfalso; omega) | (simp -dsimp only [g, wkI])) | (with_reducible refine condE_dec (fun g => ?_) (fun g => ?_) <;> try (exfalso; omega)) | (with_reducible refine condE_not (fun g => ?_) (fun g => ?_) <;> try (exfalso; omega)) | (simp -dsimp only [↓wkA, ↓wkE, ↓wkJ, wkB, ↓tt, Nat.reduceBEq, Nat.reduceEqDiff, ↓reduceIte, Nat.reduceLT, Array.toList, Nat.reduceAdd, Nat.reduceMul, Int.reduceToNat, Int.reducePow, UInt8.reduceToNat]) | (refine call_by hm1 (views_data rfl) ⟨trivial, trivial, trivial⟩ rfl ?_) | (simp -dsimp (disch := first | assumption | omega) only [dec_t, dec_f])
            | (refine And.intro ?_ ?_
               · first | omega | decide | (simp (disch := omega) only [wkW, Int.reduceToNat, Int.reducePow] <;> omega) | (simp <;> omega)) | (simp (disch := omega) only [wkW, Int.reduceToNat, Int.reducePow]) | fail
          exact Again.mk i (pwG β n (natL (β ^ q)) i) ⟨1, [], [], []⟩ (by omega) (Sub.norm ⟨rfl, rfl, rfl, rfl, trivial⟩ trivial (Nat.le_refl _) rfl rfl rfl rfl) ⟨by omega, by rw [hqe]; exact hs, by rw [hqe], rfl⟩
      · have hm1 := mul_over (hne p) (hne p) hlt hlt (by rw [hsq]; exact hs)
        rw [hmono (2 * p) (by omega) hs]
        repeat' first
          | (simp only [hwi, hshr, hand])
          | (with_reducible first | refine PW.seq ?_ | refine PW.block ?_ | refine PW.fork ?_ | refine PW.skip ?_ | refine PW.exit ?_ | refine PW.ret ?_ | refine PW.scope ?_ | refine PW.label ?_ | refine PW.goto ?_)
          | (with_reducible refine PW.region ttOk ?_ ?_
             · rfl)
          | (with_reducible refine PW.regionD ttOk mixed ?_ ?_ ?_
             · rfl
             · rfl) | (with_reducible refine ifW_dec (fun g => ?_) (fun g => ?_) <;> first | (exfalso; omega) | (simp -dsimp only [g, wkI])) | (with_reducible refine condE_dec (fun g => ?_) (fun g => ?_) <;> try (exfalso; omega)) | (with_reducible refine condE_not (fun g => ?_) (fun g => ?_) <;> try (exfalso; omega)) | (simp -dsimp only [↓wkA, ↓wkE, ↓wkJ, wkB, ↓tt, Nat.reduceBEq, Nat.reduceEqDiff, ↓reduceIte, Nat.reduceLT, Array.toList, Nat.reduceAdd, Nat.reduceMul, Int.reduceToNat, Int.reducePow, UInt8.reduceToNat]) | (refine call_by hm1 (views_data rfl) ⟨trivial, trivial, trivial⟩ rfl ?_) | (simp -dsimp (disch := first | assumption | omega) only [dec_t, dec_f])
          | (refine And.intro ?_ ?_
             · first | omega | decide | (simp (disch := omega) only [wkW, Int.reduceToNat, Int.reducePow] <;> omega) | (simp <;> omega)) | (simp (disch := omega) only [wkW, Int.reduceToNat, Int.reducePow]) | fail
  rintro F H ⟨hfin, rfl, rfl⟩
  rw [hR1 hfin]
  repeat' first
    | (with_reducible first | refine PW.seq ?_ | refine PW.block ?_ | refine PW.fork ?_ | refine PW.skip ?_ | refine PW.exit ?_ | refine PW.ret ?_ | refine PW.scope ?_ | refine PW.label ?_ | refine PW.goto ?_)
    | (with_reducible refine PW.region ttOk ?_ ?_
       · rfl)
    | (with_reducible refine PW.regionD ttOk mixed ?_ ?_ ?_
       · rfl
       · rfl) | (with_reducible refine ifW_dec (fun g => ?_) (fun g => ?_) <;> first | (exfalso; omega) | (simp -dsimp only [g, wkI])) | (with_reducible refine condE_dec (fun g => ?_) (fun g => ?_) <;> try (exfalso; omega)) | (with_reducible refine condE_not (fun g => ?_) (fun g => ?_) <;> try (exfalso; omega)) | (simp -dsimp only [↓wkA, ↓wkE, ↓wkJ, wkB, ↓tt, Nat.reduceBEq, Nat.reduceEqDiff, ↓reduceIte, Nat.reduceLT, Array.toList, Nat.reduceAdd, Nat.reduceMul, Int.reduceToNat, Int.reducePow, UInt8.reduceToNat]) | (simp -dsimp (disch := first | assumption | omega) only [dec_t, dec_f])
    | (refine And.intro ?_ ?_
       · first | omega | decide | (simp (disch := omega) only [wkW, Int.reduceToNat, Int.reducePow] <;> omega) | (simp <;> omega)) | (simp (disch := omega) only [wkW, Int.reduceToNat, Int.reducePow]) | fail
set_option exponentiation.threshold 300000 in
theorem pow5_ok (n : Nat) (hn : n < 9223372036854775807) (h : 5 ^ n < NMax) : Meets Tryz.prog 75 [.int .i64 (n : Int)] (.tup [.ints .u64 (natL (5 ^ n)), .int .i64 0]) := by
  have h1 := pow_gen 5 2 (by decide) (by decide) (by decide) n hn _ (fun _ => rfl) (fun h2 => absurd h h2)
  refine meets_by ttOk Tryz.func75 Tryz.ntmps75 Tryz.results75 (by kernel_rfl) (c := _) rfl rfl rfl fun E => ?_
  simp only [argsFrame]
  repeat' first
    | (with_reducible first | refine PW.seq ?_ | refine PW.block ?_ | refine PW.fork ?_ | refine PW.skip ?_ | refine PW.exit ?_ | refine PW.ret ?_ | refine PW.scope ?_ | refine PW.label ?_ | refine PW.goto ?_)
    | (with_reducible refine PW.region ttOk ?_ ?_
       · rfl)
    | (with_reducible refine PW.regionD ttOk mixed ?_ ?_ ?_
       · rfl
       · rfl) | (with_reducible refine ifW_dec (fun g => ?_) (fun g => ?_) <;> first | (exfalso; omega) | (simp -dsimp only [g, wkI])) | (with_reducible refine condE_dec (fun g => ?_) (fun g => ?_) <;> try (exfalso; omega)) | (with_reducible refine condE_not (fun g => ?_) (fun g => ?_) <;> try (exfalso; omega)) | (simp -dsimp only [↓wkA, ↓wkE, ↓wkJ, wkB, ↓tt, Nat.reduceBEq, Nat.reduceEqDiff, ↓reduceIte, Nat.reduceLT, Array.toList, Nat.reduceAdd, Nat.reduceMul, Int.reduceToNat, Int.reducePow, UInt8.reduceToNat]) | (refine call_drop (args' := [.ints .u64 [((5 : Nat) : Int)], .int .i64 (n : Int)]) rfl h1 (by simp -dsimp only [okViews, ↓wkA, ↓wkE, ↓wkJ, wkB, ↓tt, Nat.reduceBEq, Nat.reduceEqDiff, ↓reduceIte, Nat.reduceLT, Array.toList, Nat.reduceAdd, Nat.reduceMul, Int.reduceToNat, Int.reducePow, UInt8.reduceToNat]; decide) rfl ?_) | (simp -dsimp (disch := first | assumption | omega) only [dec_t, dec_f])
    | (refine And.intro ?_ ?_
       · first | omega | decide | (simp (disch := omega) only [wkW, Int.reduceToNat, Int.reducePow] <;> omega) | (simp <;> omega)) | (simp (disch := omega) only [wkW, Int.reduceToNat, Int.reducePow]) | fail
end Go.Proofs.YtbmhnjghpjkjpaaGreatDoor

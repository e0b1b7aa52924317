/- Contracts and laws that the row leans on, part 8: texts that were built one by one, laid together. -/
import Derived.Test.YtbmhnjghpjkjpaaGreatDoorPart7
set_option maxHeartbeats 4000000
set_option maxRecDepth 4000
set_option exponentiation.threshold 300000
set_option linter.unusedVariables false
set_option linter.unusedSimpArgs false
namespace Go.Proofs.YtbmhnjghpjkjpaaGreatDoor
open Go Go.PV
abbrev pbF (v : List Int) (r off n i : Nat) (c : Int) : PV.Frame := [(10, .int .i64 (i : Int)), (9, .int .i64 v.length), (8, .ints .u64 v), (5, .int .u64 c), (0, .sl r off (n + 1) true), (1, .ints .u64 v)]
theorem put_back_h (l v : List Int) (hl : Limbs l) (hv : Limbs v) (off n : Nat) (hvn : v.length = n) (hn : n ≤ 5000) (hll : off + n + 1 ≤ l.length) (hl2 : l.length ≤ 10000) (r nx : Nat) (rows : List (Nat × PV.Row)) (gg : List PV.Frame) (ty : List (Nat × TypeId)) (hr : getRow rows r = some (.ints .u64 l)) :
    HMeets Tryz.prog 207 [.sl r off (n + 1) true, .ints .u64 v] ⟨nx, rows, gg, ty⟩ fun res H' => ∃ l' c, PartS l l' off (n + 1) ∧ 0 ≤ c ∧ c ≤ 1 ∧ vt (l'.drop off) (n + 1) + B64 ^ (n + 1) * c = vt (l.drop off) (n + 1) + vt v n ∧ res = .bool (decide (c = 1)) ∧ H' = ⟨nx, setRow rows r (.ints .u64 l'), gg, ty⟩ := by
  refine hmeets_by ttOk Tryz.func207 Tryz.ntmps207 Tryz.results207 (by kernel_rfl) (c := _) rfl rfl fun E => ?_
  simp only [argsFrame]
  repeat' first
    | (with_reducible first | refine PW.seq ?_ | refine PW.block ?_ | refine PW.fork ?_ | refine PW.skip ?_ | refine PW.exit ?_ | refine PW.ret ?_ | refine PW.scope ?_ | refine PW.label ?_ | refine PW.goto ?_)
    | (with_reducible refine PW.region ttOk ?_ ?_
       · rfl)
    | (with_reducible refine PW.regionD ttOk mixed ?_ ?_ ?_
       · rfl
       · rfl) | (with_reducible refine ifW_dec (fun g => ?_) (fun g => ?_) <;> first | (exfalso; omega) | (simp -dsimp only [g, wkI])) | (with_reducible refine condE_dec (fun g => ?_) (fun g => ?_) <;> try (exfalso; omega)) | (with_reducible refine condE_not (fun g => ?_) (fun g => ?_) <;> try (exfalso; omega)) | (simp -dsimp only [↓wkA, ↓wkE, ↓wkJ, wkB, ↓tt, Nat.reduceBEq, Nat.reduceEqDiff, ↓reduceIte, Nat.reduceLT, Array.toList, Nat.reduceAdd, Nat.reduceMul, Int.reduceToNat, Int.reducePow, UInt8.reduceToNat]) | (simp -dsimp (disch := first | assumption | omega) only [dec_t, dec_f])
    | (refine And.intro ?_ ?_
       · first | omega | decide | (simp (disch := omega) only [wkW, Int.reduceToNat, Int.reducePow] <;> omega) | (simp <;> omega)) | (simp (disch := omega) only [wkW, Int.reduceToNat, Int.reducePow]) | fail
  refine PW.loopA (fun m F H => ∃ i l' c, i + m = n ∧ PartS l l' off i ∧ (0 ≤ c ∧ c ≤ 1) ∧ vt (l'.drop off) i + B64 ^ i * c = vt (l.drop off) i + vt v i ∧ F = pbF v r off n i c ∧ H = ⟨nx, setRow rows r (.ints .u64 l'), gg, ty⟩) n (pbF v r off n 0 0) ⟨nx, setRow rows r (.ints .u64 l), gg, ty⟩ (Sub.less ⟨rfl, rfl, rfl, rfl, rfl, rfl, trivial⟩ (fun k row h => by
    rw [getRow_setRow] at h
    split at h
    · rename_i e; subst e; rw [← h]; exact hr
    · exact h) rfl rfl) ⟨0, l, 0, by omega, PartS.refl hl off, by decide, by simp [vt], rfl, rfl⟩ ?_
  rintro m F H ⟨i, l', c, hi, hS, hc, he, rfl, rfl⟩
  have hll' := hS.len
  have hoi : off + i < l.length := by omega
  have hx := getD_limb hl (off + i)
  have hout := hS.out (off + i) (.inr (Nat.le_refl _))
  have hvi := getD_limb hv i
  cases m with
  | zero =>
    obtain rfl : i = n := by omega
    have h64 := add64 (x := l.getD (off + i) 0) (y := 0) (c := c) hx.1 (by decide) hc
    obtain ⟨s, hs⟩ : ∃ s, l.getD (off + i) 0 + 0 + c = s := ⟨_, rfl⟩
    rw [hs] at h64
    have hres : 0 ≤ s / 18446744073709551616 ∧ s / 18446744073709551616 ≤ 1 := by simp only [B64] at *; omega
    have hmod : 0 ≤ s % 18446744073709551616 ∧ s % 18446744073709551616 < B64 := ⟨Int.emod_nonneg _ (by decide), Int.emod_lt_of_pos _ (by decide)⟩
    have hfin : vt ((l'.set (off + i) (s % 18446744073709551616)).drop off) (i + 1) + B64 ^ (i + 1) * (s / 18446744073709551616) = vt (l.drop off) (i + 1) + vt v i := by
      rw [part_vt hS hoi]
      have hsum : 18446744073709551616 * (s / 18446744073709551616) + s % 18446744073709551616 = s := Int.mul_ediv_add_emod s 18446744073709551616
      simp only [vt]
      rw [getD_drop', Int.pow_succ]
      rw [← hs] at hsum ⊢
      simp only [B64] at he ⊢
      generalize (18446744073709551616 : Int) ^ i = p at *
      generalize (l.getD (off + i) 0 + 0 + c) / 18446744073709551616 = q at *
      generalize (l.getD (off + i) 0 + 0 + c) % 18446744073709551616 = t at *
      grind
    have hset := hS.set hoi hmod
    clear he hmod
    generalize s % 18446744073709551616 = t at *
    generalize s / 18446744073709551616 = q at *
    repeat' first
      | (simp only [hvn, hout, Int.toNat_natCast, getRow_setRow_self, Go.PV.setRow_setRow])
      | (with_reducible first | refine PW.seq ?_ | refine PW.block ?_ | refine PW.fork ?_ | refine PW.skip ?_ | refine PW.exit ?_ | refine PW.ret ?_ | refine PW.scope ?_ | refine PW.label ?_ | refine PW.goto ?_)
      | (with_reducible refine PW.region ttOk ?_ ?_
         · rfl)
      | (with_reducible refine PW.regionD ttOk mixed ?_ ?_ ?_
         · rfl
         · rfl) | (with_reducible refine ifW_dec (fun g => ?_) (fun g => ?_) <;> first | (exfalso; omega) | (simp -dsimp only [g, wkI])) | (with_reducible refine condE_dec (fun g => ?_) (fun g => ?_) <;> try (exfalso; omega)) | (with_reducible refine condE_not (fun g => ?_) (fun g => ?_) <;> try (exfalso; omega)) | (simp -dsimp only [↓wkA, ↓wkE, ↓wkJ, wkB, ↓tt, Nat.reduceBEq, Nat.reduceEqDiff, ↓reduceIte, Nat.reduceLT, Array.toList, Nat.reduceAdd, Nat.reduceMul, Int.reduceToNat, Int.reducePow, UInt8.reduceToNat]) | (refine call_by (h64) (views_data rfl) ⟨trivial, trivial, trivial, trivial⟩ rfl ?_) | (simp -dsimp (disch := first | assumption | omega) only [dec_t, dec_f])
      | (refine And.intro ?_ ?_
         · first | omega | decide | (simp (disch := omega) only [wkW, Int.reduceToNat, Int.reducePow] <;> omega) | (simp <;> omega)) | (simp (disch := omega) only [wkW, Int.reduceToNat, Int.reducePow]) | fail
    refine ⟨_, q, hset, hres.1, hres.2, hfin, ?_, rfl⟩
    rcases (show q = 0 ∨ q = 1 by omega) with rfl | rfl <;> rfl
  | succ m =>
    have ha64 := add64 (x := l.getD (off + i) 0) (y := v.getD i 0) (c := c) hx.1 hvi.1 hc
    obtain ⟨s, hs⟩ : ∃ s, l.getD (off + i) 0 + v.getD i 0 + c = s := ⟨_, rfl⟩
    rw [hs] at ha64
    have hres : 0 ≤ s / 18446744073709551616 ∧ s / 18446744073709551616 ≤ 1 := by simp only [B64] at *; omega
    have hmod : 0 ≤ s % 18446744073709551616 ∧ s % 18446744073709551616 < B64 := ⟨Int.emod_nonneg _ (by decide), Int.emod_lt_of_pos _ (by decide)⟩
    have hfin : vt ((l'.set (off + i) (s % 18446744073709551616)).drop off) (i + 1) + B64 ^ (i + 1) * (s / 18446744073709551616) = vt (l.drop off) (i + 1) + vt v (i + 1) := by
      rw [part_vt hS hoi]
      have hsum : 18446744073709551616 * (s / 18446744073709551616) + s % 18446744073709551616 = s := Int.mul_ediv_add_emod s 18446744073709551616
      simp only [vt]
      rw [getD_drop', Int.pow_succ]
      rw [← hs] at hsum ⊢
      simp only [B64] at he ⊢
      generalize (18446744073709551616 : Int) ^ i = p at *
      generalize (l.getD (off + i) 0 + v.getD i 0 + c) / 18446744073709551616 = q at *
      generalize (l.getD (off + i) 0 + v.getD i 0 + c) % 18446744073709551616 = t at *
      grind
    have hset := hS.set hoi hmod
    clear he hmod hx
    generalize s % 18446744073709551616 = u at *
    generalize s / 18446744073709551616 = q at *
    repeat' first
      | (simp only [hout, Int.toNat_natCast, getRow_setRow_self, Go.PV.setRow_setRow])
      | (with_reducible first | refine PW.seq ?_ | refine PW.block ?_ | refine PW.fork ?_ | refine PW.skip ?_ | refine PW.exit ?_ | refine PW.ret ?_ | refine PW.scope ?_ | refine PW.label ?_ | refine PW.goto ?_)
      | (with_reducible refine PW.region ttOk ?_ ?_
         · rfl)
      | (with_reducible refine PW.regionD ttOk mixed ?_ ?_ ?_
         · rfl
         · rfl) | (with_reducible refine ifW_dec (fun g => ?_) (fun g => ?_) <;> first | (exfalso; omega) | (simp -dsimp only [g, wkI])) | (with_reducible refine condE_dec (fun g => ?_) (fun g => ?_) <;> try (exfalso; omega)) | (with_reducible refine condE_not (fun g => ?_) (fun g => ?_) <;> try (exfalso; omega)) | (simp -dsimp only [↓wkA, ↓wkE, ↓wkJ, wkB, ↓tt, Nat.reduceBEq, Nat.reduceEqDiff, ↓reduceIte, Nat.reduceLT, Array.toList, Nat.reduceAdd, Nat.reduceMul, Int.reduceToNat, Int.reducePow, UInt8.reduceToNat]) | (refine call_by (ha64) (views_data rfl) ⟨trivial, trivial, trivial, trivial⟩ rfl ?_) | (simp -dsimp (disch := first | assumption | omega) only [dec_t, dec_f])
      | (refine And.intro ?_ ?_
         · first | omega | decide | (simp (disch := omega) only [wkW, Int.reduceToNat, Int.reducePow] <;> omega) | (simp <;> omega)) | (simp (disch := omega) only [wkW, Int.reduceToNat, Int.reducePow]) | fail
    exact Again.mk m (pbF v r off n (i + 1) q) ⟨nx, setRow rows r (.ints .u64 (l'.set (off + i) u)), gg, ty⟩ (by omega) (Sub.less ⟨rfl, rfl, rfl, rfl, rfl, rfl, trivial⟩ (fun _ _ h => h) rfl rfl) ⟨i + 1, _, _, by omega, hset, hres, hfin, rfl, rfl⟩
structure LongS (u q : List Int) (U V : Int) (n m J : Nat) : Prop where
  ul : u.length = m + n
  ql : q.length = m
  ulim : Limbs u
  qlim : Limbs q
  zero : ∀ k, k < J → q.getD k 0 = 0
  eq : U = vt u (J + n) + vt q m * V
  top : vt (u.drop J) n < V
theorem LongS.digit {u q u' : List Int} {U V d : Int} {n m j : Nat} (h : LongS u q U V n m (j + 1)) (hj : j < m) (hn : 1 ≤ n) (hV : V < B64 ^ n) (hp : PartS u u' j (n + 1)) (hd : 0 ≤ d ∧ d < B64) (hx : vt (u'.drop j) (n + 1) = vt (u.drop j) (n + 1) - d * V) (hlt : vt (u'.drop j) (n + 1) < V) : LongS u' (q.set j d) U V n m j := by
  have hlo := vt_bound (limbs_drop hp.lim j) n
  have htop : (u'.drop j).getD n 0 = 0 := by
    have hg := getD_limb (limbs_drop hp.lim j) n
    simp only [vt] at hlt
    refine Int.le_antisymm (Int.le_of_not_gt fun h0 => ?_) hg.1
    have h1 : B64 ^ n * 1 ≤ B64 ^ n * (u'.drop j).getD n 0 := Int.mul_le_mul_of_nonneg_left h0 (Int.le_of_lt (pow_pos64 n))
    omega
  have hx2 : vt (u'.drop j) n = vt (u.drop j) (n + 1) - d * V := by
    rw [← hx]; simp only [vt]; rw [htop]; simp
  have hlow : vt u' j = vt u j := vt_same j fun k hk => hp.out k (.inl hk)
  refine ⟨by rw [hp.len, h.ul], by rw [List.length_set, h.ql], hp.lim, limbs_set h.qlim _ hd, fun k hk => ?_, ?_, by rw [hx2, ← hx]; exact hlt⟩
  · rw [getD_set _ _ _ _ (by rw [h.ql]; exact hj), if_neg (by omega)]; exact h.zero k (by omega)
  · rw [vt_set_add q j d (by rw [h.ql]; exact hj) m hj, h.zero j (by omega), vt_split, hx2, hlow, h.eq, show j + 1 + n = j + (n + 1) by omega, vt_split]
    generalize B64 ^ j = p
    generalize vt (u.drop j) (n + 1) = y
    generalize vt u j = x
    generalize vt q m = z
    grind
theorem LongS.part {u q : List Int} {U V : Int} {n m j : Nat} (h : LongS u q U V n m (j + 1)) : vt (u.drop j) (n + 1) < B64 * V := by
  have h1 := h.top
  have hg := getD_limb (limbs_drop h.ulim j) 0
  have e : vt (u.drop j) (n + 1) = (u.drop j).getD 0 0 + B64 * vt (u.drop (j + 1)) n := by
    rw [Nat.add_comm n 1, vt_split, List.drop_drop, show B64 ^ 1 = B64 from rfl]
    simp [vt]
  rw [e]
  have : B64 * (vt (u.drop (j + 1)) n + 1) ≤ B64 * V := Int.mul_le_mul_of_nonneg_left (by omega) (by decide)
  simp only [B64] at *
  omega
abbrev loF (v : List Int) (s n m J : Nat) : PV.Frame := [(11, .int .i64 ((J : Int) - 1)), (6, .int .i64 (n : Int)), (7, .int .i64 (s : Int)), (8, .ints .u64 v), (9, .sl 1 0 (m + n) true), (10, .sl 2 0 m true)]
abbrev loG (v : List Int) (s n m j : Nat) (d : Int) (b : Bool) : PV.Frame := [(14, .bool b), (13, .int .u64 d), (12, .sl 1 j (n + 1) true), (11, .int .i64 (j : Int)), (6, .int .i64 (n : Int)), (7, .int .i64 (s : Int)), (8, .ints .u64 v), (9, .sl 1 0 (m + n) true), (10, .sl 2 0 m true)]
abbrev loH (u q : List Int) : PV.Heap := ⟨3, [(1, .ints .u64 u), (2, .ints .u64 q)], [], []⟩
theorem PartS.trans {l l1 l2 : List Int} {off i : Nat} (h : PartS l l1 off i) (k : PartS l1 l2 off i) : PartS l l2 off i := ⟨by rw [k.len, h.len], k.lim, fun j hj => by rw [k.out j hj, h.out j hj]⟩
theorem quot_long (a b : List Int) (ha : Limbs a) (hb : Limbs b) (n m : Nat) (hbn : b.length = n) (hn : 2 ≤ n) (ham : a.length + 1 = m + n) (hm1 : 1 ≤ m) (hal : a.length ≤ 4096) (htop : 0 < b.getD (n - 1) 0) (A B : Nat) (hA : val a = A) (hB : val b = B) (hB0 : 0 < B) (hAm : A < 18446744073709551616 ^ a.length) (hQ : A / B < NMax) :
    Meets Tryz.prog 187 [.ints .u64 a, .ints .u64 b] (.tup [.ints .u64 (natL (A / B)), .ints .u64 (natL (A % B))]) := by
  have hbt := getD_limb hb (n - 1)
  obtain ⟨s, hs, hs1, hs2, hlead⟩ := leading (b.getD (n - 1) 0) ⟨htop, hbt.2⟩
  have hs64 : s < 64 := by omega
  -- the divisor, raised
  have hBn : B * 2 ^ s < 18446744073709551616 ^ n := by
    obtain ⟨lo, l1, l2, l3⟩ := vt_low hb (show 1 ≤ n by omega)
    have h1 : (B : Int) * 2 ^ s < B64 ^ n := by
      have hv : (B : Int) = vt b n := by rw [← hB]; unfold val; rw [hbn]
      have e : B64 ^ n = B64 ^ (n - 1) * B64 := by rw [← Int.pow_succ, show (n - 1).succ = n by omega]
      rw [hv, l3, e]
      have hP : (0 : Int) < 2 ^ s := Int.pow_pos (by decide)
      have h2 : (lo + 1) * 2 ^ s ≤ B64 ^ (n - 1) * 2 ^ s := Int.mul_le_mul_of_nonneg_right l2 (Int.le_of_lt hP)
      have h3 : B64 ^ (n - 1) * (b.getD (n - 1) 0 * 2 ^ s + 2 ^ s) ≤ B64 ^ (n - 1) * B64 := by
        refine Int.mul_le_mul_of_nonneg_left ?_ (Int.le_of_lt (pow_pos64 _))
        -- both are multiples of 2^s
        have e3 : (B64 : Int) = 2 ^ (64 - s) * 2 ^ s := by rw [← Int.pow_add, show 64 - s + s = 64 by omega]; rfl
        rw [show b.getD (n - 1) 0 * 2 ^ s + 2 ^ s = (b.getD (n - 1) 0 + 1) * 2 ^ s by rw [Int.add_mul, Int.one_mul], e3]
        refine Int.mul_le_mul_of_nonneg_right ?_ (Int.le_of_lt hP)
        rw [e3] at hs2
        have := Int.lt_of_mul_lt_mul_right hs2 (Int.le_of_lt hP)
        omega
      rw [Int.mul_add] at h3
      rw [Int.add_mul, Int.mul_assoc]
      rw [Int.add_mul, Int.one_mul] at h2
      have e4 : B64 ^ (n - 1) * 2 ^ s = B64 ^ (n - 1) * 2 ^ s := rfl
      generalize B64 ^ (n - 1) * (b.getD (n - 1) 0 * 2 ^ s) = x at *
      generalize B64 ^ (n - 1) * 2 ^ s = y at *
      generalize B64 ^ (n - 1) * B64 = z at *
      generalize lo * 2 ^ s = w at *
      omega
    have e : B64 ^ n = ((18446744073709551616 ^ n : Nat) : Int) := by rw [Int.natCast_pow]; rfl
    rw [e] at h1
    have h2 : ((B * 2 ^ s : Nat) : Int) < ((18446744073709551616 ^ n : Nat) : Int) := by rw [Int.natCast_mul, Int.natCast_pow]; exact h1
    exact Int.ofNat_lt.1 h2
  have hAn : A * 2 ^ s < 18446744073709551616 ^ (m + n) := by
    rw [← ham, Nat.pow_succ]
    exact Nat.mul_lt_mul_of_lt_of_le hAm (Nat.le_trans (Nat.pow_le_pow_right (by decide) (show s ≤ 63 by omega)) (by decide)) (by decide)
  have hrv := raised_h b hb s n hs64 (by omega) (by omega) (B * 2 ^ s) (by rw [hB, Int.natCast_mul, Int.natCast_pow]; rfl) hBn
  have hru := raised_h a ha s (m + n) hs64 (by omega) (by omega) (A * 2 ^ s) (by rw [hA, Int.natCast_mul, Int.natCast_pow]; rfl) hAn
  -- what the loops lead to
  have hPs : 0 < 2 ^ s := Nat.two_pow_pos s
  have hdiv : A * 2 ^ s / (B * 2 ^ s) = A / B := Nat.mul_div_mul_right _ _ hPs
  have hmod : A * 2 ^ s % (B * 2 ^ s) = A % B * 2 ^ s := Nat.mul_mod_mul_right ..
  have w1 : IntKind.wrap .i64 ((n : Int) - 1) = ((n - 1 : Nat) : Int) := by rw [wrap_i64 (by omega)]; omega
  have w2 : IntKind.wrap .i64 ((a.length : Int) + 1) = ((m + n : Nat) : Int) := by rw [wrap_i64 (by omega)]; omega
  have w3 : IntKind.wrap .i64 ((a.length : Int) - (n : Int)) = ((m - 1 : Nat) : Int) := by rw [wrap_i64 (by omega)]; omega
  have w4 : IntKind.wrap .i64 (((m - 1 : Nat) : Int) + 1) = (m : Int) := by rw [wrap_i64 (by omega)]; omega
  have w5 : IntKind.wrap .i64 ((m : Int) - 1) = (m : Int) - 1 := wrap_i64 (by omega)
  clear hAn hA hBn
  refine meets_by ttOk Tryz.func187 Tryz.ntmps187 Tryz.results187 (by kernel_rfl) (c := _) rfl rfl rfl fun E => ?_
  simp only [argsFrame]
  repeat' first
    | (with_reducible first | refine PW.seq ?_ | refine PW.block ?_ | refine PW.fork ?_ | refine PW.skip ?_ | refine PW.exit ?_ | refine PW.ret ?_ | refine PW.scope ?_ | refine PW.label ?_ | refine PW.goto ?_) | (simp only [hbn, w1, w2, w3, w4, w5, Int.toNat_natCast])
    | (with_reducible refine PW.region ttOk ?_ ?_
       · rfl)
    | (with_reducible refine PW.regionD ttOk mixed ?_ ?_ ?_
       · rfl
       · rfl) | (with_reducible refine ifW_dec (fun g => ?_) (fun g => ?_) <;> first | (exfalso; omega) | (simp -dsimp only [g, wkI])) | (with_reducible refine condE_dec (fun g => ?_) (fun g => ?_) <;> try (exfalso; omega)) | (with_reducible refine condE_not (fun g => ?_) (fun g => ?_) <;> try (exfalso; omega)) | (simp -dsimp only [↓wkA, ↓wkE, ↓wkJ, wkB, ↓tt, Nat.reduceBEq, Nat.reduceEqDiff, ↓reduceIte, Nat.reduceLT, Array.toList, Nat.reduceAdd, Nat.reduceMul, Int.reduceToNat, Int.reducePow, UInt8.reduceToNat]) | (refine call_by (hlead) (views_data rfl) ⟨trivial, trivial⟩ rfl ?_) | (refine call_h (hrv _ _ _ _) ?_; rintro _ _ ⟨v, hvl, hvL, hvV, rfl, rfl⟩; refine ⟨_, _, rfl, ?_⟩) | (refine call_h (hru _ _ _ _) ?_; rintro _ _ ⟨u, hul, huL, huV, rfl, rfl⟩; refine ⟨_, _, rfl, ?_⟩) | (simp -dsimp (disch := first | assumption | omega) only [dec_t, dec_f])
    | (refine And.intro ?_ ?_
       · first | omega | decide | (simp (disch := omega) only [wkW, Int.reduceToNat, Int.reducePow] <;> omega) | (simp <;> omega)) | (simp (disch := omega) only [wkW, Int.reduceToNat, Int.reducePow]) | fail
  have hvv : vt v n = ((B * 2 ^ s : Nat) : Int) := by rw [← hvV]; unfold val; rw [hvl]
  have huu : vt u (m + n) = ((A * 2 ^ s : Nat) : Int) := by rw [← huV]; unfold val; rw [hul]
  have hVlow : B64 ^ (n - 1) * 9223372036854775808 ≤ vt v n := by
    obtain ⟨lo, l1, l2, l3⟩ := vt_low hb (show 1 ≤ n by omega)
    have hv : (B : Int) = vt b n := by rw [← hB]; unfold val; rw [hbn]
    have e : vt v n = (lo + B64 ^ (n - 1) * b.getD (n - 1) 0) * 2 ^ s := by rw [hvv, Int.natCast_mul, Int.natCast_pow, hv, l3]; rfl
    rw [e, Int.add_mul, Int.mul_assoc]
    have h1 := Int.mul_le_mul_of_nonneg_left hs1 (Int.le_of_lt (pow_pos64 (n - 1)))
    have h2 : 0 ≤ lo * 2 ^ s := Int.mul_nonneg l1 (Int.le_of_lt (Int.pow_pos (by decide)))
    omega
  have hVup := (vt_bound hvL n).2
  have hVpos : 0 < vt v n := by
    have := Int.mul_pos (pow_pos64 (n - 1)) (show (0 : Int) < 9223372036854775808 by decide)
    omega
  have hvtop : 0 < v.getD (n - 1) 0 := by
    obtain ⟨lo, l1, l2, l3⟩ := vt_low hvL (show 1 ≤ n by omega)
    refine Int.lt_of_not_ge fun h => ?_
    have h1 : B64 ^ (n - 1) * v.getD (n - 1) 0 ≤ 0 := Int.mul_nonpos_of_nonneg_of_nonpos (Int.le_of_lt (pow_pos64 _)) h
    have h2 : B64 ^ (n - 1) * 1 ≤ B64 ^ (n - 1) * 9223372036854775808 := Int.mul_le_mul_of_nonneg_left (by decide) (Int.le_of_lt (pow_pos64 _))
    omega
  have htop0 : vt (u.drop m) n < vt v n := by
    refine Int.lt_of_lt_of_le ?_ hVlow
    have h1 : B64 ^ m * vt (u.drop m) n ≤ vt u (m + n) := by
      rw [vt_split]
      have := (vt_bound huL m).1
      omega
    have h2 : vt u (m + n) < B64 ^ m * (B64 ^ (n - 1) * 9223372036854775808) := by
      rw [huu, ← Int.mul_assoc, ← Int.pow_add, show m + (n - 1) = a.length by omega, Int.natCast_mul, Int.natCast_pow]
      have hA1 : (A : Int) < B64 ^ a.length := by
        have e : B64 ^ a.length = ((18446744073709551616 ^ a.length : Nat) : Int) := by rw [Int.natCast_pow]; rfl
        rw [e]; exact Int.ofNat_lt.2 hAm
      have hP : (2 : Int) ^ s ≤ 2 ^ 63 := by exact_mod_cast Nat.pow_le_pow_right (by decide) hs
      have hP2 : (2 : Int) ^ 63 = 9223372036854775808 := by decide
      have hP0 : (0 : Int) < 2 ^ s := Int.pow_pos (by decide)
      have k1 : (A : Int) * 2 ^ s ≤ (A : Int) * 9223372036854775808 := Int.mul_le_mul_of_nonneg_left (by omega) (by omega)
      have k2 : (A : Int) * 9223372036854775808 < B64 ^ a.length * 9223372036854775808 := Int.mul_lt_mul_of_pos_right hA1 (by decide)
      have k3 : (A : Int) * ((2 : Nat) : Int) ^ s = (A : Int) * 2 ^ s := rfl
      omega
    exact Int.lt_of_mul_lt_mul_left (Int.lt_of_le_of_lt h1 h2) (Int.le_of_lt (pow_pos64 m))
  have hstart : LongS u (List.replicate m 0) (vt u (m + n)) (vt v n) n m m := ⟨hul, by simp, huL, limbs_zeros _, fun k _ => getD_zeros _ _, by rw [vt_zeros]; simp, htop0⟩
  have hend : ∀ u' q', LongS u' q' (vt u (m + n)) (vt v n) n m 0 → val q' = ((A / B : Nat) : Int) ∧ val (u'.take n) = ((A % B * 2 ^ s : Nat) : Int) := fun u' q' hS => by
    have he := hS.eq
    have ht := hS.top
    rw [List.drop_zero] at ht
    rw [Nat.zero_add, huu] at he
    have hl := (vt_bound hS.ulim n).1
    have hn2 : (u'.take n).length = n := by rw [List.length_take, hS.ul]; omega
    have e1 : vt q' m = ((A / B : Nat) : Int) := by
      rw [← hdiv, Int.natCast_ediv, he, ← hvv, Int.add_mul_ediv_right _ _ (by omega), Int.ediv_eq_zero_of_lt hl ht, Int.zero_add]
    have e2 : vt u' n = ((A % B * 2 ^ s : Nat) : Int) := by
      rw [← hmod, Int.natCast_emod, he, ← hvv, Int.add_mul_emod_self_right, Int.emod_eq_of_lt hl ht]
    refine ⟨by unfold val; rw [hS.ql]; exact e1, ?_⟩
    unfold val
    rw [hn2, ← e2]
    exact vt_same n fun k hk => getD_take' hk
  clear hVlow htop0 hvv huu huV hvV hdiv hmod hs1 hs2 hAm hrv hru hlead
  generalize vt u (m + n) = U at *
  refine PW.loopA (fun J F H => ∃ u q, LongS u q U (vt v n) n m J ∧ J ≤ m ∧ F = loF v s n m J ∧ H = loH u q) m (loF v s n m m) (loH u (List.replicate m 0)) (Sub.trans (toData 8 0 0 n true rfl (show 0 + n ≤ v.length by omega)) (Sub.norm ⟨rfl, rfl, rfl, ?_, rfl, rfl, trivial⟩ ⟨rfl, rfl, trivial⟩ (Nat.le_refl _) rfl rfl rfl rfl (tyOk_spec rfl))) ⟨u, _, hstart, Nat.le_refl _, rfl, rfl⟩ ?_
  · show PV.ints .u64 ((v.drop 0).take n) = _
    rw [List.take_of_length_le (by rw [List.drop_zero]; omega), List.drop_zero]
  clear hstart hul huL
  clear u
  rintro J F H ⟨u, q, hS, hJ, rfl, rfl⟩
  have hul := hS.ul
  have hql := hS.ql
  cases J with
  | zero =>
    obtain ⟨f1, f2⟩ := hend u q hS
    have hsh := nat_shr_l (l := u.take n) (n := s) (limbs_take hS.ulim n) (by rw [List.length_take]; omega) f2 (by omega)
    rw [Nat.mul_div_cancel _ hPs] at hsh
    have htr := nat_trim q (by omega)
    rw [trim_eq hS.qlim, f1, Int.toNat_natCast] at htr
    generalize decide (A % B * 2 ^ s % 2 ^ s ≠ 0) = lost at *
    generalize natL (A / B) = rq at *
    generalize natL (A % B) = rr at *
    clear hS hend f1 f2 hvtop hVpos hVup
    repeat' first
      | (with_reducible first | refine PW.seq ?_ | refine PW.block ?_ | refine PW.fork ?_ | refine PW.skip ?_ | refine PW.exit ?_ | refine PW.ret ?_ | refine PW.scope ?_ | refine PW.label ?_ | refine PW.goto ?_) | (simp only [Int.sub_zero, Int.toNat_natCast])
      | (with_reducible refine PW.region ttOk ?_ ?_
         · rfl)
      | (with_reducible refine PW.regionD ttOk mixed ?_ ?_ ?_
         · rfl
         · rfl) | (with_reducible refine ifW_dec (fun g => ?_) (fun g => ?_) <;> first | (exfalso; omega) | (simp -dsimp only [g, wkI])) | (with_reducible refine condE_dec (fun g => ?_) (fun g => ?_) <;> try (exfalso; omega)) | (with_reducible refine condE_not (fun g => ?_) (fun g => ?_) <;> try (exfalso; omega)) | (simp -dsimp only [↓wkA, ↓wkE, ↓wkJ, wkB, ↓tt, Nat.reduceBEq, Nat.reduceEqDiff, ↓reduceIte, Nat.reduceLT, Array.toList, Nat.reduceAdd, Nat.reduceMul, Int.reduceToNat, Int.reducePow, UInt8.reduceToNat]) | (refine call_drop (args' := [.ints .u64 (u.take n), .int .i64 (s : Int)]) (by simp -dsimp only [↓wkA, ↓wkE, ↓wkJ, wkB, ↓tt, Nat.reduceBEq, Nat.reduceEqDiff, ↓reduceIte, Nat.reduceLT, Array.toList, Nat.reduceAdd, Nat.reduceMul, Int.reduceToNat, Int.reducePow, UInt8.reduceToNat]) hsh (by simp -dsimp only [okViews, ↓wkA, ↓wkE, ↓wkJ, wkB, ↓tt, Nat.reduceBEq, Nat.reduceEqDiff, ↓reduceIte, Nat.reduceLT, Array.toList, Nat.reduceAdd, Nat.reduceMul, Int.reduceToNat, Int.reducePow, UInt8.reduceToNat] <;> omega) rfl ?_; simp only [wkD, Nat.reduceBEq]) | (refine call_drop (args' := [.ints .u64 q]) (by simp -dsimp only [↓wkA, ↓wkE, ↓wkJ, wkB, ↓tt, Nat.reduceBEq, Nat.reduceEqDiff, ↓reduceIte, Nat.reduceLT, Array.toList, Nat.reduceAdd, Nat.reduceMul, Int.reduceToNat, Int.reducePow, UInt8.reduceToNat] <;> rw [List.take_of_length_le (by omega)]) htr (by simp -dsimp only [okViews, ↓wkA, ↓wkE, ↓wkJ, wkB, ↓tt, Nat.reduceBEq, Nat.reduceEqDiff, ↓reduceIte, Nat.reduceLT, Array.toList, Nat.reduceAdd, Nat.reduceMul, Int.reduceToNat, Int.reducePow, UInt8.reduceToNat] <;> omega) rfl ?_) | (simp -dsimp (disch := first | assumption | omega) only [dec_t, dec_f])
      | (refine And.intro ?_ ?_
         · first | omega | decide | (simp (disch := omega) only [wkW, Int.reduceToNat, Int.reducePow] <;> omega) | (simp <;> omega)) | (simp (disch := omega) only [wkW, Int.reduceToNat, Int.reducePow]) | fail
  | succ j =>
    have hpart := hS.part
    have hPs0 := (vt_bound (limbs_drop hS.ulim j) (n + 1)).1
    have hpl : ((u.drop j).take (n + 1)).length = n + 1 := by rw [List.length_take, List.length_drop, hul]; omega
    have hpvt : vt ((u.drop j).take (n + 1)) (n + 1) = vt (u.drop j) (n + 1) := vt_same _ fun k hk => getD_take' hk
    obtain ⟨X, hX⟩ : ∃ X, vt (u.drop j) (n + 1) = X := ⟨_, rfl⟩
    have hX0 := hX
    rw [hX] at hpart hPs0 hpvt
    have hqv : X / vt v n * vt v n ≤ X := Int.ediv_mul_le _ (by omega)
    have hq0 : 0 ≤ X / vt v n := Int.ediv_nonneg hPs0 (by omega)
    have hqlt : X < (X / vt v n + 1) * vt v n := by
      have := Int.lt_ediv_add_one_mul_self X hVpos
      exact this
    obtain ⟨qd, hqd⟩ : ∃ qd, X / vt v n = qd := ⟨_, rfl⟩
    rw [hqd] at hqv hq0 hqlt
    have hg := quot_guess ((u.drop j).take (n + 1)) v n (limbs_take (limbs_drop hS.ulim j) _) hvL hpl hvl (by omega) hvtop
    obtain ⟨g1, g2, g3⟩ := guess_ge (q := qd) (limbs_take (limbs_drop hS.ulim j) (n + 1)) hvL (show 1 ≤ n by omega) hvtop (by rw [hpvt]; exact hqv) (by rw [hpvt]; exact hpart)
    generalize guessV ((u.drop j).take (n + 1)) v n = d0 at *
    have hoff := take_off_h u v hS.ulim hvL d0 ⟨g2, g3⟩ j n hvl (by omega) (by omega) (by omega)
    have w6 : IntKind.wrap .i64 ((j : Int) + (n : Int)) = ((j + n : Nat) : Int) := wrap_i64 (by omega)
    have w7 : IntKind.wrap .i64 (((j + n : Nat) : Int) + 1) = ((j + n + 1 : Nat) : Int) := by rw [wrap_i64 (by omega)]; omega
    have w8 : IntKind.wrap .i64 ((j : Int) - 1) = (j : Int) - 1 := wrap_i64 (by omega)
    have e0 : (((j + 1 : Nat) : Int) - 1) = (j : Int) := by omega
    have e1 : (((j + n + 1 : Nat) : Int) - (j : Int)).toNat = n + 1 := by omega
    have hdig := fun u' d h1 h2 h3 h4 => hS.digit (u' := u') (d := d) (by omega) (by omega) hVup h1 h2 h3 h4
    rw [hX] at hoff hdig
    clear hend hpart hpl hpvt hX hqd
    repeat' first
      | (with_reducible first | refine PW.seq ?_ | refine PW.block ?_ | refine PW.fork ?_ | refine PW.skip ?_ | refine PW.exit ?_ | refine PW.ret ?_ | refine PW.scope ?_ | refine PW.label ?_ | refine PW.goto ?_) | (simp only [e0, e1, w6, w7, w8, Int.toNat_natCast, Nat.zero_add])
      | (with_reducible refine PW.region ttOk ?_ ?_
         · rfl)
      | (with_reducible refine PW.regionD ttOk mixed ?_ ?_ ?_
         · rfl
         · rfl) | (with_reducible refine ifW_dec (fun g => ?_) (fun g => ?_) <;> first | (exfalso; omega) | (simp -dsimp only [g, wkI])) | (with_reducible refine condE_dec (fun g => ?_) (fun g => ?_) <;> try (exfalso; omega)) | (with_reducible refine condE_not (fun g => ?_) (fun g => ?_) <;> try (exfalso; omega)) | (simp -dsimp only [↓wkA, ↓wkE, ↓wkJ, wkB, ↓tt, Nat.reduceBEq, Nat.reduceEqDiff, ↓reduceIte, Nat.reduceLT, Array.toList, Nat.reduceAdd, Nat.reduceMul, Int.reduceToNat, Int.reducePow, UInt8.reduceToNat]) | (refine call_by' (args' := [.ints .u64 ((u.drop j).take (n + 1)), .ints .u64 v]) (by simp -dsimp only [↓wkA, ↓wkE, ↓wkJ, wkB, ↓tt, Nat.reduceBEq, Nat.reduceEqDiff, ↓reduceIte, Nat.reduceLT, Array.toList, Nat.reduceAdd, Nat.reduceMul, Int.reduceToNat, Int.reducePow, UInt8.reduceToNat]) hg (by simp -dsimp only [okViews, ↓wkA, ↓wkE, ↓wkJ, wkB, ↓tt, Nat.reduceBEq, Nat.reduceEqDiff, ↓reduceIte, Nat.reduceLT, Array.toList, Nat.reduceAdd, Nat.reduceMul, Int.reduceToNat, Int.reducePow, UInt8.reduceToNat] <;> omega) rfl ?_) | (refine call_h (hoff 1 _ _ _ _ rfl) ?_; rintro _ _ ⟨l', b, hp1, hb0, hb1, hv1, rfl, rfl⟩; refine ⟨_, _, rfl, ?_⟩) | (simp -dsimp (disch := first | assumption | omega) only [dec_t, dec_f])
      | (refine And.intro ?_ ?_
         · first | omega | decide | (simp (disch := omega) only [wkW, Int.reduceToNat, Int.reducePow] <;> omega) | (simp <;> omega)) | (simp (disch := omega) only [wkW, Int.reduceToNat, Int.reducePow]) | fail
    have hXlt : X < B64 ^ (n + 1) := by
      have h1 := (vt_bound (limbs_drop hS.ulim j) (n + 1)).2
      rw [hX0] at h1
      exact h1
    have hb1' : (decide (b = 1) = true ↔ X < d0 * vt v n) ∧ vt (l'.drop j) (n + 1) = X - d0 * vt v n + (if decide (b = 1) = true then B64 ^ (n + 1) else 0) := by
      have hl1 := vt_bound (limbs_drop hp1.lim j) (n + 1)
      rcases (show b = 0 ∨ b = 1 by omega) with rfl | rfl
      · simp only [Int.mul_zero, Int.add_zero] at hv1
        simp
        omega
      · simp only [Int.mul_one] at hv1
        simp
        omega
    refine PW.loopA (fun k F H => ∃ u' d bl, k = (d - qd).toNat ∧ qd ≤ d ∧ d < B64 ∧ PartS u u' j (n + 1) ∧ (bl = true ↔ X < d * vt v n) ∧ vt (u'.drop j) (n + 1) = X - d * vt v n + (if bl = true then B64 ^ (n + 1) else 0) ∧ F = loG v s n m j d bl ∧ H = loH u' q) (d0 - qd).toNat (loG v s n m j d0 (decide (b = 1))) (loH l' q) (Sub.norm ⟨rfl, rfl, rfl, congrArg (PV.int .i64) e0, rfl, rfl, rfl, rfl, rfl, trivial⟩ ⟨rfl, rfl, trivial⟩ (Nat.le_refl _) rfl rfl rfl rfl) ⟨l', d0, _, rfl, g1, g3, hp1, hb1'.1, hb1'.2, rfl, rfl⟩ ?_
    clear hb1' hv1 hb0 hb1 hp1 g1 g2 g3 hoff hg l' b
    rintro k F H ⟨u', d, bl, hk, hqd1, hd, hp, hbl, hvt, rfl, rfl⟩
    cases bl with
    | false =>
      have hle : ¬ X < d * vt v n := fun h => by have := hbl.2 h; cases this
      have hdq : d = qd := by
        refine Int.le_antisymm (Int.le_of_not_gt fun h => ?_) hqd1
        have h1 : (qd + 1) * vt v n ≤ d * vt v n := Int.mul_le_mul_of_nonneg_right h (by omega)
        omega
      have hvt2 : vt (u'.drop j) (n + 1) = X - d * vt v n := by rw [hvt]; simp
      have hlt2 : vt (u'.drop j) (n + 1) < vt v n := by
        rw [hvt2, hdq]
        rw [Int.add_mul, Int.one_mul] at hqlt
        omega
      have hfin := hdig u' d hp ⟨by omega, hd⟩ hvt2 hlt2
      have hul' := hp.len
      clear hvt hvt2 hlt2 hdig hbl hp hqv hqlt hle hS
      repeat' first
        | (with_reducible first | refine PW.seq ?_ | refine PW.block ?_ | refine PW.fork ?_ | refine PW.skip ?_ | refine PW.exit ?_ | refine PW.ret ?_ | refine PW.scope ?_ | refine PW.label ?_ | refine PW.goto ?_) | (simp only [w8, Int.toNat_natCast])
        | (with_reducible refine PW.region ttOk ?_ ?_
           · rfl)
        | (with_reducible refine PW.regionD ttOk mixed ?_ ?_ ?_
           · rfl
           · rfl) | (with_reducible refine ifW_dec (fun g => ?_) (fun g => ?_) <;> first | (exfalso; omega) | (simp -dsimp only [g, wkI])) | (with_reducible refine condE_dec (fun g => ?_) (fun g => ?_) <;> try (exfalso; omega)) | (with_reducible refine condE_not (fun g => ?_) (fun g => ?_) <;> try (exfalso; omega)) | (simp -dsimp only [↓wkA, ↓wkE, ↓wkJ, wkB, ↓tt, Nat.reduceBEq, Nat.reduceEqDiff, ↓reduceIte, Nat.reduceLT, Array.toList, Nat.reduceAdd, Nat.reduceMul, Int.reduceToNat, Int.reducePow, UInt8.reduceToNat]) | (simp -dsimp (disch := first | assumption | omega) only [dec_t, dec_f])
        | (refine And.intro ?_ ?_
           · first | omega | decide | (simp (disch := omega) only [wkW, Int.reduceToNat, Int.reducePow] <;> omega) | (simp <;> omega)) | (simp (disch := omega) only [wkW, Int.reduceToNat, Int.reducePow]) | fail
      exact Again.mk j (loF v s n m j) (loH u' (q.set j d)) (by omega) (Sub.norm ⟨rfl, rfl, rfl, rfl, rfl, rfl, trivial⟩ ⟨rfl, rfl, trivial⟩ (Nat.le_refl _) rfl rfl rfl rfl) ⟨u', _, hfin, by omega, rfl, rfl⟩
    | true =>
      have hlt : X < d * vt v n := hbl.1 rfl
      have hd1 : qd + 1 ≤ d := by
        refine Int.lt_of_not_ge fun h => ?_
        have h1 : d * vt v n ≤ qd * vt v n := Int.mul_le_mul_of_nonneg_right h (by omega)
        omega
      have hw : IntKind.wrap .u64 (d - 1) = d - 1 := wrap_u64 (by simp only [B64] at hd; omega)
      have hul' := hp.len
      have hback := put_back_h u' v hp.lim hvL j n hvl (by omega) (by omega) (by omega)
      have hstep : ∀ l' c, PartS u' l' j (n + 1) → 0 ≤ c → c ≤ 1 → vt (l'.drop j) (n + 1) + B64 ^ (n + 1) * c = vt (u'.drop j) (n + 1) + vt v n → ((!decide (c = 1)) = true ↔ X < (d - 1) * vt v n) ∧ vt (l'.drop j) (n + 1) = X - (d - 1) * vt v n + (if (!decide (c = 1)) = true then B64 ^ (n + 1) else 0) := fun l' c hpl hc0 hc1 hv1 => by
        have hl1 := vt_bound (limbs_drop hpl.lim j) (n + 1)
        rw [hvt, if_pos rfl] at hv1
        have e : (d - 1) * vt v n = d * vt v n - vt v n := by rw [Int.sub_mul, Int.one_mul]
        rw [e]
        rcases (show c = 0 ∨ c = 1 by omega) with rfl | rfl
        · simp only [Int.mul_zero, Int.add_zero] at hv1
          simp
          omega
        · simp only [Int.mul_one] at hv1
          simp
          omega
      clear hdig hbl hvt hlt hqv hqlt hS
      repeat' first
        | (with_reducible first | refine PW.seq ?_ | refine PW.block ?_ | refine PW.fork ?_ | refine PW.skip ?_ | refine PW.exit ?_ | refine PW.ret ?_ | refine PW.scope ?_ | refine PW.label ?_ | refine PW.goto ?_) | (simp only [hw, Int.toNat_natCast])
        | (with_reducible refine PW.region ttOk ?_ ?_
           · rfl)
        | (with_reducible refine PW.regionD ttOk mixed ?_ ?_ ?_
           · rfl
           · rfl) | (with_reducible refine ifW_dec (fun g => ?_) (fun g => ?_) <;> first | (exfalso; omega) | (simp -dsimp only [g, wkI])) | (with_reducible refine condE_dec (fun g => ?_) (fun g => ?_) <;> try (exfalso; omega)) | (with_reducible refine condE_not (fun g => ?_) (fun g => ?_) <;> try (exfalso; omega)) | (simp -dsimp only [↓wkA, ↓wkE, ↓wkJ, wkB, ↓tt, Nat.reduceBEq, Nat.reduceEqDiff, ↓reduceIte, Nat.reduceLT, Array.toList, Nat.reduceAdd, Nat.reduceMul, Int.reduceToNat, Int.reducePow, UInt8.reduceToNat]) | (refine call_h (hback 1 _ _ _ _ rfl) ?_; rintro _ _ ⟨l', c, hp1, hc0, hc1, hv1, rfl, rfl⟩; refine ⟨_, _, rfl, ?_⟩) | (simp -dsimp (disch := first | assumption | omega) only [dec_t, dec_f])
        | (refine And.intro ?_ ?_
           · first | omega | decide | (simp (disch := omega) only [wkW, Int.reduceToNat, Int.reducePow] <;> omega) | (simp <;> omega)) | (simp (disch := omega) only [wkW, Int.reduceToNat, Int.reducePow]) | fail
      obtain ⟨k1, k2⟩ := hstep l' c hp1 hc0 hc1 hv1
      exact Again.mk (d - 1 - qd).toNat (loG v s n m j (d - 1) (!decide (c = 1))) (loH l' q) (by omega) (Sub.norm ⟨rfl, rfl, rfl, rfl, rfl, rfl, rfl, rfl, rfl, trivial⟩ ⟨rfl, rfl, trivial⟩ (Nat.le_refl _) rfl rfl rfl rfl) ⟨l', _, _, rfl, by omega, by omega, hp.trans hp1, k1, k2, rfl, rfl⟩
theorem small_nat {u : Nat} (hu : u < NMax) : Meets Tryz.prog 155 [.ints .u64 (natL u), .int .i64 4096] (.tup [.ints .u64 (natL u), .bool true]) := by
  have hl := natL_small hu
  have h := nat_trim (natL u) (by omega)
  rw [trim_natL] at h
  have hd : decide (((natL u).length : Int) ≤ 4096) = true := decide_eq_true (by omega)
  generalize natL u = a at *
  refine meets_by ttOk Tryz.func155 Tryz.ntmps155 Tryz.results155 (by kernel_rfl) (c := _) rfl rfl rfl fun E => ?_
  simp only [argsFrame]
  repeat' first
    | (with_reducible first | refine PW.seq ?_ | refine PW.block ?_ | refine PW.fork ?_ | refine PW.skip ?_ | refine PW.exit ?_ | refine PW.ret ?_ | refine PW.scope ?_ | refine PW.label ?_ | refine PW.goto ?_) | (simp only [hd])
    | (with_reducible refine PW.region ttOk ?_ ?_
       · rfl)
    | (with_reducible refine PW.regionD ttOk mixed ?_ ?_ ?_
       · rfl
       · rfl) | (with_reducible refine ifW_dec (fun g => ?_) (fun g => ?_) <;> first | (exfalso; omega) | (simp -dsimp only [g, wkI])) | (with_reducible refine condE_dec (fun g => ?_) (fun g => ?_) <;> try (exfalso; omega)) | (with_reducible refine condE_not (fun g => ?_) (fun g => ?_) <;> try (exfalso; omega)) | (simp -dsimp only [↓wkA, ↓wkE, ↓wkJ, wkB, ↓tt, Nat.reduceBEq, Nat.reduceEqDiff, ↓reduceIte, Nat.reduceLT, Array.toList, Nat.reduceAdd, Nat.reduceMul, Int.reduceToNat, Int.reducePow, UInt8.reduceToNat]) | (refine call_by (h) (views_data rfl) ⟨trivial, trivial⟩ rfl ?_) | (simp -dsimp (disch := first | assumption | omega) only [dec_t, dec_f])
    | (refine And.intro ?_ ?_
       · first | omega | decide | (simp (disch := omega) only [wkW, Int.reduceToNat, Int.reducePow] <;> omega) | (simp <;> omega)) | (simp (disch := omega) only [wkW, Int.reduceToNat, Int.reducePow]) | fail
theorem div_mod {u v : Nat} (hu : u < NMax) (hv : v < NMax) (hv0 : v ≠ 0) : Meets Tryz.prog 147 [.ints .u64 (natL u), .ints .u64 (natL v)] (.tup [.ints .u64 (natL (u / v)), .ints .u64 (natL (u % v)), .int .i64 0]) := by
  have h1 := small_nat hu
  have h2 := small_nat hv
  have h3 := cmp_nat hu hv
  have hlu := natL_small hu
  have hlv := natL_small hv
  obtain ⟨hv1, hv2⟩ := natL_ge hv0
  have hl0 : decide (((natL v).length : Int) = 0) = false := decide_eq_false (by omega)
  by_cases hlt : u < v
  · rw [if_pos hlt] at h3
    rw [Nat.div_eq_of_lt hlt, Nat.mod_eq_of_lt hlt, natL_zero]
    refine Meets.nil_head .u64 ?_
    generalize natL u = a at *
    generalize natL v = b at *
    refine meets_by ttOk Tryz.func147 Tryz.ntmps147 Tryz.results147 (by kernel_rfl) (c := _) rfl rfl rfl fun E => ?_
    simp only [argsFrame]
    repeat' first
      | (with_reducible first | refine PW.seq ?_ | refine PW.block ?_ | refine PW.fork ?_ | refine PW.skip ?_ | refine PW.exit ?_ | refine PW.ret ?_ | refine PW.scope ?_ | refine PW.label ?_ | refine PW.goto ?_) | (simp only [hl0])
      | (with_reducible refine PW.region ttOk ?_ ?_
         · rfl)
      | (with_reducible refine PW.regionD ttOk mixed ?_ ?_ ?_
         · rfl
         · rfl) | (with_reducible refine ifW_dec (fun g => ?_) (fun g => ?_) <;> first | (exfalso; omega) | (simp -dsimp only [g, wkI])) | (with_reducible refine condE_dec (fun g => ?_) (fun g => ?_) <;> try (exfalso; omega)) | (with_reducible refine condE_not (fun g => ?_) (fun g => ?_) <;> try (exfalso; omega)) | (simp -dsimp only [↓wkA, ↓wkE, ↓wkJ, wkB, ↓tt, Nat.reduceBEq, Nat.reduceEqDiff, ↓reduceIte, Nat.reduceLT, Array.toList, Nat.reduceAdd, Nat.reduceMul, Int.reduceToNat, Int.reducePow, UInt8.reduceToNat]) | (refine call_by (h1) (views_data rfl) ⟨trivial, trivial, trivial⟩ rfl ?_) | (refine call_by (h2) (views_data rfl) ⟨trivial, trivial, trivial⟩ rfl ?_) | (refine call_by (h3) (views_data rfl) ⟨trivial, trivial, trivial⟩ rfl ?_) | (simp -dsimp (disch := first | assumption | omega) only [dec_t, dec_f])
      | (refine And.intro ?_ ?_
         · first | omega | decide | (simp (disch := omega) only [wkW, Int.reduceToNat, Int.reducePow] <;> omega) | (simp <;> omega)) | (simp (disch := omega) only [wkW, Int.reduceToNat, Int.reducePow]) | fail
  · rw [if_neg hlt] at h3
    have h3' : ∃ c : Int, 0 ≤ c ∧ Meets Tryz.prog 62 [.ints .u64 (natL u), .ints .u64 (natL v)] (.int .i64 c) := ⟨_, by split <;> decide, h3⟩
    clear h3
    obtain ⟨c, hc, h3⟩ := h3'
    have hcd : decide (c < 0) = false := decide_eq_false (by omega)
    by_cases hone : (natL v).length = 1
    · have hv64 : v < 18446744073709551616 := by have := natL_lt v; rw [hone, Nat.pow_one] at this; exact this
      have hd1 : decide (((natL v).length : Int) = 1) = true := decide_eq_true (by omega)
      have hds := div_small_nat hu ⟨by omega, hv64⟩
      have hfu := from_uint (u % v) (Nat.lt_trans (Nat.mod_lt u (by omega)) hv64)
      rw [natL_one v ⟨by omega, hv64⟩] at h2 h3 hl0 hd1 ⊢
      generalize natL (u % v) = rr at *
      generalize natL (u / v) = rq at *
      generalize natL u = a at *
      refine meets_by ttOk Tryz.func147 Tryz.ntmps147 Tryz.results147 (by kernel_rfl) (c := _) rfl rfl rfl fun E => ?_
      simp only [argsFrame]
      repeat' first
        | (with_reducible first | refine PW.seq ?_ | refine PW.block ?_ | refine PW.fork ?_ | refine PW.skip ?_ | refine PW.exit ?_ | refine PW.ret ?_ | refine PW.scope ?_ | refine PW.label ?_ | refine PW.goto ?_) | (simp only [hcd])
        | (with_reducible refine PW.region ttOk ?_ ?_
           · rfl)
        | (with_reducible refine PW.regionD ttOk mixed ?_ ?_ ?_
           · rfl
           · rfl) | (with_reducible refine ifW_dec (fun g => ?_) (fun g => ?_) <;> first | (exfalso; omega) | (simp -dsimp only [g, wkI])) | (with_reducible refine condE_dec (fun g => ?_) (fun g => ?_) <;> try (exfalso; omega)) | (with_reducible refine condE_not (fun g => ?_) (fun g => ?_) <;> try (exfalso; omega)) | (simp -dsimp only [↓wkA, ↓wkE, ↓wkJ, wkB, ↓tt, Nat.reduceBEq, Nat.reduceEqDiff, ↓reduceIte, Nat.reduceLT, Array.toList, Nat.reduceAdd, Nat.reduceMul, Int.reduceToNat, Int.reducePow, UInt8.reduceToNat]) | (refine call_by (h1) (views_data rfl) ⟨trivial, trivial, trivial⟩ rfl ?_) | (refine call_by (h2) (views_data rfl) ⟨trivial, trivial, trivial⟩ rfl ?_) | (refine call_by (h3) (views_data rfl) ⟨trivial, trivial, trivial⟩ rfl ?_) | (refine call_by (hds) (views_data rfl) ⟨trivial, trivial, trivial⟩ rfl ?_) | (refine call_by (hfu) (views_data rfl) ⟨trivial, trivial⟩ rfl ?_) | (simp -dsimp (disch := first | assumption | omega) only [dec_t, dec_f])
        | (refine And.intro ?_ ?_
           · first | omega | decide | (simp (disch := omega) only [wkW, Int.reduceToNat, Int.reducePow] <;> omega) | (simp <;> omega)) | (simp (disch := omega) only [wkW, Int.reduceToNat, Int.reducePow]) | fail
    · have hd1 : decide (((natL v).length : Int) = 1) = false := decide_eq_false (by omega)
      have hle : (natL v).length ≤ (natL u).length := natL_mono (by omega)
      have htop : 0 < (natL v).getD ((natL v).length - 1) 0 := by
        rw [natL_getD]
        have h1 := natL_lt v
        have h2 : 0 < v / 18446744073709551616 ^ ((natL v).length - 1) := Nat.div_pos hv2 (Nat.pow_pos (by decide))
        have h3 : v / 18446744073709551616 ^ ((natL v).length - 1) < 18446744073709551616 := by
          rw [Nat.div_lt_iff_lt_mul (Nat.pow_pos (by decide)), ← Nat.pow_succ', show ((natL v).length - 1).succ = (natL v).length by omega]
          exact h1
        rw [Nat.mod_eq_of_lt h3]
        omega
      have hlo := quot_long (natL u) (natL v) (natL_limbs u) (natL_limbs v) (natL v).length ((natL u).length + 1 - (natL v).length) rfl (by omega) (by omega) (by omega) (by omega) htop u v (val_natL u) (val_natL v) (by omega) (natL_lt u) (Nat.lt_of_le_of_lt (Nat.div_le_self _ _) hu)
      generalize natL (u % v) = rr at *
      generalize natL (u / v) = rq at *
      clear htop hv2 hle
      generalize natL u = a at *
      generalize natL v = b at *
      refine meets_by ttOk Tryz.func147 Tryz.ntmps147 Tryz.results147 (by kernel_rfl) (c := _) rfl rfl rfl fun E => ?_
      simp only [argsFrame]
      repeat' first
        | (with_reducible first | refine PW.seq ?_ | refine PW.block ?_ | refine PW.fork ?_ | refine PW.skip ?_ | refine PW.exit ?_ | refine PW.ret ?_ | refine PW.scope ?_ | refine PW.label ?_ | refine PW.goto ?_) | (simp only [hcd, hl0, hd1])
        | (with_reducible refine PW.region ttOk ?_ ?_
           · rfl)
        | (with_reducible refine PW.regionD ttOk mixed ?_ ?_ ?_
           · rfl
           · rfl) | (with_reducible refine ifW_dec (fun g => ?_) (fun g => ?_) <;> first | (exfalso; omega) | (simp -dsimp only [g, wkI])) | (with_reducible refine condE_dec (fun g => ?_) (fun g => ?_) <;> try (exfalso; omega)) | (with_reducible refine condE_not (fun g => ?_) (fun g => ?_) <;> try (exfalso; omega)) | (simp -dsimp only [↓wkA, ↓wkE, ↓wkJ, wkB, ↓tt, Nat.reduceBEq, Nat.reduceEqDiff, ↓reduceIte, Nat.reduceLT, Array.toList, Nat.reduceAdd, Nat.reduceMul, Int.reduceToNat, Int.reducePow, UInt8.reduceToNat]) | (refine call_by (h1) (views_data rfl) ⟨trivial, trivial, trivial⟩ rfl ?_) | (refine call_by (h2) (views_data rfl) ⟨trivial, trivial, trivial⟩ rfl ?_) | (refine call_by (h3) (views_data rfl) ⟨trivial, trivial, trivial⟩ rfl ?_) | (refine call_by (hlo) (views_data rfl) ⟨trivial, trivial, trivial⟩ rfl ?_) | (simp -dsimp (disch := first | assumption | omega) only [dec_t, dec_f])
        | (refine And.intro ?_ ?_
           · first | omega | decide | (simp (disch := omega) only [wkW, Int.reduceToNat, Int.reducePow] <;> omega) | (simp <;> omega)) | (simp (disch := omega) only [wkW, Int.reduceToNat, Int.reducePow]) | fail
theorem ieee_near (e : Int) (he : -1000000 ≤ e ∧ e ≤ 1000000) : Meets Tryz.prog 149 [.int .i64 e] (.int .i64 e) := by
  have h1 : (if e < 1099511627776 then e else (1099511627776 : Int)) = e := if_pos (by omega)
  have h2 : (if e > -1099511627776 then e else (-1099511627776 : Int)) = e := if_pos (by omega)
  refine meets_by ttOk Tryz.func149 Tryz.ntmps149 Tryz.results149 (by kernel_rfl) (c := _) rfl rfl rfl fun E => ?_
  simp only [argsFrame]
  repeat' first
    | (with_reducible first | refine PW.seq ?_ | refine PW.block ?_ | refine PW.fork ?_ | refine PW.skip ?_ | refine PW.exit ?_ | refine PW.ret ?_ | refine PW.scope ?_ | refine PW.label ?_ | refine PW.goto ?_) | (simp only [h1, h2])
    | (with_reducible refine PW.region ttOk ?_ ?_
       · rfl)
    | (with_reducible refine PW.regionD ttOk mixed ?_ ?_ ?_
       · rfl
       · rfl) | (with_reducible refine ifW_dec (fun g => ?_) (fun g => ?_) <;> first | (exfalso; omega) | (simp -dsimp only [g, wkI])) | (with_reducible refine condE_dec (fun g => ?_) (fun g => ?_) <;> try (exfalso; omega)) | (with_reducible refine condE_not (fun g => ?_) (fun g => ?_) <;> try (exfalso; omega)) | (simp -dsimp only [↓wkA, ↓wkE, ↓wkJ, wkB, ↓tt, Nat.reduceBEq, Nat.reduceEqDiff, ↓reduceIte, Nat.reduceLT, Array.toList, Nat.reduceAdd, Nat.reduceMul, Int.reduceToNat, Int.reducePow, UInt8.reduceToNat]) | (simp -dsimp (disch := first | assumption | omega) only [dec_t, dec_f])
    | (refine And.intro ?_ ?_
       · first | omega | decide | (simp (disch := omega) only [wkW, Int.reduceToNat, Int.reducePow] <;> omega) | (simp <;> omega)) | (simp (disch := omega) only [wkW, Int.reduceToNat, Int.reducePow]) | fail
theorem mag_walk_cut (n : Nat) (hn : n < NMax) (hn0 : n ≠ 0) (e T U : Int) (he : -1000000 ≤ e ∧ e ≤ 1000000) (hT : (bitlen n : Int) + e = T) (hT1 : -1074 ≤ T ∧ T ≤ 1024) (hU : (T - 53 < -1074 ∧ U = -1074) ∨ (-1074 ≤ T - 53 ∧ U = T - 53)) (mv k : Nat) (hmv : (mv : Int) = U - e) (hmv1 : 1 ≤ mv) (hk : (k : Int) = U + 1074) (more : Bool) (t m : Nat) (hd : n = 2 ^ t * (2 * m + 1)) (R : Nat) (hm0 : n / 2 ^ mv < 9007199254740992)
    (hR : (upB more n mv → R = n / 2 ^ mv + 1 + k * 4503599627370496) ∧ (¬ upB more n mv → R = n / 2 ^ mv + k * 4503599627370496)) :
    Meets Tryz.prog 148 [.ints .u64 (natL n), .int .i64 e, .bool more] (.int .u64 (R : Int)) := by
  have hbl := nat_bitlen n hn
  have hshr := nat_shr (n := mv) hn (by omega)
  have hto := to_uint (n / 2 ^ mv) (by omega)
  have hbit := bit_nat n (mv - 1) hn (by omega)
  have htr := nat_trail hn hd
  have hup : upB more n mv ↔ n / 2 ^ (mv - 1) % 2 = 1 ∧ (more = true ∨ n / 2 ^ mv % 2 = 1 ∨ t < mv - 1) := by
    unfold upB; rw [lost_iff hd (mv - 1)]
  have hlen : decide (((natL n).length : Int) = 0) = false := decide_eq_false (by have := (natL_ge hn0).1; omega)
  have w1 : IntKind.wrap .i64 ((bitlen n : Int) + e) = T := by rw [hT]; exact wrap_i64 (by omega)
  have w2 : IntKind.wrap .i64 (T - 53) = T - 53 := wrap_i64 (by omega)
  have w3 : (if (-1074 : Int) > T - 53 then (-1074 : Int) else T - 53) = U := by
    rcases hU with ⟨h1, h2⟩ | ⟨h1, h2⟩
    · rw [if_pos (by omega), h2]
    · rw [if_neg (by omega), h2]
  have w4 : IntKind.wrap .i64 (U - e) = (mv : Int) := by rw [← hmv]; exact wrap_i64 (by omega)
  have w5 : IntKind.wrap .i64 ((mv : Int) - 1) = ((mv - 1 : Nat) : Int) := by rw [wrap_i64 (by omega)]; omega
  have w6 : IntKind.wrap .i64 (U - -1074) = (k : Int) := by rw [wrap_i64 (by omega)]; omega
  have w7 : IntKind.wrap .u64 (k : Int) = (k : Int) := wrap_u64 (by omega)
  have w8 : IntKind.wrap .u64 ((k : Int) * 2 ^ min 52 64) = ((k * 4503599627370496 : Nat) : Int) := by
    rw [show (2 : Int) ^ min 52 64 = 4503599627370496 from rfl, wrap_u64 (by omega)]; omega
  have d1 : decide (T < -1074) = false := decide_eq_false (by omega)
  have d2 : decide (1024 < T) = false := decide_eq_false (by omega)
  have d3 : decide ((mv : Int) ≤ 0) = false := decide_eq_false (by omega)
  have hand := and_low 1 (by decide) (a := ((n / 2 ^ mv : Nat) : Int)) ⟨Int.natCast_nonneg _, Int.ofNat_lt.2 (Nat.lt_trans hm0 (by decide))⟩
  have e1 : (((2 ^ 1 - 1 : Nat)) : Int) = 1 := rfl
  have e2 : ((n / 2 ^ mv : Nat) : Int) % 2 ^ 1 = ((n / 2 ^ mv % 2 : Nat) : Int) := by rw [Int.natCast_emod]; rfl
  rw [e1, e2] at hand
  have hbl2 : n / 2 ^ (mv - 1) % 2 < 2 := Nat.mod_lt _ (by decide)
  have hodd2 : n / 2 ^ mv % 2 < 2 := Nat.mod_lt _ (by decide)
  rw [hup] at hR
  clear hd hup hn hn0 hU
  generalize decide (n % 2 ^ mv ≠ 0) = lost at *
  generalize n / 2 ^ (mv - 1) % 2 = b0 at *
  obtain ⟨o0, ho0⟩ : ∃ o0, n / 2 ^ mv % 2 = o0 := ⟨_, rfl⟩
  rw [ho0] at hand hodd2 hR
  clear ho0
  generalize n / 2 ^ mv = m0 at *
  generalize (bitlen n : Int) = bl at *
  generalize natL m0 = lm at *
  generalize natL n = a at *
  have w9 : IntKind.wrap .u64 ((m0 : Int) + 1) = ((m0 + 1 : Nat) : Int) := by rw [wrap_u64 (by omega)]; omega
  have w10 : IntKind.wrap .u64 (((k * 4503599627370496 : Nat) : Int) + (m0 : Int)) = ((m0 + k * 4503599627370496 : Nat) : Int) := by rw [wrap_u64 (by omega)]; omega
  have w11 : IntKind.wrap .u64 (((k * 4503599627370496 : Nat) : Int) + ((m0 + 1 : Nat) : Int)) = ((m0 + 1 + k * 4503599627370496 : Nat) : Int) := by rw [wrap_u64 (by omega)]; omega
  cases more
  all_goals (refine meets_by ttOk Tryz.func148 Tryz.ntmps148 Tryz.results148 (by kernel_rfl) (c := _) rfl rfl rfl fun E => ?_; simp only [argsFrame])
  all_goals
    repeat' first
      | (with_reducible first | refine PW.seq ?_ | refine PW.block ?_ | refine PW.fork ?_ | refine PW.skip ?_ | refine PW.exit ?_ | refine PW.ret ?_ | refine PW.scope ?_ | refine PW.label ?_ | refine PW.goto ?_) | (simp only [w1, w2, w3, w4, w5, w6, w7, w8, w9, w10, w11, d1, d2, d3, hlen, hand])
      | (with_reducible refine PW.region ttOk ?_ ?_
         · rfl)
      | (with_reducible refine PW.regionD ttOk mixed ?_ ?_ ?_
         · rfl
         · rfl) | (with_reducible refine ifW_dec (fun g => ?_) (fun g => ?_) <;> first | (exfalso; omega) | (simp -dsimp only [g, wkI])) | (with_reducible refine condE_dec (fun g => ?_) (fun g => ?_) <;> try (exfalso; omega)) | (with_reducible refine condE_not (fun g => ?_) (fun g => ?_) <;> try (exfalso; omega)) | (simp -dsimp only [↓wkA, ↓wkE, ↓wkJ, wkB, ↓tt, Nat.reduceBEq, Nat.reduceEqDiff, ↓reduceIte, Nat.reduceLT, Array.toList, Nat.reduceAdd, Nat.reduceMul, Int.reduceToNat, Int.reducePow, UInt8.reduceToNat]) | (refine call_by (hbl) (views_data rfl) ⟨trivial, trivial⟩ rfl ?_) | (refine call_by (hshr) (views_data rfl) ⟨trivial, trivial, trivial⟩ rfl ?_) | (refine call_by (hto) (views_data rfl) ⟨trivial, trivial⟩ rfl ?_) | (refine call_by (hbit) (views_data rfl) ⟨trivial, trivial, trivial⟩ rfl ?_) | (refine call_by (htr) (views_data rfl) ⟨trivial, trivial⟩ rfl ?_) | (simp -dsimp (disch := first | assumption | omega) only [dec_t, dec_f])
      | (refine And.intro ?_ ?_
         · first | omega | decide | (simp (disch := omega) only [wkW, Int.reduceToNat, Int.reducePow] <;> omega) | (simp <;> omega)) | (simp (disch := omega) only [wkW, Int.reduceToNat, Int.reducePow]) | fail
  all_goals (refine congrArg (fun x : Nat => PV.int .u64 (x : Int)) ?_; simp only [Bool.false_eq_true, false_or, true_or, and_true] at hR; omega)
theorem mag_walk_whole (n : Nat) (hn : n < 9007199254740992) (hn0 : n ≠ 0) (e T U : Int) (he : -1000000 ≤ e ∧ e ≤ 1000000) (hT : (bitlen n : Int) + e = T) (hT1 : -1074 ≤ T ∧ T ≤ 1024) (hU : (T - 53 < -1074 ∧ U = -1074) ∨ (-1074 ≤ T - 53 ∧ U = T - 53)) (s k : Nat) (hs : (s : Int) = e - U) (hs2 : n * 2 ^ s < 9007199254740992) (hk : (k : Int) = U + 1074) :
    Meets Tryz.prog 148 [.ints .u64 (natL n), .int .i64 e, .bool false] (.int .u64 ((n * 2 ^ s + k * 4503599627370496 : Nat) : Int)) := by
  have hbl := nat_bitlen n (nmax_of (k := 53) (by simpa using hn) (by decide))
  have hbb := bitlen_spec hn0
  obtain ⟨j, hj, _, _⟩ := hbb
  have hs53 : s ≤ 53 := by
    refine Nat.le_of_not_lt fun h => ?_
    have h1 : 2 ^ 54 ≤ 2 ^ s := Nat.pow_le_pow_right (by decide) h
    have h2 : 1 * 2 ^ s ≤ n * 2 ^ s := Nat.mul_le_mul_right _ (by omega)
    omega
  rw [natL_one n ⟨by omega, by omega⟩] at hbl ⊢
  have w1 : IntKind.wrap .i64 ((bitlen n : Int) + e) = T := by rw [hT]; exact wrap_i64 (by omega)
  have w2 : IntKind.wrap .i64 (T - 53) = T - 53 := wrap_i64 (by omega)
  have w3 : (if (-1074 : Int) > T - 53 then (-1074 : Int) else T - 53) = U := by
    rcases hU with ⟨h1, h2⟩ | ⟨h1, h2⟩
    · rw [if_pos (by omega), h2]
    · rw [if_neg (by omega), h2]
  have w4 : IntKind.wrap .i64 (U - e) = -(s : Int) := by rw [wrap_i64 (by omega)]; omega
  have w5 : IntKind.wrap .i64 (0 - -(s : Int)) = (s : Int) := by rw [wrap_i64 (by omega)]; omega
  have w5' : IntKind.wrap .u64 (s : Int) = (s : Int) := wrap_u64 (by omega)
  have w6 : IntKind.wrap .i64 (U - -1074) = (k : Int) := by rw [wrap_i64 (by omega)]; omega
  have w7 : IntKind.wrap .u64 (k : Int) = (k : Int) := wrap_u64 (by omega)
  have w8 : IntKind.wrap .u64 ((k : Int) * 2 ^ min 52 64) = ((k * 4503599627370496 : Nat) : Int) := by
    rw [show (2 : Int) ^ min 52 64 = 4503599627370496 from rfl, wrap_u64 (by omega)]; omega
  have w9 : IntKind.wrap .u64 ((n : Int) * 2 ^ min s 64) = ((n * 2 ^ s : Nat) : Int) := by
    have e1 : (n : Int) * 2 ^ s = ((n * 2 ^ s : Nat) : Int) := by rw [Int.natCast_mul, Int.natCast_pow]; rfl
    rw [Nat.min_eq_left (by omega), e1]
    generalize n * 2 ^ s = x at *
    exact wrap_u64 (by omega)
  have d1 : decide (T < -1074) = false := decide_eq_false (by omega)
  have d2 : decide (1024 < T) = false := decide_eq_false (by omega)
  have d3 : decide (-(s : Int) ≤ 0) = true := decide_eq_true (by omega)
  clear hU
  generalize n * 2 ^ s = ns at *
  generalize (bitlen n : Int) = bl at *
  have w10 : IntKind.wrap .u64 (((k * 4503599627370496 : Nat) : Int) + (ns : Int)) = ((ns + k * 4503599627370496 : Nat) : Int) := by rw [wrap_u64 (by omega)]; omega
  refine meets_by ttOk Tryz.func148 Tryz.ntmps148 Tryz.results148 (by kernel_rfl) (c := _) rfl rfl rfl fun E => ?_
  simp only [argsFrame]
  repeat' first
    | (with_reducible first | refine PW.seq ?_ | refine PW.block ?_ | refine PW.fork ?_ | refine PW.skip ?_ | refine PW.exit ?_ | refine PW.ret ?_ | refine PW.scope ?_ | refine PW.label ?_ | refine PW.goto ?_) | (simp only [w1, w2, w3, w4, w5, w5', w6, w7, w8, w9, w10, d1, d2, d3, Int.toNat_natCast])
    | (with_reducible refine PW.region ttOk ?_ ?_
       · rfl)
    | (with_reducible refine PW.regionD ttOk mixed ?_ ?_ ?_
       · rfl
       · rfl) | (with_reducible refine ifW_dec (fun g => ?_) (fun g => ?_) <;> first | (exfalso; omega) | (simp -dsimp only [g, wkI])) | (with_reducible refine condE_dec (fun g => ?_) (fun g => ?_) <;> try (exfalso; omega)) | (with_reducible refine condE_not (fun g => ?_) (fun g => ?_) <;> try (exfalso; omega)) | (simp -dsimp only [↓wkA, ↓wkE, ↓wkJ, wkB, ↓tt, Nat.reduceBEq, Nat.reduceEqDiff, ↓reduceIte, Nat.reduceLT, Array.toList, Nat.reduceAdd, Nat.reduceMul, Int.reduceToNat, Int.reducePow, UInt8.reduceToNat]) | (refine call_by (hbl) (views_data rfl) ⟨trivial, trivial⟩ rfl ?_) | (simp -dsimp (disch := first | assumption | omega) only [dec_t, dec_f])
    | (refine And.intro ?_ ?_
       · first | omega | decide | (simp (disch := omega) only [wkW, Int.reduceToNat, Int.reducePow] <;> omega) | (simp <;> omega)) | (simp (disch := omega) only [wkW, Int.reduceToNat, Int.reducePow]) | fail
theorem magnitude_ok {n : Nat} (hn : n < NMax) (e : Int) (he : -700000 ≤ e ∧ e ≤ 700000) (more : Bool) {N D : Nat} (hD : 0 < D) (hr : RelR more n (e + 1074).toNat (-(e + 1074)).toNat N D) (hm : more = true → 9007199254740992 ≤ n) :
    Meets Tryz.prog 148 [.ints .u64 (natL n), .int .i64 e, .bool more] (.int .u64 (rndU N D : Int)) := by
  have hnb : bitlen n ≤ 262144 := bitlen_le (by rw [← nmax_two]; exact hn)
  have hbl := nat_bitlen n hn
  by_cases hn0 : n = 0
  · subst hn0
    have hN : N = 0 := by
      rcases hr with ⟨_, h⟩ | ⟨h, _⟩
      · rw [Nat.zero_mul] at h
        exact (Nat.mul_eq_zero.1 h).resolve_right (Nat.ne_of_gt (Nat.two_pow_pos _))
      · exact absurd (hm h) (by decide)
    subst hN
    rw [rndU_zero hD, natL_zero] at *
    clear hr hm
    have w1 : IntKind.wrap .i64 (((bitlen 0 : Nat) : Int) + e) = e := by rw [show ((bitlen 0 : Nat) : Int) = 0 from rfl, Int.zero_add]; exact wrap_i64 (by omega)
    refine meets_by ttOk Tryz.func148 Tryz.ntmps148 Tryz.results148 (by kernel_rfl) (c := _) rfl rfl rfl fun E => ?_
    simp only [argsFrame]
    repeat' first
      | (with_reducible first | refine PW.seq ?_ | refine PW.block ?_ | refine PW.fork ?_ | refine PW.skip ?_ | refine PW.exit ?_ | refine PW.ret ?_ | refine PW.scope ?_ | refine PW.label ?_ | refine PW.goto ?_) | (simp only [w1])
      | (with_reducible refine PW.region ttOk ?_ ?_
         · rfl)
      | (with_reducible refine PW.regionD ttOk mixed ?_ ?_ ?_
         · rfl
         · rfl) | (with_reducible refine ifW_dec (fun g => ?_) (fun g => ?_) <;> first | (exfalso; omega) | (simp -dsimp only [g, wkI])) | (with_reducible refine condE_dec (fun g => ?_) (fun g => ?_) <;> try (exfalso; omega)) | (with_reducible refine condE_not (fun g => ?_) (fun g => ?_) <;> try (exfalso; omega)) | (simp -dsimp only [↓wkA, ↓wkE, ↓wkJ, wkB, ↓tt, Nat.reduceBEq, Nat.reduceEqDiff, ↓reduceIte, Nat.reduceLT, Array.toList, Nat.reduceAdd, Nat.reduceMul, Int.reduceToNat, Int.reducePow, UInt8.reduceToNat]) | (refine call_by (hbl) (views_data rfl) ⟨trivial, trivial⟩ rfl ?_) | (simp -dsimp (disch := first | assumption | omega) only [dec_t, dec_f])
      | (refine And.intro ?_ ?_
         · first | omega | decide | (simp (disch := omega) only [wkW, Int.reduceToNat, Int.reducePow] <;> omega) | (simp <;> omega)) | (simp (disch := omega) only [wkW, Int.reduceToNat, Int.reducePow]) | fail
  have hlen : decide (((natL n).length : Int) = 0) = false := decide_eq_false (by have := (natL_ge hn0).1; omega)
  have w1 : IntKind.wrap .i64 ((bitlen n : Int) + e) = (bitlen n : Int) + e := wrap_i64 (by omega)
  by_cases h1 : (bitlen n : Int) + e < -1074
  · rw [rndU_eq hD (round_low hD hr (by omega))]
    have d1 : decide ((bitlen n : Int) + e < -1074) = true := decide_eq_true h1
    clear hr hm hn
    generalize (bitlen n : Int) = bl at *
    generalize natL n = a at *
    refine meets_by ttOk Tryz.func148 Tryz.ntmps148 Tryz.results148 (by kernel_rfl) (c := _) rfl rfl rfl fun E => ?_
    simp only [argsFrame]
    repeat' first
      | (with_reducible first | refine PW.seq ?_ | refine PW.block ?_ | refine PW.fork ?_ | refine PW.skip ?_ | refine PW.exit ?_ | refine PW.ret ?_ | refine PW.scope ?_ | refine PW.label ?_ | refine PW.goto ?_) | (simp only [w1, d1, hlen])
      | (with_reducible refine PW.region ttOk ?_ ?_
         · rfl)
      | (with_reducible refine PW.regionD ttOk mixed ?_ ?_ ?_
         · rfl
         · rfl) | (with_reducible refine ifW_dec (fun g => ?_) (fun g => ?_) <;> first | (exfalso; omega) | (simp -dsimp only [g, wkI])) | (with_reducible refine condE_dec (fun g => ?_) (fun g => ?_) <;> try (exfalso; omega)) | (with_reducible refine condE_not (fun g => ?_) (fun g => ?_) <;> try (exfalso; omega)) | (simp -dsimp only [↓wkA, ↓wkE, ↓wkJ, wkB, ↓tt, Nat.reduceBEq, Nat.reduceEqDiff, ↓reduceIte, Nat.reduceLT, Array.toList, Nat.reduceAdd, Nat.reduceMul, Int.reduceToNat, Int.reducePow, UInt8.reduceToNat]) | (refine call_by (hbl) (views_data rfl) ⟨trivial, trivial⟩ rfl ?_) | (simp -dsimp (disch := first | assumption | omega) only [dec_t, dec_f])
      | (refine And.intro ?_ ?_
         · first | omega | decide | (simp (disch := omega) only [wkW, Int.reduceToNat, Int.reducePow] <;> omega) | (simp <;> omega)) | (simp (disch := omega) only [wkW, Int.reduceToNat, Int.reducePow]) | fail
  by_cases h2 : 1024 < (bitlen n : Int) + e
  · rw [rndU_eq hD (round_high hD hn0 hr (by omega))]
    have d1 : decide ((bitlen n : Int) + e < -1074) = false := decide_eq_false h1
    have d2 : decide (1024 < (bitlen n : Int) + e) = true := decide_eq_true h2
    clear hr hm hn
    generalize (bitlen n : Int) = bl at *
    generalize natL n = a at *
    refine meets_by ttOk Tryz.func148 Tryz.ntmps148 Tryz.results148 (by kernel_rfl) (c := _) rfl rfl rfl fun E => ?_
    simp only [argsFrame]
    repeat' first
      | (with_reducible first | refine PW.seq ?_ | refine PW.block ?_ | refine PW.fork ?_ | refine PW.skip ?_ | refine PW.exit ?_ | refine PW.ret ?_ | refine PW.scope ?_ | refine PW.label ?_ | refine PW.goto ?_) | (simp only [w1, d1, d2, hlen])
      | (with_reducible refine PW.region ttOk ?_ ?_
         · rfl)
      | (with_reducible refine PW.regionD ttOk mixed ?_ ?_ ?_
         · rfl
         · rfl) | (with_reducible refine ifW_dec (fun g => ?_) (fun g => ?_) <;> first | (exfalso; omega) | (simp -dsimp only [g, wkI])) | (with_reducible refine condE_dec (fun g => ?_) (fun g => ?_) <;> try (exfalso; omega)) | (with_reducible refine condE_not (fun g => ?_) (fun g => ?_) <;> try (exfalso; omega)) | (simp -dsimp only [↓wkA, ↓wkE, ↓wkJ, wkB, ↓tt, Nat.reduceBEq, Nat.reduceEqDiff, ↓reduceIte, Nat.reduceLT, Array.toList, Nat.reduceAdd, Nat.reduceMul, Int.reduceToNat, Int.reducePow, UInt8.reduceToNat]) | (refine call_by (hbl) (views_data rfl) ⟨trivial, trivial⟩ rfl ?_) | (simp -dsimp (disch := first | assumption | omega) only [dec_t, dec_f])
      | (refine And.intro ?_ ?_
         · first | omega | decide | (simp (disch := omega) only [wkW, Int.reduceToNat, Int.reducePow] <;> omega) | (simp <;> omega)) | (simp (disch := omega) only [wkW, Int.reduceToNat, Int.reducePow]) | fail
  -- in between
  obtain ⟨U, hU⟩ : ∃ U : Int, ((bitlen n : Int) + e - 53 < -1074 ∧ U = -1074) ∨ (-1074 ≤ (bitlen n : Int) + e - 53 ∧ U = (bitlen n : Int) + e - 53) := by
    by_cases h : (bitlen n : Int) + e - 53 < -1074
    · exact ⟨_, .inl ⟨h, rfl⟩⟩
    · exact ⟨_, .inr ⟨by omega, rfl⟩⟩
  obtain ⟨k, hk⟩ : ∃ k : Nat, (k : Int) = U + 1074 := ⟨(U + 1074).toNat, by omega⟩
  by_cases hmv : U - e ≤ 0
  · obtain ⟨s, hs⟩ : ∃ s : Nat, (s : Int) = e - U := ⟨(e - U).toNat, by omega⟩
    have hbl53 : bitlen n + s ≤ 53 := by omega
    have hmore : more = false := by
      cases more with
      | false => rfl
      | true =>
        have h3 := hm rfl
        have h4 := lt_bitlen n
        have h5 : 2 ^ bitlen n ≤ 2 ^ 53 := Nat.pow_le_pow_right (by decide) (by omega)
        omega
    subst hmore
    have hr' : N * 2 ^ (-(e + 1074)).toNat = n * (2 ^ (e + 1074).toNat * D) := by
      rcases hr with ⟨_, h⟩ | ⟨h, _⟩
      · exact h
      · cases h
    obtain ⟨i1, i2⟩ := round_whole (k := k) (s := s) hD hn0 hr' (by omega) (by omega) hbl53 (by omega)
    rw [rndU_eq hD i1]
    refine mag_walk_whole n ?_ hn0 e _ U ⟨by omega, by omega⟩ rfl ⟨by omega, by omega⟩ hU s k hs i2 hk
    exact Nat.lt_of_le_of_lt (Nat.le_mul_of_pos_right n (Nat.two_pow_pos s)) i2
  · obtain ⟨mv, hmv2⟩ : ∃ mv : Nat, (mv : Int) = U - e := ⟨(U - e).toNat, by omega⟩
    obtain ⟨i1, i2⟩ := round_cut (k := k) (mv := mv) hD hn0 hr (by omega) (by omega) (by omega) (by omega) (by omega)
    rw [rndU_eq hD i1]
    obtain ⟨t, m, hd⟩ := odd_part hn0
    have hlt : n / 2 ^ mv < 9007199254740992 := by
      rw [Nat.div_lt_iff_lt_mul (Nat.two_pow_pos mv), show (9007199254740992 : Nat) = 2 ^ 53 from rfl, ← Nat.pow_add]
      exact Nat.lt_of_lt_of_le (lt_bitlen n) (Nat.pow_le_pow_right (by decide) (by omega))
    refine mag_walk_cut n hn hn0 e _ U ⟨by omega, by omega⟩ rfl ⟨by omega, by omega⟩ hU mv k hmv2 (by omega) hk more t m hd _ hlt ⟨fun h => ?_, fun h => ?_⟩
    · unfold magM; rw [if_pos h]
    · unfold magM; rw [if_neg h]
def signed (neg : Bool) (b : Nat) : Nat := if neg then b + 9223372036854775808 else b
theorem signed_f (b : Nat) : signed false b = b := if_neg (by decide)
theorem signed_t (b : Nat) : signed true b = b + 9223372036854775808 := if_pos rfl
theorem xor_sign {b : Nat} (hb : b < 9223372036854775808) : ibits .xor .u64 (b : Int) 9223372036854775808 = ((b + 9223372036854775808 : Nat) : Int) := by
  change IntKind.wrap .u64 (((BitVec.ofInt 64 (b : Int) ^^^ BitVec.ofInt 64 9223372036854775808).toNat : Nat) : Int) = _
  have h := Nat.two_pow_add_eq_or_of_lt (i := 63) (b := b) (by simpa using hb) 1
  have e : (BitVec.ofInt 64 (b : Int) ^^^ BitVec.ofInt 64 9223372036854775808).toNat = b + 9223372036854775808 := by
    rw [BitVec.toNat_xor, BitVec.toNat_ofInt, BitVec.toNat_ofInt]
    have e1 : ((b : Int) % ((2 ^ 64 : Nat) : Int)).toNat = b := by
      rw [Int.emod_eq_of_lt (by omega) (by simp; omega), Int.toNat_natCast]
    have e2 : ((9223372036854775808 : Int) % ((2 ^ 64 : Nat) : Int)).toNat = 2 ^ 63 := by decide
    rw [e1, e2]
    refine Nat.eq_of_testBit_eq fun j => ?_
    rw [Nat.testBit_xor, Nat.testBit_two_pow]
    have e3 : b + 9223372036854775808 = 2 ^ 63 * 1 + b := by omega
    rw [e3, Nat.testBit_two_pow_mul_add 1 (show b < 2 ^ 63 by simpa using hb) j]
    by_cases h1 : j < 63
    · rw [if_pos h1]; have : ¬ 63 = j := by omega
      simp [this]
    · rw [if_neg h1, Nat.testBit_lt_two_pow (Nat.lt_of_lt_of_le (show b < 2 ^ 63 by simpa using hb) (Nat.pow_le_pow_right (by decide) (by omega)))]
      by_cases h2 : 63 = j
      · subst h2; simp
      · simp only [h2, decide_false, Bool.false_xor]
        rw [Nat.testBit_lt_two_pow]
        exact Nat.lt_of_lt_of_le (show 1 < 2 ^ 1 by decide) (Nat.pow_le_pow_right (by decide) (by omega)) 
  rw [e, wrap_u64 (by omega)]
theorem ieee_neg (b : Nat) (hb : b < 9223372036854775808) : Meets Tryz.prog 150 [.int .u64 (b : Int)] (.int .u64 ((b + 9223372036854775808 : Nat) : Int)) := by
  have h := xor_sign hb
  refine meets_by ttOk Tryz.func150 Tryz.ntmps150 Tryz.results150 (by kernel_rfl) (c := _) rfl rfl rfl fun E => ?_
  simp only [argsFrame]
  repeat' first
    | (with_reducible first | refine PW.seq ?_ | refine PW.block ?_ | refine PW.fork ?_ | refine PW.skip ?_ | refine PW.exit ?_ | refine PW.ret ?_ | refine PW.scope ?_ | refine PW.label ?_ | refine PW.goto ?_) | (simp only [h])
    | (with_reducible refine PW.region ttOk ?_ ?_
       · rfl)
    | (with_reducible refine PW.regionD ttOk mixed ?_ ?_ ?_
       · rfl
       · rfl) | (with_reducible refine ifW_dec (fun g => ?_) (fun g => ?_) <;> first | (exfalso; omega) | (simp -dsimp only [g, wkI])) | (with_reducible refine condE_dec (fun g => ?_) (fun g => ?_) <;> try (exfalso; omega)) | (with_reducible refine condE_not (fun g => ?_) (fun g => ?_) <;> try (exfalso; omega)) | (simp -dsimp only [↓wkA, ↓wkE, ↓wkJ, wkB, ↓tt, Nat.reduceBEq, Nat.reduceEqDiff, ↓reduceIte, Nat.reduceLT, Array.toList, Nat.reduceAdd, Nat.reduceMul, Int.reduceToNat, Int.reducePow, UInt8.reduceToNat]) | (simp -dsimp (disch := first | assumption | omega) only [dec_t, dec_f])
    | (refine And.intro ?_ ?_
       · first | omega | decide | (simp (disch := omega) only [wkW, Int.reduceToNat, Int.reducePow] <;> omega) | (simp <;> omega)) | (simp (disch := omega) only [wkW, Int.reduceToNat, Int.reducePow]) | fail
theorem ieee_round {n : Nat} (hn : n < NMax) (neg : Bool) (e : Int) (he : -700000 ≤ e ∧ e ≤ 700000) (more : Bool) {N D : Nat} (hD : 0 < D) (hr : RelR more n (e + 1074).toNat (-(e + 1074)).toNat N D) (hm : more = true → 9007199254740992 ≤ n) :
    Meets Tryz.prog 101 [.bool neg, .ints .u64 (natL n), .int .i64 e, .bool more] (.tup [.int .u64 (signed neg (rndU N D) : Int), .int .i64 0]) := by
  have h1 := shl_nat (n := 0) hn (by decide) (by rw [Nat.pow_zero, Nat.mul_one]; exact hn)
  rw [Nat.pow_zero, Nat.mul_one] at h1
  have h2 := ieee_near e ⟨by omega, by omega⟩
  have h3 := magnitude_ok hn e he more hD hr hm
  have hle : rndU N D ≤ infB := rndU_le
  have h4 := ieee_neg (rndU N D) (by unfold infB at hle; omega)
  clear hr hm hn
  unfold signed
  generalize rndU N D = R at *
  generalize natL n = a at *
  cases neg
  all_goals simp only [Bool.false_eq_true, if_false, if_true]
  all_goals (refine meets_by ttOk Tryz.func101 Tryz.ntmps101 Tryz.results101 (by kernel_rfl) (c := _) rfl rfl rfl fun E => ?_; simp only [argsFrame])
  all_goals
    repeat' first
      | (with_reducible first | refine PW.seq ?_ | refine PW.block ?_ | refine PW.fork ?_ | refine PW.skip ?_ | refine PW.exit ?_ | refine PW.ret ?_ | refine PW.scope ?_ | refine PW.label ?_ | refine PW.goto ?_)
      | (with_reducible refine PW.region ttOk ?_ ?_
         · rfl)
      | (with_reducible refine PW.regionD ttOk mixed ?_ ?_ ?_
         · rfl
         · rfl) | (with_reducible refine ifW_dec (fun g => ?_) (fun g => ?_) <;> first | (exfalso; omega) | (simp -dsimp only [g, wkI])) | (with_reducible refine condE_dec (fun g => ?_) (fun g => ?_) <;> try (exfalso; omega)) | (with_reducible refine condE_not (fun g => ?_) (fun g => ?_) <;> try (exfalso; omega)) | (simp -dsimp only [↓wkA, ↓wkE, ↓wkJ, wkB, ↓tt, Nat.reduceBEq, Nat.reduceEqDiff, ↓reduceIte, Nat.reduceLT, Array.toList, Nat.reduceAdd, Nat.reduceMul, Int.reduceToNat, Int.reducePow, UInt8.reduceToNat]) | (refine call_by (h1) (views_data rfl) ⟨trivial, trivial, trivial⟩ rfl ?_) | (refine call_by (h2) (views_data rfl) ⟨trivial, trivial⟩ rfl ?_) | (refine call_by (h3) (views_data rfl) ⟨trivial, trivial, trivial, trivial⟩ rfl ?_) | (refine call_by (h4) (views_data rfl) ⟨trivial, trivial⟩ rfl ?_) | (simp -dsimp (disch := first | assumption | omega) only [dec_t, dec_f])
      | (refine And.intro ?_ ?_
         · first | omega | decide | (simp (disch := omega) only [wkW, Int.reduceToNat, Int.reducePow] <;> omega) | (simp <;> omega)) | (simp (disch := omega) only [wkW, Int.reduceToNat, Int.reducePow]) | fail
theorem Meets.args {P : Program} {f : FuncId} {args args' : List PV} {res : PV} (hm : Meets P f args res) (hl : args'.length = args.length) (h : ∀ (w : World) (A : Nat → Prop) (i : Nat) (v : Value), RD w A (args'.getD i .undef) v → RD w A (args.getD i .undef) v) : Meets P f args' res :=
  ⟨fun w A vs hA hl' ha => hm.run w A vs hA (hl.symm.trans hl') fun i hi => h w A i _ (ha i (by omega))⟩
theorem bitlen_pos {n : Nat} : bitlen n = 0 ↔ n = 0 := by
  unfold bitlen; split <;> omega
theorem bitlen_ge {n k : Nat} (h : k < bitlen n) : 2 ^ k ≤ n := by
  have h0 : n ≠ 0 := fun e => by rw [e] at h; simp [bitlen] at h
  obtain ⟨j, hj, h1, _⟩ := bitlen_spec h0
  exact Nat.le_trans (Nat.pow_le_pow_right (by decide) (by omega)) h1
theorem bitlen_lt {n k : Nat} (h : bitlen n ≤ k) : n < 2 ^ k := Nat.lt_of_lt_of_le (lt_bitlen n) (Nat.pow_le_pow_right (by decide) h)
theorem ratio_rel {u v q rest j A C a c : Nat} (hq : q * v + rest = u * 2 ^ j) (hrest : rest < v) (he : A + c = a + C + j) : RelR (decide (rest ≠ 0)) q a c (u * 2 ^ A) (v * 2 ^ C) := by
  have e1 : u * 2 ^ A * 2 ^ c = q * (2 ^ a * (v * 2 ^ C)) + rest * 2 ^ (a + C) := by
    rw [Nat.mul_assoc, ← Nat.pow_add, he, Nat.pow_add _ (a + C), Nat.mul_comm (2 ^ (a + C)), ← Nat.mul_assoc, ← hq, Nat.add_mul, Nat.pow_add]
    congr 1
    ac_rfl
  have e2 : 2 ^ a * (v * 2 ^ C) = v * 2 ^ (a + C) := by rw [Nat.pow_add]; ac_rfl
  have hp := Nat.two_pow_pos (a + C)
  unfold RelR
  by_cases h0 : rest = 0
  · left
    rw [h0] at e1 ⊢
    exact ⟨by decide, by rw [e1]; omega⟩
  · right
    refine ⟨decide_eq_true h0, ?_, ?_⟩
    · rw [e1]
      have := Nat.mul_pos (Nat.pos_of_ne_zero h0) hp
      omega
    · rw [e1, e2]
      have := Nat.mul_lt_mul_of_pos_right hrest hp
      omega
def rrat (u v : Nat) (e : Int) : Nat := rndU (u * 2 ^ (e + 1074).toNat) (v * 2 ^ (-(e + 1074)).toNat)
abbrev rrF (neg : Bool) (v q r : Nat) (e : Int) : PV.Frame := [(13, .ints .u64 (natL q)), (14, .ints .u64 (natL r)), (2, .ints .u64 (natL v)), (3, .int .i64 e), (0, .bool neg)]
theorem round_nil (neg : Bool) : Meets Tryz.prog 101 [.bool neg, .nil, .int .i64 0, .bool false] (.tup [.int .u64 (signed neg 0 : Int), .int .i64 0]) := by
  have h := ieee_round (n := 0) nmax_pos neg 0 ⟨by decide, by decide⟩ false (N := 0) (D := 1) (by decide) (.inl ⟨rfl, by simp⟩) (fun h => by cases h)
  rw [rndU_zero (by decide), natL_zero] at h
  refine Meets.args h rfl fun w A i v hv => ?_
  match i with
  | 0 => exact hv
  | 1 => exact rd_nil_ints hv
  | 2 => exact hv
  | 3 => exact hv
  | n + 4 => exact hv
theorem round_ratio {u v : Nat} (hu : u < NMax) (hv : v < NMax) (hv0 : v ≠ 0) (neg : Bool) (e : Int) (he : -100000 ≤ e ∧ e ≤ 100000) :
    Meets Tryz.prog 182 [.bool neg, .ints .u64 (natL u), .ints .u64 (natL v), .int .i64 e] (.tup [.int .u64 (signed neg (rrat u v e) : Int), .int .i64 0]) := by
  have h1 := shl_nat (n := 0) hu (by decide) (by rw [Nat.pow_zero, Nat.mul_one]; exact hu)
  have h2 := shl_nat (n := 0) hv (by decide) (by rw [Nat.pow_zero, Nat.mul_one]; exact hv)
  rw [Nat.pow_zero, Nat.mul_one] at h1 h2
  have hlv : decide (((natL v).length : Int) = 0) = false := decide_eq_false (by have := (natL_ge hv0).1; omega)
  have hDpos : ∀ x, 0 < v * 2 ^ x := fun x => Nat.mul_pos (Nat.pos_of_ne_zero hv0) (Nat.two_pow_pos x)
  by_cases hu0 : u = 0
  · subst hu0
    have hz : rrat 0 v e = 0 := by unfold rrat; rw [Nat.zero_mul]; exact rndU_zero (hDpos _)
    rw [hz]
    have h3 := round_nil neg
    rw [natL_zero] at h1 ⊢
    clear hDpos
    generalize signed neg 0 = R at *
    generalize natL v = b at *
    refine meets_by ttOk Tryz.func182 Tryz.ntmps182 Tryz.results182 (by kernel_rfl) (c := _) rfl rfl rfl fun E => ?_
    simp only [argsFrame]
    repeat' first
      | (with_reducible first | refine PW.seq ?_ | refine PW.block ?_ | refine PW.fork ?_ | refine PW.skip ?_ | refine PW.exit ?_ | refine PW.ret ?_ | refine PW.scope ?_ | refine PW.label ?_ | refine PW.goto ?_) | (simp only [hlv])
      | (with_reducible refine PW.region ttOk ?_ ?_
         · rfl)
      | (with_reducible refine PW.regionD ttOk mixed ?_ ?_ ?_
         · rfl
         · rfl) | (with_reducible refine ifW_dec (fun g => ?_) (fun g => ?_) <;> first | (exfalso; omega) | (simp -dsimp only [g, wkI])) | (with_reducible refine condE_dec (fun g => ?_) (fun g => ?_) <;> try (exfalso; omega)) | (with_reducible refine condE_not (fun g => ?_) (fun g => ?_) <;> try (exfalso; omega)) | (simp -dsimp only [↓wkA, ↓wkE, ↓wkJ, wkB, ↓tt, Nat.reduceBEq, Nat.reduceEqDiff, ↓reduceIte, Nat.reduceLT, Array.toList, Nat.reduceAdd, Nat.reduceMul, Int.reduceToNat, Int.reducePow, UInt8.reduceToNat]) | (refine call_by (h1) (views_data rfl) ⟨trivial, trivial, trivial⟩ rfl ?_) | (refine call_by (h2) (views_data rfl) ⟨trivial, trivial, trivial⟩ rfl ?_) | (refine call_by (h3) (views_data rfl) ⟨trivial, trivial, trivial, trivial, trivial⟩ rfl ?_) | (simp -dsimp (disch := first | assumption | omega) only [dec_t, dec_f])
      | (refine And.intro ?_ ?_
         · first | omega | decide | (simp (disch := omega) only [wkW, Int.reduceToNat, Int.reducePow] <;> omega) | (simp <;> omega)) | (simp (disch := omega) only [wkW, Int.reduceToNat, Int.reducePow]) | fail
  have hlu : decide (((natL u).length : Int) = 0) = false := decide_eq_false (by have := (natL_ge hu0).1; omega)
  have hnear := ieee_near e ⟨by omega, by omega⟩
  have hbu := nat_bitlen u hu
  have hbv := nat_bitlen v hv
  have hbu2 : bitlen u ≤ 262144 := bitlen_le (by rw [← nmax_two]; exact hu)
  have hbv2 : bitlen v ≤ 262144 := bitlen_le (by rw [← nmax_two]; exact hv)
  have w1 : IntKind.wrap .i64 ((bitlen v : Int) - (bitlen u : Int)) = (bitlen v : Int) - (bitlen u : Int) := wrap_i64 (by omega)
  obtain ⟨mv, hmv⟩ : ∃ mv : Nat, mv = bitlen v - bitlen u := ⟨_, rfl⟩
  have hu'1 : u * 2 ^ mv < NMax := by
    rw [nmax_two]
    have h3 : u * 2 ^ mv < 2 ^ bitlen u * 2 ^ mv := Nat.mul_lt_mul_of_pos_right (lt_bitlen u) (Nat.two_pow_pos mv)
    rw [← Nat.pow_add] at h3
    exact Nat.lt_of_lt_of_le h3 (Nat.pow_le_pow_right (by decide) (by omega))
  have hu'2 : v ≤ 2 * (u * 2 ^ mv) := by
    have hb := bitlen_ge (n := u) (k := bitlen u - 1) (by have := mt bitlen_pos.1 hu0; omega)
    have h4 : 2 ^ (bitlen u - 1) * 2 ^ mv ≤ u * 2 ^ mv := Nat.mul_le_mul_right _ hb
    rw [← Nat.pow_add] at h4
    have h5 := lt_bitlen v
    have h6 : 2 ^ bitlen v ≤ 2 ^ (bitlen u - 1 + mv + 1) := Nat.pow_le_pow_right (by decide) (by have := mt bitlen_pos.1 hu0; omega)
    rw [Nat.pow_succ] at h6
    omega
  have hsh := shl_nat (n := mv) hu (by omega) hu'1
  have hdm := div_mod hu'1 hv hv0
  -- what the rounding tells
  have hfin : ∀ q r i : Nat, q * v + r = u * 2 ^ (mv + i) → r < v → 9007199254740992 ≤ q → q < NMax → i ≤ 67 → Meets Tryz.prog 101 [.bool neg, .ints .u64 (natL q), .int .i64 (e - (mv : Int) - (i : Int)), .bool (decide (r ≠ 0))] (.tup [.int .u64 (signed neg (rrat u v e) : Int), .int .i64 0]) := fun q r i h3 h4 h5 h6 h7 =>
    ieee_round h6 neg _ ⟨by omega, by omega⟩ _ (hDpos _) (ratio_rel h3 h4 (by omega)) fun _ => h5
  generalize signed neg (rrat u v e) = R at *
  clear hDpos
  have w4 : IntKind.wrap .i64 (mv : Int) = (mv : Int) := wrap_i64 (by omega)
  refine meets_by ttOk Tryz.func182 Tryz.ntmps182 Tryz.results182 (by kernel_rfl) (c := _) rfl rfl rfl fun E => ?_
  simp only [argsFrame]
  by_cases hc : bitlen u < bitlen v
  case' pos =>
    have d1 : decide (0 < (bitlen v : Int) - (bitlen u : Int)) = true := decide_eq_true (by omega)
    have w2 : (bitlen v : Int) - (bitlen u : Int) = (mv : Int) := by omega
    have w3 : IntKind.wrap .i64 (e - (mv : Int)) = e - (mv : Int) := wrap_i64 (by omega)
    rw [w2] at d1
    have hqr : u * 2 ^ mv / v * v + u * 2 ^ mv % v = u * 2 ^ mv := Nat.div_add_mod' _ _
    have hrl : u * 2 ^ mv % v < v := Nat.mod_lt _ (Nat.pos_of_ne_zero hv0)
    have hqm : u * 2 ^ mv / v < NMax := Nat.lt_of_le_of_lt (Nat.div_le_self _ _) hu'1
    have e0 : e - (mv : Int) = e - (mv : Int) := rfl
    generalize u * 2 ^ mv / v = q0 at *
    generalize u * 2 ^ mv % v = r0 at *
  case' neg =>
    have d1 : decide (0 < (bitlen v : Int) - (bitlen u : Int)) = false := decide_eq_false (by omega)
    have w2 : IntKind.wrap .i64 ((bitlen v : Int) - (bitlen u : Int)) = (bitlen v : Int) - (bitlen u : Int) := wrap_i64 (by omega)
    have w3 : IntKind.wrap .i64 (e - (mv : Int)) = e - (mv : Int) := wrap_i64 (by omega)
    have e0 : e = e - (mv : Int) := by omega
    have hu0' : u * 2 ^ mv = u := by rw [show mv = 0 by omega, Nat.pow_zero, Nat.mul_one]
    rw [hu0'] at hdm hu'1
    have hqr : u / v * v + u % v = u * 2 ^ mv := by rw [hu0']; exact Nat.div_add_mod' _ _
    have hrl : u % v < v := Nat.mod_lt _ (Nat.pos_of_ne_zero hv0)
    have hqm : u / v < NMax := Nat.lt_of_le_of_lt (Nat.div_le_self _ _) hu'1
    generalize u / v = q0 at *
    generalize u % v = r0 at *
  all_goals
    repeat' first
      | (with_reducible first | refine PW.seq ?_ | refine PW.block ?_ | refine PW.fork ?_ | refine PW.skip ?_ | refine PW.exit ?_ | refine PW.ret ?_ | refine PW.scope ?_ | refine PW.label ?_ | refine PW.goto ?_) | (simp only [w1, w2, w3, w4, d1, hlu, hlv])
      | (with_reducible refine PW.region ttOk ?_ ?_
         · rfl)
      | (with_reducible refine PW.regionD ttOk mixed ?_ ?_ ?_
         · rfl
         · rfl) | (with_reducible refine ifW_dec (fun g => ?_) (fun g => ?_) <;> first | (exfalso; omega) | (simp -dsimp only [g, wkI])) | (with_reducible refine condE_dec (fun g => ?_) (fun g => ?_) <;> try (exfalso; omega)) | (with_reducible refine condE_not (fun g => ?_) (fun g => ?_) <;> try (exfalso; omega)) | (simp -dsimp only [↓wkA, ↓wkE, ↓wkJ, wkB, ↓tt, Nat.reduceBEq, Nat.reduceEqDiff, ↓reduceIte, Nat.reduceLT, Array.toList, Nat.reduceAdd, Nat.reduceMul, Int.reduceToNat, Int.reducePow, UInt8.reduceToNat]) | (refine call_by (h1) (views_data rfl) ⟨trivial, trivial, trivial⟩ rfl ?_) | (refine call_by (h2) (views_data rfl) ⟨trivial, trivial, trivial⟩ rfl ?_) | (refine call_by (hnear) (views_data rfl) ⟨trivial, trivial⟩ rfl ?_) | (refine call_by (hbu) (views_data rfl) ⟨trivial, trivial⟩ rfl ?_) | (refine call_by (hbv) (views_data rfl) ⟨trivial, trivial⟩ rfl ?_) | (refine call_by (hsh) (views_data rfl) ⟨trivial, trivial, trivial⟩ rfl ?_) | (refine call_by (hdm) (views_data rfl) ⟨trivial, trivial, trivial⟩ rfl ?_) | (simp -dsimp (disch := first | assumption | omega) only [dec_t, dec_f])
      | (refine And.intro ?_ ?_
         · first | omega | decide | (simp (disch := omega) only [wkW, Int.reduceToNat, Int.reducePow] <;> omega) | (simp <;> omega)) | (simp (disch := omega) only [wkW, Int.reduceToNat, Int.reducePow]) | fail
  all_goals clear h1 h2 hnear hbu hbv hdm d1 hlu hlv hu
  all_goals
    refine PW.loopA (fun m F H => ∃ i q r, i + m = 67 ∧ q * v + r = u * 2 ^ (mv + i) ∧ r < v ∧ q < NMax ∧ F = rrF neg v q r (e - (mv : Int) - (i : Int)) ∧ H = ⟨0, [], [], []⟩) 67 (rrF neg v q0 r0 (e - (mv : Int))) ⟨0, [], [], []⟩ (Sub.norm ⟨rfl, rfl, rfl, congrArg (PV.int .i64) e0, rfl, trivial⟩ trivial (Nat.le_refl _) rfl rfl rfl rfl) ⟨0, q0, r0, rfl, hqr, hrl, hqm, by rw [Int.natCast_zero, Int.sub_zero], rfl⟩ ?_
    rintro m F H ⟨i, q, r, hi, hq, hr, hqM, rfl, rfl⟩
    have hbq := nat_bitlen q hqM
    have hrN : r < NMax := Nat.lt_trans hr hv
    by_cases hb : bitlen q < 66
    case' neg =>
      have d2 : decide ((bitlen q : Int) < 66) = false := decide_eq_false (by omega)
      have d3 : decide ((0 : Int) < ((natL r).length : Int)) = decide (r ≠ 0) := decide_eq_decide.2 (by have := @natL_len0 r; omega)
      have hf := hfin q r i hq hr (Nat.le_trans (by decide) (bitlen_ge (k := 65) (by omega))) hqM (by omega)
      clear hfin hbu2 hbv2 hq hqr hrl hqm
      repeat' first
        | (with_reducible first | refine PW.seq ?_ | refine PW.block ?_ | refine PW.fork ?_ | refine PW.skip ?_ | refine PW.exit ?_ | refine PW.ret ?_ | refine PW.scope ?_ | refine PW.label ?_ | refine PW.goto ?_) | (simp only [d2, d3])
        | (with_reducible refine PW.region ttOk ?_ ?_
           · rfl)
        | (with_reducible refine PW.regionD ttOk mixed ?_ ?_ ?_
           · rfl
           · rfl) | (with_reducible refine ifW_dec (fun g => ?_) (fun g => ?_) <;> first | (exfalso; omega) | (simp -dsimp only [g, wkI])) | (with_reducible refine condE_dec (fun g => ?_) (fun g => ?_) <;> try (exfalso; omega)) | (with_reducible refine condE_not (fun g => ?_) (fun g => ?_) <;> try (exfalso; omega)) | (simp -dsimp only [↓wkA, ↓wkE, ↓wkJ, wkB, ↓tt, Nat.reduceBEq, Nat.reduceEqDiff, ↓reduceIte, Nat.reduceLT, Array.toList, Nat.reduceAdd, Nat.reduceMul, Int.reduceToNat, Int.reducePow, UInt8.reduceToNat]) | (refine call_by (hbq) (views_data rfl) ⟨trivial, trivial⟩ rfl ?_) | (refine call_by (hf) (views_data rfl) ⟨trivial, trivial, trivial, trivial, trivial⟩ rfl ?_) | (simp -dsimp (disch := first | assumption | omega) only [dec_t, dec_f])
        | (refine And.intro ?_ ?_
           · first | omega | decide | (simp (disch := omega) only [wkW, Int.reduceToNat, Int.reducePow] <;> omega) | (simp <;> omega)) | (simp (disch := omega) only [wkW, Int.reduceToNat, Int.reducePow]) | fail
    have d2 : decide ((bitlen q : Int) < 66) = true := decide_eq_true (by omega)
    have hq65 : q < 2 ^ 65 := bitlen_lt (by omega)
    have hi67 : i < 67 := by
      refine Nat.lt_of_not_le fun h => ?_
      obtain rfl : i = 67 := by omega
      rw [Nat.pow_add, ← Nat.mul_assoc] at hq
      have h1 : v * 2 ^ 66 ≤ u * 2 ^ mv * 2 ^ 67 := by
        have := Nat.mul_le_mul_right (2 ^ 66) hu'2
        have e67 : (2 : Nat) ^ 67 = 2 * 2 ^ 66 := Nat.pow_succ'
        have e68 : u * 2 ^ mv * (2 * 2 ^ 66) = 2 * (u * 2 ^ mv) * 2 ^ 66 := by ac_rfl
        rw [e67, e68]
        exact this
      have h2 : (q + 1) * v ≤ 2 ^ 66 * v := Nat.mul_le_mul_right _ (by omega)
      rw [Nat.add_mul, Nat.one_mul] at h2
      omega
    have hgap := sub_nat (u := v) (v := r) hv hrN (by omega)
    have hcmp := cmp_nat (u := r) (v := v - r) hrN (by omega)
    have w5 : IntKind.wrap .i64 (e - (mv : Int) - (i : Int) - 1) = e - (mv : Int) - ((i + 1 : Nat) : Int) := by rw [wrap_i64 (by omega)]; omega
    by_cases hc2 : r < v - r
    · rw [if_pos hc2] at hcmp
      have hadd := add_nat hrN hrN (show r + r < NMax by omega)
      have hma := mul_add_nat (k := 2) (c := 0) hqM (by decide) (by decide) (nmax_of (k := 67) (by omega) (by decide))
      have hnew : (q * 2 + 0) * v + (r + r) = u * 2 ^ (mv + (i + 1)) := by
        rw [show mv + (i + 1) = mv + i + 1 from rfl, Nat.pow_succ, ← Nat.mul_assoc, ← hq]; grind
      have hrv : r + r < v := by omega
      have hqn : q * 2 + 0 < NMax := nmax_of (k := 67) (by omega) (by decide)
      clear hq hqr hrl hqm hfin hu'2
      generalize q * 2 + 0 = q' at *
      generalize r + r = r' at *
      generalize natL (v - r) = g at *
      repeat' first
        | (with_reducible first | refine PW.seq ?_ | refine PW.block ?_ | refine PW.fork ?_ | refine PW.skip ?_ | refine PW.exit ?_ | refine PW.ret ?_ | refine PW.scope ?_ | refine PW.label ?_ | refine PW.goto ?_) | (simp only [d2, w5])
        | (with_reducible refine PW.region ttOk ?_ ?_
           · rfl)
        | (with_reducible refine PW.regionD ttOk mixed ?_ ?_ ?_
           · rfl
           · rfl) | (with_reducible refine ifW_dec (fun g => ?_) (fun g => ?_) <;> first | (exfalso; omega) | (simp -dsimp only [g, wkI])) | (with_reducible refine condE_dec (fun g => ?_) (fun g => ?_) <;> try (exfalso; omega)) | (with_reducible refine condE_not (fun g => ?_) (fun g => ?_) <;> try (exfalso; omega)) | (simp -dsimp only [↓wkA, ↓wkE, ↓wkJ, wkB, ↓tt, Nat.reduceBEq, Nat.reduceEqDiff, ↓reduceIte, Nat.reduceLT, Array.toList, Nat.reduceAdd, Nat.reduceMul, Int.reduceToNat, Int.reducePow, UInt8.reduceToNat]) | (refine call_by (hbq) (views_data rfl) ⟨trivial, trivial⟩ rfl ?_) | (refine call_by (hgap) (views_data rfl) ⟨trivial, trivial, trivial⟩ rfl ?_) | (refine call_by (hcmp) (views_data rfl) ⟨trivial, trivial, trivial⟩ rfl ?_) | (refine call_by (hadd) (views_data rfl) ⟨trivial, trivial, trivial⟩ rfl ?_) | (refine call_by (hma) (views_data rfl) ⟨trivial, trivial, trivial, trivial⟩ rfl ?_) | (simp -dsimp (disch := first | assumption | omega) only [dec_t, dec_f])
        | (refine And.intro ?_ ?_
           · first | omega | decide | (simp (disch := omega) only [wkW, Int.reduceToNat, Int.reducePow] <;> omega) | (simp <;> omega)) | (simp (disch := omega) only [wkW, Int.reduceToNat, Int.reducePow]) | fail
      exact Again.mk (m - 1) (rrF neg v q' r' (e - (mv : Int) - ((i + 1 : Nat) : Int))) ⟨0, [], [], []⟩ (by omega) (Sub.norm ⟨rfl, rfl, rfl, rfl, rfl, trivial⟩ trivial (Nat.le_refl _) rfl rfl rfl rfl) ⟨i + 1, q', r', by omega, hnew, hrv, hqn, rfl, rfl⟩
    · rw [if_neg hc2] at hcmp
      have hcmp' : ∃ c : Int, 0 ≤ c ∧ Meets Tryz.prog 62 [.ints .u64 (natL r), .ints .u64 (natL (v - r))] (.int .i64 c) := ⟨_, by split <;> decide, hcmp⟩
      obtain ⟨cc, hcc, hcmp2⟩ := hcmp'
      have d4 : decide (0 ≤ cc) = true := decide_eq_true hcc
      have hsub := sub_nat (u := r) (v := v - r) hrN (by omega) (by omega)
      have hma := mul_add_nat (k := 2) (c := 1) hqM (by decide) (by decide) (nmax_of (k := 67) (by omega) (by decide))
      have hnew : (q * 2 + 1) * v + (r - (v - r)) = u * 2 ^ (mv + (i + 1)) := by
        rw [show mv + (i + 1) = mv + i + 1 from rfl, Nat.pow_succ, ← Nat.mul_assoc, ← hq]
        have e1 : (q * 2 + 1) * v = 2 * (q * v) + v := by grind
        rw [e1]; omega
      have hrv : r - (v - r) < v := by omega
      have hqn : q * 2 + 1 < NMax := nmax_of (k := 67) (by omega) (by decide)
      clear hq hqr hrl hqm hfin hu'2 hcmp
      generalize q * 2 + 1 = q' at *
      generalize r - (v - r) = r' at *
      generalize natL (v - r) = g at *
      repeat' first
        | (with_reducible first | refine PW.seq ?_ | refine PW.block ?_ | refine PW.fork ?_ | refine PW.skip ?_ | refine PW.exit ?_ | refine PW.ret ?_ | refine PW.scope ?_ | refine PW.label ?_ | refine PW.goto ?_) | (simp only [d2, d4, w5])
        | (with_reducible refine PW.region ttOk ?_ ?_
           · rfl)
        | (with_reducible refine PW.regionD ttOk mixed ?_ ?_ ?_
           · rfl
           · rfl) | (with_reducible refine ifW_dec (fun g => ?_) (fun g => ?_) <;> first | (exfalso; omega) | (simp -dsimp only [g, wkI])) | (with_reducible refine condE_dec (fun g => ?_) (fun g => ?_) <;> try (exfalso; omega)) | (with_reducible refine condE_not (fun g => ?_) (fun g => ?_) <;> try (exfalso; omega)) | (simp -dsimp only [↓wkA, ↓wkE, ↓wkJ, wkB, ↓tt, Nat.reduceBEq, Nat.reduceEqDiff, ↓reduceIte, Nat.reduceLT, Array.toList, Nat.reduceAdd, Nat.reduceMul, Int.reduceToNat, Int.reducePow, UInt8.reduceToNat]) | (refine call_by (hbq) (views_data rfl) ⟨trivial, trivial⟩ rfl ?_) | (refine call_by (hgap) (views_data rfl) ⟨trivial, trivial, trivial⟩ rfl ?_) | (refine call_by (hcmp2) (views_data rfl) ⟨trivial, trivial, trivial⟩ rfl ?_) | (refine call_by (hsub) (views_data rfl) ⟨trivial, trivial, trivial⟩ rfl ?_) | (refine call_by (hma) (views_data rfl) ⟨trivial, trivial, trivial, trivial⟩ rfl ?_) | (simp -dsimp (disch := first | assumption | omega) only [dec_t, dec_f])
        | (refine And.intro ?_ ?_
           · first | omega | decide | (simp (disch := omega) only [wkW, Int.reduceToNat, Int.reducePow] <;> omega) | (simp <;> omega)) | (simp (disch := omega) only [wkW, Int.reduceToNat, Int.reducePow]) | fail
      exact Again.mk (m - 1) (rrF neg v q' r' (e - (mv : Int) - ((i + 1 : Nat) : Int))) ⟨0, [], [], []⟩ (by omega) (Sub.norm ⟨rfl, rfl, rfl, rfl, rfl, trivial⟩ trivial (Nat.le_refl _) rfl rfl rfl rfl) ⟨i + 1, q', r', by omega, hnew, hrv, hqn, rfl, rfl⟩
def rnat (u : Nat) : Nat := rndU (u * 2 ^ 1074) 1
theorem ieee_from_uint (u : Nat) (hu : u < 18446744073709551616) : Meets Tryz.prog 96 [.int .u64 (u : Int)] (.int .u64 (rnat u : Int)) := by
  have h1 := from_uint u hu
  have h2 := ieee_round (n := u) (nmax_of (k := 64) (by simpa using hu) (by decide)) false 0 ⟨by decide, by decide⟩ false (N := u * 2 ^ 1074) (D := 1) (by decide) (.inl ⟨rfl, by rw [show (-(0 + 1074) : Int).toNat = 0 from rfl, show ((0 + 1074 : Int)).toNat = 1074 from rfl, Nat.pow_zero, Nat.mul_one, Nat.mul_one]⟩) (fun h => by cases h)
  rw [signed_f] at h2
  unfold rnat
  generalize rndU (u * 2 ^ 1074) 1 = R at *
  generalize natL u = a at *
  refine meets_by ttOk Tryz.func96 Tryz.ntmps96 Tryz.results96 (by kernel_rfl) (c := _) rfl rfl rfl fun E => ?_
  simp only [argsFrame]
  repeat' first
    | (with_reducible first | refine PW.seq ?_ | refine PW.block ?_ | refine PW.fork ?_ | refine PW.skip ?_ | refine PW.exit ?_ | refine PW.ret ?_ | refine PW.scope ?_ | refine PW.label ?_ | refine PW.goto ?_)
    | (with_reducible refine PW.region ttOk ?_ ?_
       · rfl)
    | (with_reducible refine PW.regionD ttOk mixed ?_ ?_ ?_
       · rfl
       · rfl) | (with_reducible refine ifW_dec (fun g => ?_) (fun g => ?_) <;> first | (exfalso; omega) | (simp -dsimp only [g, wkI])) | (with_reducible refine condE_dec (fun g => ?_) (fun g => ?_) <;> try (exfalso; omega)) | (with_reducible refine condE_not (fun g => ?_) (fun g => ?_) <;> try (exfalso; omega)) | (simp -dsimp only [↓wkA, ↓wkE, ↓wkJ, wkB, ↓tt, Nat.reduceBEq, Nat.reduceEqDiff, ↓reduceIte, Nat.reduceLT, Array.toList, Nat.reduceAdd, Nat.reduceMul, Int.reduceToNat, Int.reducePow, UInt8.reduceToNat]) | (refine call_by (h1) (views_data rfl) ⟨trivial, trivial⟩ rfl ?_) | (refine call_by (h2) (views_data rfl) ⟨trivial, trivial, trivial, trivial, trivial⟩ rfl ?_) | (simp -dsimp (disch := first | assumption | omega) only [dec_t, dec_f])
    | (refine And.intro ?_ ?_
       · first | omega | decide | (simp (disch := omega) only [wkW, Int.reduceToNat, Int.reducePow] <;> omega) | (simp <;> omega)) | (simp (disch := omega) only [wkW, Int.reduceToNat, Int.reducePow]) | fail
theorem shl_small {z k : Nat} (hz : z < 2 ^ 20000) (hk : k ≤ 40000) : Meets Tryz.prog 39 [.ints .u64 (natL z), .int .i64 (k : Int)] (.tup [.ints .u64 (natL (z * 2 ^ k)), .int .i64 0]) := by
  have h1 : z * 2 ^ k < 2 ^ 60000 := by
    refine Nat.lt_of_lt_of_le (Nat.mul_lt_mul_of_pos_right hz (Nat.two_pow_pos k)) ?_
    rw [← Nat.pow_add]; exact Nat.pow_le_pow_right (by decide) (Nat.add_le_add_left hk 20000)
  exact shl_nat (nmax_of hz (by decide)) (Nat.le_trans hk (by decide)) (nmax_of h1 (by decide))
theorem soft_aligned {x y : Nat} {ex ey : Int} (hx : x < 2 ^ 20000) (hy : y < 2 ^ 20000) (hex : -20000 ≤ ex ∧ ex ≤ 20000) (hey : -20000 ≤ ey ∧ ey ≤ 20000) : Meets Tryz.prog 202 [.ints .u64 (natL x), .int .i64 ex, .ints .u64 (natL y), .int .i64 ey] (.tup [.ints .u64 (natL (x * 2 ^ (ex - ey).toNat)), .ints .u64 (natL (y * 2 ^ (ey - ex).toNat)), .int .i64 (min ex ey)]) := by
  have hsx := fun k hk => shl_small (k := k) hx hk
  have hsy := fun k hk => shl_small (k := k) hy hk
  clear hx hy
  by_cases h : ey < ex
  · obtain ⟨k, hk⟩ : ∃ k : Nat, (k : Int) = ex - ey := ⟨(ex - ey).toNat, by omega⟩
    have h1 := hsx k (by omega)
    have w1 : IntKind.wrap .i64 (ex - ey) = (k : Int) := by rw [hk]; exact wrap_i64 (by omega)
    have d1 : decide (ey < ex) = true := decide_eq_true h
    rw [show (ex - ey).toNat = k by omega, show (ey - ex).toNat = 0 by omega, Nat.pow_zero, Nat.mul_one, show min ex ey = ey by omega]
    clear hsx hsy
    generalize natL (x * 2 ^ k) = r at *
    generalize natL x = a at *
    generalize natL y = b at *
    refine meets_by ttOk Tryz.func202 Tryz.ntmps202 Tryz.results202 (by kernel_rfl) (c := _) rfl rfl rfl fun E => ?_
    simp only [argsFrame]
    repeat' first
      | (with_reducible first | refine PW.seq ?_ | refine PW.block ?_ | refine PW.fork ?_ | refine PW.skip ?_ | refine PW.exit ?_ | refine PW.ret ?_ | refine PW.scope ?_ | refine PW.label ?_ | refine PW.goto ?_) | (simp only [w1, d1])
      | (with_reducible refine PW.region ttOk ?_ ?_
         · rfl)
      | (with_reducible refine PW.regionD ttOk mixed ?_ ?_ ?_
         · rfl
         · rfl) | (with_reducible refine ifW_dec (fun g => ?_) (fun g => ?_) <;> first | (exfalso; omega) | (simp -dsimp only [g, wkI])) | (with_reducible refine condE_dec (fun g => ?_) (fun g => ?_) <;> try (exfalso; omega)) | (with_reducible refine condE_not (fun g => ?_) (fun g => ?_) <;> try (exfalso; omega)) | (simp -dsimp only [↓wkA, ↓wkE, ↓wkJ, wkB, ↓tt, Nat.reduceBEq, Nat.reduceEqDiff, ↓reduceIte, Nat.reduceLT, Array.toList, Nat.reduceAdd, Nat.reduceMul, Int.reduceToNat, Int.reducePow, UInt8.reduceToNat]) | (refine call_by (h1) (views_data rfl) ⟨trivial, trivial, trivial⟩ rfl ?_) | (simp -dsimp (disch := first | assumption | omega) only [dec_t, dec_f])
      | (refine And.intro ?_ ?_
         · first | omega | decide | (simp (disch := omega) only [wkW, Int.reduceToNat, Int.reducePow] <;> omega) | (simp <;> omega)) | (simp (disch := omega) only [wkW, Int.reduceToNat, Int.reducePow]) | fail
  · obtain ⟨k, hk⟩ : ∃ k : Nat, (k : Int) = ey - ex := ⟨(ey - ex).toNat, by omega⟩
    have h1 := hsy k (by omega)
    have w1 : IntKind.wrap .i64 (ey - ex) = (k : Int) := by rw [hk]; exact wrap_i64 (by omega)
    have d1 : decide (ey < ex) = false := decide_eq_false h
    rw [show (ey - ex).toNat = k by omega, show (ex - ey).toNat = 0 by omega, Nat.pow_zero, Nat.mul_one, show min ex ey = ex by omega]
    clear hsx hsy
    generalize natL (y * 2 ^ k) = r at *
    generalize natL x = a at *
    generalize natL y = b at *
    refine meets_by ttOk Tryz.func202 Tryz.ntmps202 Tryz.results202 (by kernel_rfl) (c := _) rfl rfl rfl fun E => ?_
    simp only [argsFrame]
    repeat' first
      | (with_reducible first | refine PW.seq ?_ | refine PW.block ?_ | refine PW.fork ?_ | refine PW.skip ?_ | refine PW.exit ?_ | refine PW.ret ?_ | refine PW.scope ?_ | refine PW.label ?_ | refine PW.goto ?_) | (simp only [w1, d1])
      | (with_reducible refine PW.region ttOk ?_ ?_
         · rfl)
      | (with_reducible refine PW.regionD ttOk mixed ?_ ?_ ?_
         · rfl
         · rfl) | (with_reducible refine ifW_dec (fun g => ?_) (fun g => ?_) <;> first | (exfalso; omega) | (simp -dsimp only [g, wkI])) | (with_reducible refine condE_dec (fun g => ?_) (fun g => ?_) <;> try (exfalso; omega)) | (with_reducible refine condE_not (fun g => ?_) (fun g => ?_) <;> try (exfalso; omega)) | (simp -dsimp only [↓wkA, ↓wkE, ↓wkJ, wkB, ↓tt, Nat.reduceBEq, Nat.reduceEqDiff, ↓reduceIte, Nat.reduceLT, Array.toList, Nat.reduceAdd, Nat.reduceMul, Int.reduceToNat, Int.reducePow, UInt8.reduceToNat]) | (refine call_by (h1) (views_data rfl) ⟨trivial, trivial, trivial⟩ rfl ?_) | (simp -dsimp (disch := first | assumption | omega) only [dec_t, dec_f])
      | (refine And.intro ?_ ?_
         · first | omega | decide | (simp (disch := omega) only [wkW, Int.reduceToNat, Int.reducePow] <;> omega) | (simp <;> omega)) | (simp (disch := omega) only [wkW, Int.reduceToNat, Int.reducePow]) | fail
theorem flags_walk (ng ng2 : Bool) (a b m mb x1 y1 x2 y2 : List Int) (d c pe fe : Int) (mi : Int) (e1 e2 c1 c2 fl : Int) (hdec : Meets Tryz.prog 30 [.int .u64 d] (.agg [.bool ng2, .int .i64 c, .int .u64 mi, .int .i64 pe]))
    (hfu : Meets Tryz.prog 141 [.int .u64 mi] (.ints .u64 m)) (hmul : Meets Tryz.prog 61 [.ints .u64 b, .ints .u64 m] (.tup [.ints .u64 mb, .int .i64 0]))
    (hal1 : Meets Tryz.prog 202 [.ints .u64 a, .int .i64 fe, .ints .u64 mb, .int .i64 pe] (.tup [.ints .u64 x1, .ints .u64 y1, .int .i64 e1])) (hc1 : Meets Tryz.prog 62 [.ints .u64 x1, .ints .u64 y1] (.int .i64 c1))
    (hal2 : Meets Tryz.prog 202 [.ints .u64 a, .int .i64 fe, .ints .u64 b, .int .i64 (-1022)] (.tup [.ints .u64 x2, .ints .u64 y2, .int .i64 e2])) (hc2 : Meets Tryz.prog 62 [.ints .u64 x2, .ints .u64 y2] (.int .i64 c2))
    (hfl : (c = 3 ∧ fl = 20) ∨ (c ≠ 3 ∧ c1 = 0 ∧ fl = 0) ∨ (c ≠ 3 ∧ c1 ≠ 0 ∧ c2 < 0 ∧ fl = 24) ∨ (c ≠ 3 ∧ c1 ≠ 0 ∧ ¬ c2 < 0 ∧ fl = 16)) :
    Meets Tryz.prog 183 [.agg [.bool ng, .ints .u64 a, .ints .u64 b, .int .i64 fe], .int .u64 d] (.int .i64 fl) := by
  refine meets_by ttOk Tryz.func183 Tryz.ntmps183 Tryz.results183 (by kernel_rfl) (c := _) rfl rfl rfl fun E => ?_
  simp only [argsFrame]
  repeat' first
    | (with_reducible first | refine PW.seq ?_ | refine PW.block ?_ | refine PW.fork ?_ | refine PW.skip ?_ | refine PW.exit ?_ | refine PW.ret ?_ | refine PW.scope ?_ | refine PW.label ?_ | refine PW.goto ?_)
    | (with_reducible refine PW.region ttOk ?_ ?_
       · rfl)
    | (with_reducible refine PW.regionD ttOk mixed ?_ ?_ ?_
       · rfl
       · rfl) | (with_reducible refine ifW_dec (fun g => ?_) (fun g => ?_) <;> first | (exfalso; omega) | (simp -dsimp only [g, wkI])) | (with_reducible refine condE_dec (fun g => ?_) (fun g => ?_) <;> try (exfalso; omega)) | (with_reducible refine condE_not (fun g => ?_) (fun g => ?_) <;> try (exfalso; omega)) | (simp -dsimp only [↓wkA, ↓wkE, ↓wkJ, wkB, ↓tt, Nat.reduceBEq, Nat.reduceEqDiff, ↓reduceIte, Nat.reduceLT, Array.toList, Nat.reduceAdd, Nat.reduceMul, Int.reduceToNat, Int.reducePow, UInt8.reduceToNat]) | (refine call_by (hdec) (views_data rfl) ⟨trivial, trivial⟩ rfl ?_) | (refine callD_by (hfu) (views_data rfl) ⟨trivial, trivial⟩ rfl ?_) | (refine callD_by (hmul) (views_data rfl) ⟨trivial, trivial, trivial⟩ rfl ?_) | (refine call_by (hal1) (views_data rfl) ⟨trivial, trivial, trivial, trivial, trivial⟩ rfl ?_) | (refine call_by (hal2) (views_data rfl) ⟨trivial, trivial, trivial, trivial, trivial⟩ rfl ?_) | (refine call_by (hc1) (views_data rfl) ⟨trivial, trivial, trivial⟩ rfl ?_) | (refine call_by (hc2) (views_data rfl) ⟨trivial, trivial, trivial⟩ rfl ?_) | (simp -dsimp (disch := first | assumption | omega) only [dec_t, dec_f])
    | (refine And.intro ?_ ?_
       · first | omega | decide | (simp (disch := omega) only [wkW, Int.reduceToNat, Int.reducePow] <;> omega) | (simp <;> omega)) | (simp (disch := omega) only [wkW, Int.reduceToNat, Int.reducePow]) | fail
  all_goals (refine congrArg (PV.int _) ?_; omega)
theorem soft_flags (ng : Bool) {a b : Nat} (ha : a < 2 ^ 1000) (hb : b < 2 ^ 1000) (fe : Int) (hfe : -10000 ≤ fe ∧ fe ≤ 10000) (d : Nat) (hd : d < 18446744073709551616) : ∃ fl : Int, Meets Tryz.prog 183 [.agg [.bool ng, .ints .u64 (natL a), .ints .u64 (natL b), .int .i64 fe], .int .u64 (d : Int)] (.int .i64 fl) := by
  have hdec := ieee_decode d hd
  unfold partsP at hdec
  obtain ⟨m, hm, hmi⟩ : ∃ m : Nat, m < 2 ^ 53 ∧ partsM d = (m : Int) := by
    have h1 := mantD_lt d
    have h2 := frac_lt d
    unfold partsM
    split
    · exact ⟨_, h1, rfl⟩
    · exact ⟨_, Nat.lt_trans h2 (by decide), rfl⟩
  have hpe : -1074 ≤ partsE d ∧ partsE d ≤ 1100 := by
    have h1 := expD_ge d
    have h2 := field_lt d
    unfold partsE
    split
    · unfold expD at *; split <;> omega
    · omega
  rw [hmi] at hdec
  have hfu := from_uint m (Nat.lt_trans hm (by decide))
  have hbm : b * m < 2 ^ 2000 := by
    have := Nat.mul_lt_mul_of_lt_of_le hb (Nat.le_of_lt hm) (Nat.two_pow_pos 53)
    rw [← Nat.pow_add] at this
    exact Nat.lt_trans this (Nat.pow_lt_pow_right (by decide) (by decide))
  have hbig : ∀ {x k : Nat}, x < 2 ^ k → k ≤ 20000 → x < 2 ^ 20000 := fun h hk => Nat.lt_of_lt_of_le h (Nat.pow_le_pow_right (by decide) hk)
  have hmul := mul_nat0 (u := b) (v := m) (nmax_of hb (by decide)) (nmax_of hm (by decide)) (nmax_of hbm (by decide))
  have ha1 := soft_aligned (x := a) (y := b * m) (ex := fe) (ey := partsE d) (hbig ha (by decide)) (hbig hbm (by decide)) ⟨by omega, by omega⟩ ⟨by omega, by omega⟩
  have ha2 := soft_aligned (x := a) (y := b) (ex := fe) (ey := -1022) (hbig ha (by decide)) (hbig hb (by decide)) ⟨by omega, by omega⟩ ⟨by decide, by decide⟩
  have hsm : ∀ {x k : Nat}, x < 2 ^ 2000 → k ≤ 20000 → x * 2 ^ k < NMax := fun {x k} h hk => by
    have := Nat.mul_lt_mul_of_pos_right h (Nat.two_pow_pos k)
    rw [← Nat.pow_add] at this
    exact nmax_of this (Nat.le_trans (Nat.add_le_add_left hk 2000) (by decide))
  have hb2 : ∀ {x : Nat}, x < 2 ^ 1000 → x < 2 ^ 2000 := fun h => Nat.lt_trans h (Nat.pow_lt_pow_right (by decide) (by decide))
  have hc1 := cmp_nat (hsm (k := (fe - partsE d).toNat) (hb2 ha) (by omega)) (hsm (k := (partsE d - fe).toNat) hbm (by omega))
  have hc2 := cmp_nat (hsm (k := (fe - -1022).toNat) (hb2 ha) (by omega)) (hsm (k := (-1022 - fe).toNat) (hb2 hb) (by omega))
  generalize (if a * 2 ^ (fe - partsE d).toNat < b * m * 2 ^ (partsE d - fe).toNat then (-1 : Int) else if b * m * 2 ^ (partsE d - fe).toNat < a * 2 ^ (fe - partsE d).toNat then 1 else 0) = c1 at *
  generalize (if a * 2 ^ (fe - -1022).toNat < b * 2 ^ (-1022 - fe).toNat then (-1 : Int) else if b * 2 ^ (-1022 - fe).toNat < a * 2 ^ (fe - -1022).toNat then 1 else 0) = c2 at *
  have hw := fun fl h => flags_walk ng (negD d) _ _ _ _ _ _ _ _ (d : Int) (classD d) (partsE d) fe _ _ _ c1 c2 fl hdec hfu hmul ha1 hc1 ha2 hc2 h
  by_cases h3 : classD d = 3
  · exact ⟨20, hw 20 (.inl ⟨h3, rfl⟩)⟩
  · by_cases h4 : c1 = 0
    · exact ⟨0, hw 0 (.inr (.inl ⟨h3, h4, rfl⟩))⟩
    · by_cases h5 : c2 < 0
      · exact ⟨24, hw 24 (.inr (.inr (.inl ⟨h3, h4, h5, rfl⟩)))⟩
      · exact ⟨16, hw 16 (.inr (.inr (.inr ⟨h3, h4, h5, rfl⟩)))⟩
theorem with_sign_f (d : Int) : Meets Tryz.prog 179 [.bool false, .int .u64 d] (.int .u64 d) := by
  refine meets_by ttOk Tryz.func179 Tryz.ntmps179 Tryz.results179 (by kernel_rfl) (c := _) rfl rfl rfl fun E => ?_
  simp only [argsFrame]
  repeat' first
    | (with_reducible first | refine PW.seq ?_ | refine PW.block ?_ | refine PW.fork ?_ | refine PW.skip ?_ | refine PW.exit ?_ | refine PW.ret ?_ | refine PW.scope ?_ | refine PW.label ?_ | refine PW.goto ?_)
    | (with_reducible refine PW.region ttOk ?_ ?_
       · rfl)
    | (with_reducible refine PW.regionD ttOk mixed ?_ ?_ ?_
       · rfl
       · rfl) | (with_reducible refine ifW_dec (fun g => ?_) (fun g => ?_) <;> first | (exfalso; omega) | (simp -dsimp only [g, wkI])) | (with_reducible refine condE_dec (fun g => ?_) (fun g => ?_) <;> try (exfalso; omega)) | (with_reducible refine condE_not (fun g => ?_) (fun g => ?_) <;> try (exfalso; omega)) | (simp -dsimp only [↓wkA, ↓wkE, ↓wkJ, wkB, ↓tt, Nat.reduceBEq, Nat.reduceEqDiff, ↓reduceIte, Nat.reduceLT, Array.toList, Nat.reduceAdd, Nat.reduceMul, Int.reduceToNat, Int.reducePow, UInt8.reduceToNat]) | (simp -dsimp (disch := first | assumption | omega) only [dec_t, dec_f])
    | (refine And.intro ?_ ?_
       · first | omega | decide | (simp (disch := omega) only [wkW, Int.reduceToNat, Int.reducePow] <;> omega) | (simp <;> omega)) | (simp (disch := omega) only [wkW, Int.reduceToNat, Int.reducePow]) | fail
theorem rounded_walk (ng : Bool) (a : List Int) (e R fl : Int) (h0 : decide ((a.length : Int) = 0) = false) (hr : Meets Tryz.prog 101 [.bool ng, .ints .u64 a, .int .i64 e, .bool false] (.tup [.int .u64 R, .int .i64 0]))
    (hf : Meets Tryz.prog 183 [.agg [.bool ng, .ints .u64 a, .ints .u64 [1], .int .i64 e], .int .u64 R] (.int .i64 fl)) :
    Meets Tryz.prog 181 [.agg [.bool ng, .ints .u64 a, .int .i64 e]] (.tup [.int .u64 R, .int .i64 fl]) := by
  refine meets_by ttOk Tryz.func181 Tryz.ntmps181 Tryz.results181 (by kernel_rfl) (c := _) rfl rfl rfl fun E => ?_
  simp only [argsFrame]
  repeat' first
    | (with_reducible first | refine PW.seq ?_ | refine PW.block ?_ | refine PW.fork ?_ | refine PW.skip ?_ | refine PW.exit ?_ | refine PW.ret ?_ | refine PW.scope ?_ | refine PW.label ?_ | refine PW.goto ?_) | (simp only [h0])
    | (with_reducible refine PW.region ttOk ?_ ?_
       · rfl)
    | (with_reducible refine PW.regionD ttOk mixed ?_ ?_ ?_
       · rfl
       · rfl) | (with_reducible refine ifW_dec (fun g => ?_) (fun g => ?_) <;> first | (exfalso; omega) | (simp -dsimp only [g, wkI])) | (with_reducible refine condE_dec (fun g => ?_) (fun g => ?_) <;> try (exfalso; omega)) | (with_reducible refine condE_not (fun g => ?_) (fun g => ?_) <;> try (exfalso; omega)) | (simp -dsimp only [↓wkA, ↓wkE, ↓wkJ, wkB, ↓tt, Nat.reduceBEq, Nat.reduceEqDiff, ↓reduceIte, Nat.reduceLT, Array.toList, Nat.reduceAdd, Nat.reduceMul, Int.reduceToNat, Int.reducePow, UInt8.reduceToNat]) | (refine call_by (hr) (views_data rfl) ⟨trivial, trivial, trivial, trivial, trivial⟩ rfl ?_) | (refine call_by' (args' := [.agg [.bool ng, .ints .u64 a, .ints .u64 [1], .int .i64 e], .int .u64 R]) (by simp -dsimp only [↓wkA, ↓wkE, ↓wkJ, wkB, ↓tt, Nat.reduceBEq, Nat.reduceEqDiff, ↓reduceIte, Nat.reduceLT, Array.toList, Nat.reduceAdd, Nat.reduceMul, Int.reduceToNat, Int.reducePow, UInt8.reduceToNat]) hf (by simp -dsimp only [okViews, okView, okViews0, okView0, ↓wkA, ↓wkE, ↓wkJ, wkB, ↓tt, Nat.reduceBEq, Nat.reduceEqDiff, ↓reduceIte, Nat.reduceLT, Array.toList, Nat.reduceAdd, Nat.reduceMul, Int.reduceToNat, Int.reducePow, UInt8.reduceToNat] <;> decide) rfl ?_) | (simp -dsimp (disch := first | assumption | omega) only [dec_t, dec_f])
    | (refine And.intro ?_ ?_
       · first | omega | decide | (simp (disch := omega) only [wkW, Int.reduceToNat, Int.reducePow] <;> omega) | (simp <;> omega)) | (simp (disch := omega) only [wkW, Int.reduceToNat, Int.reducePow]) | fail
theorem rounded_zero (e : Int) : Meets Tryz.prog 181 [.agg [.bool false, .ints .u64 [], .int .i64 e]] (.tup [.int .u64 0, .int .i64 0]) := by
  have hw := with_sign_f 0
  refine meets_by ttOk Tryz.func181 Tryz.ntmps181 Tryz.results181 (by kernel_rfl) (c := _) rfl rfl rfl fun E => ?_
  simp only [argsFrame]
  repeat' first
    | (with_reducible first | refine PW.seq ?_ | refine PW.block ?_ | refine PW.fork ?_ | refine PW.skip ?_ | refine PW.exit ?_ | refine PW.ret ?_ | refine PW.scope ?_ | refine PW.label ?_ | refine PW.goto ?_)
    | (with_reducible refine PW.region ttOk ?_ ?_
       · rfl)
    | (with_reducible refine PW.regionD ttOk mixed ?_ ?_ ?_
       · rfl
       · rfl) | (with_reducible refine ifW_dec (fun g => ?_) (fun g => ?_) <;> first | (exfalso; omega) | (simp -dsimp only [g, wkI])) | (with_reducible refine condE_dec (fun g => ?_) (fun g => ?_) <;> try (exfalso; omega)) | (with_reducible refine condE_not (fun g => ?_) (fun g => ?_) <;> try (exfalso; omega)) | (simp -dsimp only [↓wkA, ↓wkE, ↓wkJ, wkB, ↓tt, Nat.reduceBEq, Nat.reduceEqDiff, ↓reduceIte, Nat.reduceLT, Array.toList, Nat.reduceAdd, Nat.reduceMul, Int.reduceToNat, Int.reducePow, UInt8.reduceToNat]) | (refine call_by (hw) (views_data rfl) ⟨trivial, trivial, trivial⟩ rfl ?_) | (simp -dsimp (disch := first | assumption | omega) only [dec_t, dec_f])
    | (refine And.intro ?_ ?_
       · first | omega | decide | (simp (disch := omega) only [wkW, Int.reduceToNat, Int.reducePow] <;> omega) | (simp <;> omega)) | (simp (disch := omega) only [wkW, Int.reduceToNat, Int.reducePow]) | fail
theorem product_walk (n1 n2 : Bool) (c1 c2 e1 e2 e : Int) (m1 m2 : Int) (a b p : List Int) (h1 : Meets Tryz.prog 141 [.int .u64 m1] (.ints .u64 a)) (h2 : Meets Tryz.prog 141 [.int .u64 m2] (.ints .u64 b)) (h3 : Meets Tryz.prog 61 [.ints .u64 a, .ints .u64 b] (.tup [.ints .u64 p, .int .i64 0])) (he : IntKind.wrap .i64 (e1 + e2) = e) :
    Meets Tryz.prog 180 [.agg [.bool n1, .int .i64 c1, .int .u64 m1, .int .i64 e1], .agg [.bool n2, .int .i64 c2, .int .u64 m2, .int .i64 e2]] (.agg [.bool (!(n1 == n2)), .ints .u64 p, .int .i64 e]) := by
  refine meets_by ttOk Tryz.func180 Tryz.ntmps180 Tryz.results180 (by kernel_rfl) (c := _) rfl rfl rfl fun E => ?_
  simp only [argsFrame]
  repeat' first
    | (with_reducible first | refine PW.seq ?_ | refine PW.block ?_ | refine PW.fork ?_ | refine PW.skip ?_ | refine PW.exit ?_ | refine PW.ret ?_ | refine PW.scope ?_ | refine PW.label ?_ | refine PW.goto ?_) | (simp only [he])
    | (with_reducible refine PW.region ttOk ?_ ?_
       · rfl)
    | (with_reducible refine PW.regionD ttOk mixed ?_ ?_ ?_
       · rfl
       · rfl) | (with_reducible refine ifW_dec (fun g => ?_) (fun g => ?_) <;> first | (exfalso; omega) | (simp -dsimp only [g, wkI])) | (with_reducible refine condE_dec (fun g => ?_) (fun g => ?_) <;> try (exfalso; omega)) | (with_reducible refine condE_not (fun g => ?_) (fun g => ?_) <;> try (exfalso; omega)) | (simp -dsimp only [↓wkA, ↓wkE, ↓wkJ, wkB, ↓tt, Nat.reduceBEq, Nat.reduceEqDiff, ↓reduceIte, Nat.reduceLT, Array.toList, Nat.reduceAdd, Nat.reduceMul, Int.reduceToNat, Int.reducePow, UInt8.reduceToNat]) | (refine callD_by (h1) (views_data rfl) ⟨trivial, trivial⟩ rfl ?_) | (refine callD_by (h2) (views_data rfl) ⟨trivial, trivial⟩ rfl ?_) | (refine callD_by (h3) (views_data rfl) ⟨trivial, trivial, trivial⟩ rfl ?_) | (simp -dsimp (disch := first | assumption | omega) only [dec_t, dec_f])
    | (refine And.intro ?_ ?_
       · first | omega | decide | (simp (disch := omega) only [wkW, Int.reduceToNat, Int.reducePow] <;> omega) | (simp <;> omega)) | (simp (disch := omega) only [wkW, Int.reduceToNat, Int.reducePow]) | fail
theorem mul_walk (x y z c1 c2 m1 m2 e1 e2 e R fl : Int) (p : List Int) (hc : (c1 ≠ 3 ∧ c1 ≠ 4) ∧ (c2 ≠ 3 ∧ c2 ≠ 4)) (h1 : Meets Tryz.prog 30 [.int .u64 x] (.agg [.bool false, .int .i64 c1, .int .u64 m1, .int .i64 e1])) (h2 : Meets Tryz.prog 30 [.int .u64 y] (.agg [.bool false, .int .i64 c2, .int .u64 m2, .int .i64 e2]))
    (h3 : Meets Tryz.prog 180 [.agg [.bool false, .int .i64 c1, .int .u64 m1, .int .i64 e1], .agg [.bool false, .int .i64 c2, .int .u64 m2, .int .i64 e2]] (.agg [.bool (!(false == false)), .ints .u64 p, .int .i64 e])) (h4 : Meets Tryz.prog 181 [.agg [.bool false, .ints .u64 p, .int .i64 e]] (.tup [.int .u64 R, .int .i64 fl])) :
    Meets Tryz.prog 142 [.int .u64 x, .int .u64 y, .int .u64 z] (.tup [.int .u64 R, .int .i64 fl]) := by
  have d1 : decide (c1 = 3) = false := decide_eq_false hc.1.1
  have d2 : decide (c1 = 4) = false := decide_eq_false hc.1.2
  have d3 : decide (c2 = 3) = false := decide_eq_false hc.2.1
  have d4 : decide (c2 = 4) = false := decide_eq_false hc.2.2
  have e0 : (!(false == false)) = false := rfl
  rw [e0] at h3
  by_cases hz : c1 = 0
  all_goals (refine meets_by ttOk Tryz.func142 Tryz.ntmps142 Tryz.results142 (by kernel_rfl) (c := _) rfl rfl rfl fun E => ?_; simp only [argsFrame])
  all_goals
    repeat' first
      | (with_reducible first | refine PW.seq ?_ | refine PW.block ?_ | refine PW.fork ?_ | refine PW.skip ?_ | refine PW.exit ?_ | refine PW.ret ?_ | refine PW.scope ?_ | refine PW.label ?_ | refine PW.goto ?_) | (simp only [d1, d2, d3, d4])
      | (with_reducible refine PW.region ttOk ?_ ?_
         · rfl)
      | (with_reducible refine PW.regionD ttOk mixed ?_ ?_ ?_
         · rfl
         · rfl) | (with_reducible refine ifW_dec (fun g => ?_) (fun g => ?_) <;> first | (exfalso; omega) | (simp -dsimp only [g, wkI])) | (with_reducible refine condE_dec (fun g => ?_) (fun g => ?_) <;> try (exfalso; omega)) | (with_reducible refine condE_not (fun g => ?_) (fun g => ?_) <;> try (exfalso; omega)) | (simp -dsimp only [↓wkA, ↓wkE, ↓wkJ, wkB, ↓tt, Nat.reduceBEq, Nat.reduceEqDiff, ↓reduceIte, Nat.reduceLT, Array.toList, Nat.reduceAdd, Nat.reduceMul, Int.reduceToNat, Int.reducePow, UInt8.reduceToNat]) | (refine call_by (h1) (views_data rfl) ⟨trivial, trivial⟩ rfl ?_) | (refine call_by (h2) (views_data rfl) ⟨trivial, trivial⟩ rfl ?_) | (refine call_by (h3) (views_data rfl) (by simp only [okViews, okView, okViews0, okView0, and_self]) rfl ?_) | (refine call_by (h4) (views_data rfl) (by simp only [okViews, okView, okViews0, okView0, and_self]) rfl ?_) | (simp -dsimp (disch := first | assumption | omega) only [dec_t, dec_f])
      | (refine And.intro ?_ ?_
         · first | omega | decide | (simp (disch := omega) only [wkW, Int.reduceToNat, Int.reducePow] <;> omega) | (simp <;> omega)) | (simp (disch := omega) only [wkW, Int.reduceToNat, Int.reducePow]) | fail
theorem mul_outer (x y R fl : Int) (h : Meets Tryz.prog 142 [.int .u64 x, .int .u64 y, .int .u64 0] (.tup [.int .u64 R, .int .i64 fl])) : Meets Tryz.prog 98 [.int .u64 x, .int .u64 y] (.int .u64 R) := by
  refine meets_by ttOk Tryz.func98 Tryz.ntmps98 Tryz.results98 (by kernel_rfl) (c := _) rfl rfl rfl fun E => ?_
  simp only [argsFrame]
  repeat' first
    | (with_reducible first | refine PW.seq ?_ | refine PW.block ?_ | refine PW.fork ?_ | refine PW.skip ?_ | refine PW.exit ?_ | refine PW.ret ?_ | refine PW.scope ?_ | refine PW.label ?_ | refine PW.goto ?_)
    | (with_reducible refine PW.region ttOk ?_ ?_
       · rfl)
    | (with_reducible refine PW.regionD ttOk mixed ?_ ?_ ?_
       · rfl
       · rfl) | (with_reducible refine ifW_dec (fun g => ?_) (fun g => ?_) <;> first | (exfalso; omega) | (simp -dsimp only [g, wkI])) | (with_reducible refine condE_dec (fun g => ?_) (fun g => ?_) <;> try (exfalso; omega)) | (with_reducible refine condE_not (fun g => ?_) (fun g => ?_) <;> try (exfalso; omega)) | (simp -dsimp only [↓wkA, ↓wkE, ↓wkJ, wkB, ↓tt, Nat.reduceBEq, Nat.reduceEqDiff, ↓reduceIte, Nat.reduceLT, Array.toList, Nat.reduceAdd, Nat.reduceMul, Int.reduceToNat, Int.reducePow, UInt8.reduceToNat]) | (refine call_by (h) (views_data rfl) ⟨trivial, trivial, trivial, trivial⟩ rfl ?_) | (simp -dsimp (disch := first | assumption | omega) only [dec_t, dec_f])
    | (refine And.intro ?_ ?_
       · first | omega | decide | (simp (disch := omega) only [wkW, Int.reduceToNat, Int.reducePow] <;> omega) | (simp <;> omega)) | (simp (disch := omega) only [wkW, Int.reduceToNat, Int.reducePow]) | fail
theorem negD_f {d : Nat} (h : d < 9223372036854775808) : negD d = false := decide_eq_false (by omega)
theorem absD_f {d : Nat} (h : d < 9223372036854775808) : absD d = d := Nat.mod_eq_of_lt h
theorem fin_parts {d : Nat} (hf : finD d) : (classD d ≠ 3 ∧ classD d ≠ 4) ∧ ((absD d = 0 ∧ classD d = 0 ∧ partsM d = 0 ∧ partsE d = 0) ∨ (absD d ≠ 0 ∧ classD d ≠ 0 ∧ partsM d = (mantD d : Int) ∧ partsE d = expD d)) := by
  have h1 := fin_class.1 hf
  have h2 := class_zero (d := d)
  refine ⟨⟨by omega, by omega⟩, ?_⟩
  by_cases h0 : absD d = 0
  · left
    have hc := h2.2 h0
    have h3 := abs_zero.1 h0
    refine ⟨h0, hc, ?_, ?_⟩
    · unfold partsM; rw [hc]; simp; omega
    · unfold partsE; rw [hc]; simp
  · right
    exact ⟨h0, fun e => h0 (h2.1 e), (parts_fin hf h0).1, (parts_fin hf h0).2⟩
theorem soft_mul {x y : Nat} (hx : x < 9223372036854775808) (hy : y < 9223372036854775808) (hfx : finD x) (hfy : finD y) : Meets Tryz.prog 98 [.int .u64 (x : Int), .int .u64 (y : Int)] (.int .u64 (rndU (dv x * dv y) (2 ^ 1074) : Int)) := by
  obtain ⟨hcx, hpx⟩ := fin_parts hfx
  obtain ⟨hcy, hpy⟩ := fin_parts hfy
  have hdx := ieee_decode x (by omega)
  have hdy := ieee_decode y (by omega)
  unfold partsP at hdx hdy
  rw [negD_f hx] at hdx
  rw [negD_f hy] at hdy
  have hmx : mantD x < 2 ^ 53 := mantD_lt x
  have hmy : mantD y < 2 ^ 53 := mantD_lt y
  have hex := expD_ge x
  have hex2 := expD_le hfx
  have hey := expD_ge y
  have hey2 := expD_le hfy
  have hvx := dv_parts x
  have hvy := dv_parts y
  have h0 := dv_zero
  rw [absD_f hx] at hvx hpx
  rw [absD_f hy] at hvy hpy
  have hpos : (0 : Nat) < 2 ^ 1074 := Nat.two_pow_pos _
  have h64 : ∀ {m : Nat}, m < 2 ^ 53 → m < 18446744073709551616 := fun h => Nat.lt_trans h (by decide)
  by_cases hz : x = 0 ∨ y = 0
  · -- nothing
    have hR : rndU (dv x * dv y) (2 ^ 1074) = 0 := by
      have : dv x * dv y = 0 := by rcases hz with rfl | rfl <;> rw [h0] <;> simp
      rw [this]; exact rndU_zero hpos
    rw [hR]
    obtain ⟨mx, hx1, hx2⟩ : ∃ m : Nat, m < 2 ^ 53 ∧ partsM x = (m : Int) ∧ (x = 0 → m = 0) := by
      rcases hpx with ⟨h1, _, h2, _⟩ | ⟨h1, _, h2, _⟩
      · exact ⟨0, by decide, h2, fun _ => rfl⟩
      · exact ⟨mantD x, hmx, h2, fun e => absurd e h1⟩
    obtain ⟨my, hy1, hy2⟩ : ∃ m : Nat, m < 2 ^ 53 ∧ partsM y = (m : Int) ∧ (y = 0 → m = 0) := by
      rcases hpy with ⟨h1, _, h2, _⟩ | ⟨h1, _, h2, _⟩
      · exact ⟨0, by decide, h2, fun _ => rfl⟩
      · exact ⟨mantD y, hmy, h2, fun e => absurd e h1⟩
    have hxy : mx * my = 0 := by
      rcases hz with h | h
      · rw [hx2.2 h]; simp
      · rw [hy2.2 h]; simp
    have hfux := from_uint mx (h64 hx1)
    have hfuy := from_uint my (h64 hy1)
    have hmul := mul_nat0 (u := mx) (v := my) (nmax_of hx1 (by decide)) (nmax_of hy1 (by decide)) (by rw [hxy]; exact nmax_pos)
    rw [hxy, natL_zero] at hmul
    rw [hx2.1] at hdx
    rw [hy2.1] at hdy
    have hpr := product_walk false false (classD x) (classD y) (partsE x) (partsE y) _ _ _ _ _ _ hfux hfuy hmul rfl
    exact mul_outer _ _ _ _ (mul_walk _ _ _ _ _ _ _ _ _ _ _ _ _ ⟨hcx, hcy⟩ hdx hdy hpr (rounded_zero _))
  · obtain ⟨_, hcx0, hx1, hx2⟩ := hpx.resolve_left (fun h => hz (.inl h.1))
    obtain ⟨_, hcy0, hy1, hy2⟩ := hpy.resolve_left (fun h => hz (.inr h.1))
    rw [hx1, hx2] at hdx
    rw [hy1, hy2] at hdy
    have hxy : mantD x * mantD y < 2 ^ 106 := by
      have := Nat.mul_lt_mul_of_lt_of_le hmx (Nat.le_of_lt hmy) (Nat.two_pow_pos 53)
      rw [← Nat.pow_add] at this
      exact this
    have hmx0 : mantD x ≠ 0 := fun e => hz (.inl (by have := mantD_zero.1 e; rwa [absD_f hx] at this))
    have hmy0 : mantD y ≠ 0 := fun e => hz (.inr (by have := mantD_zero.1 e; rwa [absD_f hy] at this))
    have hxy0 : mantD x * mantD y ≠ 0 := Nat.mul_ne_zero hmx0 hmy0
    have hfux := from_uint (mantD x) (h64 hmx)
    have hfuy := from_uint (mantD y) (h64 hmy)
    have hmul := mul_nat0 (u := mantD x) (v := mantD y) (nmax_of hmx (by decide)) (nmax_of hmy (by decide)) (nmax_of hxy (by decide))
    have hpr := product_walk false false (classD x) (classD y) (expD x) (expD y) (expD x + expD y) _ _ _ _ _ hfux hfuy hmul (wrap_i64 (by omega))
    have hr := ieee_round (n := mantD x * mantD y) (nmax_of hxy (by decide)) false (expD x + expD y) ⟨by omega, by omega⟩ false (N := dv x * dv y) (D := 2 ^ 1074) hpos (.inl ⟨rfl, by
      rw [hvx, hvy]
      have e : 2 ^ (expD x + 1074).toNat * 2 ^ (expD y + 1074).toNat * 2 ^ (-(expD x + expD y + 1074)).toNat = 2 ^ (expD x + expD y + 1074).toNat * 2 ^ 1074 := by
        rw [← Nat.pow_add, ← Nat.pow_add, ← Nat.pow_add]
        congr 1
        omega
      rw [← e]
      ac_rfl⟩) (fun h => by cases h)
    rw [signed_f] at hr
    obtain ⟨fl, hfl⟩ := soft_flags false (a := mantD x * mantD y) (b := 1) (Nat.lt_trans hxy (Nat.pow_lt_pow_right (by decide) (by decide))) (Nat.one_lt_two_pow (by decide)) (expD x + expD y) ⟨by omega, by omega⟩ (rndU (dv x * dv y) (2 ^ 1074)) (by have : rndU (dv x * dv y) (2 ^ 1074) ≤ infB := rndU_le; unfold infB at this; omega)
    rw [natL_oneL] at hfl
    have hlen : decide (((natL (mantD x * mantD y)).length : Int) = 0) = false := decide_eq_false (by have := (natL_ge hxy0).1; omega)
    exact mul_outer _ _ _ _ (mul_walk _ _ _ _ _ _ _ _ _ _ _ _ _ ⟨hcx, hcy⟩ hdx hdy hpr (rounded_walk false _ _ _ _ hlen hr hfl))
theorem div_walk (x y z c1 c2 m1 m2 e1 e2 e R fl : Int) (a b : List Int) (hc : (c1 ≠ 3 ∧ c1 ≠ 4 ∧ c1 ≠ 0) ∧ (c2 ≠ 3 ∧ c2 ≠ 4 ∧ c2 ≠ 0)) (h1 : Meets Tryz.prog 30 [.int .u64 x] (.agg [.bool false, .int .i64 c1, .int .u64 m1, .int .i64 e1])) (h2 : Meets Tryz.prog 30 [.int .u64 y] (.agg [.bool false, .int .i64 c2, .int .u64 m2, .int .i64 e2]))
    (h3 : Meets Tryz.prog 141 [.int .u64 m1] (.ints .u64 a)) (h4 : Meets Tryz.prog 141 [.int .u64 m2] (.ints .u64 b)) (he : IntKind.wrap .i64 (e1 - e2) = e)
    (h5 : Meets Tryz.prog 182 [.bool false, .ints .u64 a, .ints .u64 b, .int .i64 e] (.tup [.int .u64 R, .int .i64 0])) (h6 : Meets Tryz.prog 183 [.agg [.bool false, .ints .u64 a, .ints .u64 b, .int .i64 e], .int .u64 R] (.int .i64 fl)) :
    Meets Tryz.prog 143 [.int .u64 x, .int .u64 y, .int .u64 z] (.tup [.int .u64 R, .int .i64 fl]) := by
  have d1 : decide (c1 = 3) = false := decide_eq_false hc.1.1
  have d2 : decide (c1 = 4) = false := decide_eq_false hc.1.2.1
  have d3 : decide (c2 = 3) = false := decide_eq_false hc.2.1
  have d4 : decide (c2 = 4) = false := decide_eq_false hc.2.2.1
  have d5 : decide (c1 = 0) = false := decide_eq_false hc.1.2.2
  have d6 : decide (c2 = 0) = false := decide_eq_false hc.2.2.2
  by_cases hz : c1 = c2
  case' pos => have d7 : decide (c1 = c2) = true := decide_eq_true hz
  case' neg => have d7 : decide (c1 = c2) = false := decide_eq_false hz
  all_goals (refine meets_by ttOk Tryz.func143 Tryz.ntmps143 Tryz.results143 (by kernel_rfl) (c := _) rfl rfl rfl fun E => ?_; simp only [argsFrame])
  all_goals
    repeat' first
      | (with_reducible first | refine PW.seq ?_ | refine PW.block ?_ | refine PW.fork ?_ | refine PW.skip ?_ | refine PW.exit ?_ | refine PW.ret ?_ | refine PW.scope ?_ | refine PW.label ?_ | refine PW.goto ?_) | (simp only [d1, d2, d3, d4, d5, d6, d7, he])
      | (with_reducible refine PW.region ttOk ?_ ?_
         · rfl)
      | (refine PW.regionA ttOk mixed rfl rfl rfl rfl rfl rfl rfl ?_)
      | (with_reducible refine PW.regionD ttOk mixed ?_ ?_ ?_
         · rfl
         · rfl) | (with_reducible refine ifW_dec (fun g => ?_) (fun g => ?_) <;> first | (exfalso; omega) | (simp -dsimp only [g, wkI])) | (with_reducible refine condE_dec (fun g => ?_) (fun g => ?_) <;> try (exfalso; omega)) | (with_reducible refine condE_not (fun g => ?_) (fun g => ?_) <;> try (exfalso; omega)) | (simp -dsimp only [↓opsA_nil, ↓opsA_cons, same_self, and_true, true_and, ↓wkA, ↓wkE, ↓wkJ, wkB, ↓tt, Nat.reduceBEq, Nat.reduceEqDiff, ↓reduceIte, Nat.reduceLT, Array.toList, Nat.reduceAdd, Nat.reduceMul, Int.reduceToNat, Int.reducePow, UInt8.reduceToNat]) | (refine call_by (h1) (views_data rfl) ⟨trivial, trivial⟩ rfl ?_) | (refine call_by (h2) (views_data rfl) ⟨trivial, trivial⟩ rfl ?_) | (refine callD_by (h3) (views_data rfl) ⟨trivial, trivial⟩ rfl ?_) | (refine callD_by (h4) (views_data rfl) ⟨trivial, trivial⟩ rfl ?_) | (refine call_by (h5) (views_data rfl) ⟨trivial, trivial, trivial, trivial, trivial⟩ rfl ?_) | (refine call_by (h6) (views_data rfl) (by simp only [okViews, okView, okViews0, okView0, and_self]) rfl ?_) | (simp -dsimp (disch := first | assumption | omega) only [dec_t, dec_f])
      | (refine And.intro ?_ ?_
         · first | omega | decide | (simp (disch := omega) only [wkW, Int.reduceToNat, Int.reducePow] <;> omega) | (simp <;> omega)) | (simp (disch := omega) only [wkW, Int.reduceToNat, Int.reducePow]) | fail
theorem div_walk_zero (x y z c2 m1 m2 e1 e2 : Int) (hc : c2 ≠ 3 ∧ c2 ≠ 4 ∧ c2 ≠ 0) (h1 : Meets Tryz.prog 30 [.int .u64 x] (.agg [.bool false, .int .i64 0, .int .u64 m1, .int .i64 e1])) (h2 : Meets Tryz.prog 30 [.int .u64 y] (.agg [.bool false, .int .i64 c2, .int .u64 m2, .int .i64 e2])) :
    Meets Tryz.prog 143 [.int .u64 x, .int .u64 y, .int .u64 z] (.tup [.int .u64 0, .int .i64 0]) := by
  have d3 : decide (c2 = 3) = false := decide_eq_false hc.1
  have d4 : decide (c2 = 4) = false := decide_eq_false hc.2.1
  have d6 : decide (c2 = 0) = false := decide_eq_false hc.2.2
  have d7 : decide (0 = c2) = false := decide_eq_false (fun e => hc.2.2 e.symm)
  have h5 := with_sign_f 0
  refine meets_by ttOk Tryz.func143 Tryz.ntmps143 Tryz.results143 (by kernel_rfl) (c := _) rfl rfl rfl fun E => ?_
  simp only [argsFrame]
  repeat' first
    | (with_reducible first | refine PW.seq ?_ | refine PW.block ?_ | refine PW.fork ?_ | refine PW.skip ?_ | refine PW.exit ?_ | refine PW.ret ?_ | refine PW.scope ?_ | refine PW.label ?_ | refine PW.goto ?_) | (simp only [d3, d4, d6, d7])
    | (with_reducible refine PW.region ttOk ?_ ?_
       · rfl)
    | (with_reducible refine PW.regionD ttOk mixed ?_ ?_ ?_
       · rfl
       · rfl) | (with_reducible refine ifW_dec (fun g => ?_) (fun g => ?_) <;> first | (exfalso; omega) | (simp -dsimp only [g, wkI])) | (with_reducible refine condE_dec (fun g => ?_) (fun g => ?_) <;> try (exfalso; omega)) | (with_reducible refine condE_not (fun g => ?_) (fun g => ?_) <;> try (exfalso; omega)) | (simp -dsimp only [↓wkA, ↓wkE, ↓wkJ, wkB, ↓tt, Nat.reduceBEq, Nat.reduceEqDiff, ↓reduceIte, Nat.reduceLT, Array.toList, Nat.reduceAdd, Nat.reduceMul, Int.reduceToNat, Int.reducePow, UInt8.reduceToNat]) | (refine call_by (h1) (views_data rfl) ⟨trivial, trivial⟩ rfl ?_) | (refine call_by (h2) (views_data rfl) ⟨trivial, trivial⟩ rfl ?_) | (refine call_by (h5) (views_data rfl) ⟨trivial, trivial, trivial⟩ rfl ?_) | (simp -dsimp (disch := first | assumption | omega) only [dec_t, dec_f])
    | (refine And.intro ?_ ?_
       · first | omega | decide | (simp (disch := omega) only [wkW, Int.reduceToNat, Int.reducePow] <;> omega) | (simp <;> omega)) | (simp (disch := omega) only [wkW, Int.reduceToNat, Int.reducePow]) | fail
theorem div_outer (x y R fl : Int) (h : Meets Tryz.prog 143 [.int .u64 x, .int .u64 y, .int .u64 0] (.tup [.int .u64 R, .int .i64 fl])) : Meets Tryz.prog 99 [.int .u64 x, .int .u64 y] (.int .u64 R) := by
  refine meets_by ttOk Tryz.func99 Tryz.ntmps99 Tryz.results99 (by kernel_rfl) (c := _) rfl rfl rfl fun E => ?_
  simp only [argsFrame]
  repeat' first
    | (with_reducible first | refine PW.seq ?_ | refine PW.block ?_ | refine PW.fork ?_ | refine PW.skip ?_ | refine PW.exit ?_ | refine PW.ret ?_ | refine PW.scope ?_ | refine PW.label ?_ | refine PW.goto ?_)
    | (with_reducible refine PW.region ttOk ?_ ?_
       · rfl)
    | (with_reducible refine PW.regionD ttOk mixed ?_ ?_ ?_
       · rfl
       · rfl) | (with_reducible refine ifW_dec (fun g => ?_) (fun g => ?_) <;> first | (exfalso; omega) | (simp -dsimp only [g, wkI])) | (with_reducible refine condE_dec (fun g => ?_) (fun g => ?_) <;> try (exfalso; omega)) | (with_reducible refine condE_not (fun g => ?_) (fun g => ?_) <;> try (exfalso; omega)) | (simp -dsimp only [↓wkA, ↓wkE, ↓wkJ, wkB, ↓tt, Nat.reduceBEq, Nat.reduceEqDiff, ↓reduceIte, Nat.reduceLT, Array.toList, Nat.reduceAdd, Nat.reduceMul, Int.reduceToNat, Int.reducePow, UInt8.reduceToNat]) | (refine call_by (h) (views_data rfl) ⟨trivial, trivial, trivial, trivial⟩ rfl ?_) | (simp -dsimp (disch := first | assumption | omega) only [dec_t, dec_f])
    | (refine And.intro ?_ ?_
       · first | omega | decide | (simp (disch := omega) only [wkW, Int.reduceToNat, Int.reducePow] <;> omega) | (simp <;> omega)) | (simp (disch := omega) only [wkW, Int.reduceToNat, Int.reducePow]) | fail
theorem soft_div {x y : Nat} (hx : x < 9223372036854775808) (hy : y < 9223372036854775808) (hfx : finD x) (hfy : finD y) (hy0 : y ≠ 0) : Meets Tryz.prog 99 [.int .u64 (x : Int), .int .u64 (y : Int)] (.int .u64 (rndU (dv x * 2 ^ 1074) (dv y) : Int)) := by
  obtain ⟨hcx, hpx⟩ := fin_parts hfx
  obtain ⟨hcy, hpy⟩ := fin_parts hfy
  have hdx := ieee_decode x (by omega)
  have hdy := ieee_decode y (by omega)
  unfold partsP at hdx hdy
  rw [negD_f hx] at hdx
  rw [negD_f hy] at hdy
  have hmx : mantD x < 2 ^ 53 := mantD_lt x
  have hmy : mantD y < 2 ^ 53 := mantD_lt y
  have hex := expD_ge x
  have hex2 := expD_le hfx
  have hey := expD_ge y
  have hey2 := expD_le hfy
  have hvx := dv_parts x
  have hvy := dv_parts y
  rw [absD_f hx] at hvx hpx
  rw [absD_f hy] at hvy hpy
  have hdvy : 0 < dv y := dv_lt (show 0 < y by omega)
  have h64 : ∀ {m : Nat}, m < 2 ^ 53 → m < 18446744073709551616 := fun h => Nat.lt_trans h (by decide)
  obtain ⟨_, hcy0, hy1, hy2⟩ := hpy.resolve_left (fun h => hy0 h.1)
  have hmy0 : mantD y ≠ 0 := fun e => hy0 (by have := mantD_zero.1 e; rwa [absD_f hy] at this)
  rw [hy1, hy2] at hdy
  by_cases hz : x = 0
  · subst hz
    rw [dv_zero, Nat.zero_mul, rndU_zero hdvy]
    obtain ⟨_, hc0, _, _⟩ := hpx.resolve_right (fun h => h.1 rfl)
    rw [hc0] at hdx
    exact div_outer _ _ _ _ (div_walk_zero _ _ _ _ _ _ _ _ ⟨hcy.1, hcy.2, hcy0⟩ hdx hdy)
  · obtain ⟨_, hcx0, hx1, hx2⟩ := hpx.resolve_left (fun h => hz h.1)
    rw [hx1, hx2] at hdx
    have hfux := from_uint (mantD x) (h64 hmx)
    have hfuy := from_uint (mantD y) (h64 hmy)
    have hr := round_ratio (u := mantD x) (v := mantD y) (nmax_of hmx (by decide)) (nmax_of hmy (by decide)) hmy0 false (expD x - expD y) ⟨by omega, by omega⟩
    have hR : rrat (mantD x) (mantD y) (expD x - expD y) = rndU (dv x * 2 ^ 1074) (dv y) := by
      unfold rrat
      refine rndU_congr (Nat.mul_pos (Nat.pos_of_ne_zero hmy0) (Nat.two_pow_pos _)) hdvy ?_
      rw [hvx, hvy]
      have e : 2 ^ (expD x - expD y + 1074).toNat * 2 ^ (expD y + 1074).toNat = 2 ^ (expD x + 1074).toNat * 2 ^ 1074 * 2 ^ (-(expD x - expD y + 1074)).toNat := by
        rw [← Nat.pow_add, ← Nat.pow_add, ← Nat.pow_add]
        congr 1
        omega
      have e2 : ∀ a b p q : Nat, a * p * (b * q) = a * b * (p * q) := fun a b p q => by ac_rfl
      rw [e2, e]
      ac_rfl
    rw [signed_f, hR] at hr
    obtain ⟨fl, hfl⟩ := soft_flags false (a := mantD x) (b := mantD y) (Nat.lt_trans hmx (Nat.pow_lt_pow_right (by decide) (by decide))) (Nat.lt_trans hmy (Nat.pow_lt_pow_right (by decide) (by decide))) (expD x - expD y) ⟨by omega, by omega⟩ (rndU (dv x * 2 ^ 1074) (dv y)) (by have : rndU (dv x * 2 ^ 1074) (dv y) ≤ infB := rndU_le; unfold infB at this; omega)
    exact div_outer _ _ _ _ (div_walk _ _ _ _ _ _ _ _ _ _ _ _ _ _ ⟨⟨hcx.1, hcx.2, hcx0⟩, ⟨hcy.1, hcy.2, hcy0⟩⟩ hdx hdy hfux hfuy (wrap_i64 (by omega)) hr hfl)
end Go.Proofs.YtbmhnjghpjkjpaaGreatDoor

/- Contracts and laws that the row leans on, part 8: texts that were built one by one, laid together. -/
import Derived.Test.YtmoilbeomnapfaaGreatDoorPart4
import Derived.Test.YtmoilbeomnapfaaGreatDoorPart7
import Derived.Test.YtmoilbeomnapfaaGreatDoorPart5
import Derived.Test.YtmoilbeomnapfaaGreatDoorPart6
import Derived.Shelf.Small.Strs
import Derived.Shelf.Strconv.Itoa0
import Derived.Shelf.Strconv.Itoa1
import Derived.Shelf.LaysM
import Derived.Shelf.Strconv.Itoa2
import Derived.Shelf.Strconv.Itoa3
import Derived.Shelf.Strconv.Clone
import Derived.Shelf.Strings.Search1
import Derived.Shelf.Strings.Prefix
import Derived.Shelf.Strings.Repeat
import Derived.Test.YtmoilbeomnapfaaGreatDoorProg
set_option maxHeartbeats 4000000
set_option maxRecDepth 4000
set_option exponentiation.threshold 300000
set_option linter.unusedVariables false
set_option linter.unusedSimpArgs false
namespace Go.Proofs.YtmoilbeomnapfaaGreatDoor
open Go Go.PV
structure LesS (x y s : List Int) (i : Nat) (c : Int) : Prop where
  len : s.length = i
  wds : Words s
  car : 0 ≤ c ∧ c ≤ 1
  eq : wal s - B32 ^ i * c = wt x i - wt y i
theorem LesS.step {x y s : List Int} {i : Nat} {c o t b : Int} (h : LesS x y s i c) (hx : Words x) (hy : Words y) (ho : c + y.getD i 0 = o) (ht : (x.getD i 0 < o ∧ t = x.getD i 0 + 4294967296 - o ∧ b = 1) ∨ (¬ x.getD i 0 < o ∧ t = x.getD i 0 - o ∧ b = 0)) : LesS x y (s ++ [t]) (i + 1) b := by
  have h1 := getD_word hx i
  have h2 := getD_word hy i
  have hc := h.car
  simp only [B32] at h1 h2
  refine ⟨by rw [len_snoc, h.len], words_snoc h.wds (by simp only [B32]; omega), by omega, ?_⟩
  rw [wal_snoc, h.len]
  simp only [wt]
  rw [Int.pow_succ]
  have he := h.eq
  have e : t - 4294967296 * b = x.getD i 0 - y.getD i 0 - c := by omega
  have e2 : t = x.getD i 0 - y.getD i 0 - c + 4294967296 * b := by omega
  rw [e2]
  simp only [B32] at he ⊢
  generalize (4294967296 : Int) ^ i = p at *
  grind
abbrev lsF (x y : List Int) (i : Nat) (c : Int) : PV.Frame := [(9, .int .i64 (i : Int)), (8, .int .u64 c), (7, .sl 0 0 i true), (5, .ints .u64 x), (6, .ints .u64 y)]
theorem less_walk (a b x y : List Int) (ha : Meets Tryz.prog 112 [.ints .u64 a] (.ints .u64 x)) (hb : Meets Tryz.prog 112 [.ints .u64 b] (.ints .u64 y)) (hx : Words x) (hy : Words y) (hxl : x.length ≤ 1000000) (hyx : wal y ≤ wal x) (v : Nat) (hv : wal x - wal y = v) :
    Meets Tryz.prog 73 [.ints .u64 a, .ints .u64 b] (.ints .u64 (natL v)) := by
  have hlim : ∀ s c, LesS x y s x.length c → Meets Tryz.prog 113 [.ints .u64 s] (.ints .u64 (natL v)) := fun s c hS => by
    have hc := hS.car
    have hy0 := (wt_bound hy x.length).2
    have hyl : wt y x.length ≤ wal x := by
      refine Int.le_trans ?_ hyx
      rcases Nat.le_total x.length y.length with h | h
      · obtain ⟨d, hd⟩ := Nat.exists_eq_add_of_le h
        unfold wal
        rw [hd]
        clear hd h
        induction d with
        | zero => exact Int.le_refl _
        | succ d ih =>
          rw [show x.length + (d + 1) = x.length + d + 1 by omega]
          simp only [wt]
          have := getD_word hy (x.length + d)
          have h3 := Int.mul_nonneg (Int.le_of_lt (pow_pos32 (x.length + d))) this.1
          omega
      · rw [wt_beyond _ h]; exact Int.le_refl _
    have he := hS.eq
    rw [show wt x x.length = wal x from rfl] at he
    have hb := wt_bound hS.wds s.length
    rw [show wt s s.length = wal s from rfl, hS.len] at hb
    have hc0 : c = 0 := by
      rcases (show c = 0 ∨ c = 1 by omega) with h | h
      · exact h
      · exfalso; rw [h, Int.mul_one] at he; omega
    have hyw : wt y x.length = wal y := by
      -- what lies above is zero, as the number is at most x
      rcases Nat.le_total y.length x.length with h | h
      · exact wt_beyond _ h
      · obtain ⟨d, hd⟩ := Nat.exists_eq_add_of_le h
        have hxb : wal x < B32 ^ x.length := (wt_bound hx x.length).2
        have hge : ∀ n, wt y x.length ≤ wt y (x.length + n) ∧ (wt y (x.length + n) = wt y x.length ∨ B32 ^ x.length ≤ wt y (x.length + n)) := by
          intro n
          induction n with
          | zero => exact ⟨Int.le_refl _, .inl rfl⟩
          | succ n ih =>
            rw [show x.length + (n + 1) = x.length + n + 1 by omega]
            simp only [wt]
            have hg := getD_word hy (x.length + n)
            have hp := pow_pos32 (x.length + n)
            have hw := (wt_bound hy (x.length + n)).1
            by_cases h0 : y.getD (x.length + n) 0 = 0
            · rw [h0, Int.mul_zero, Int.add_zero]; exact ih
            · have h4 : B32 ^ (x.length + n) * 1 ≤ B32 ^ (x.length + n) * y.getD (x.length + n) 0 := Int.mul_le_mul_of_nonneg_left (by omega) (Int.le_of_lt hp)
              have h5 : (B32 : Int) ^ x.length ≤ B32 ^ (x.length + n) := by
                have e : B32 = ((4294967296 : Nat) : Int) := rfl
                rw [e, ← Int.natCast_pow, ← Int.natCast_pow]
                exact Int.ofNat_le.2 (Nat.pow_le_pow_right (by decide) (by omega))
              exact ⟨by omega, .inr (by omega)⟩
        have h6 := hge d
        rw [← hd, show wt y y.length = wal y from rfl] at h6
        rcases h6.2 with h7 | h7
        · exact h7.symm
        · omega
    refine ref01_limbs _ hS.wds (by rw [hS.len]; omega) v ?_
    rw [hc0, Int.mul_zero, Int.sub_zero, hyw] at he
    rw [he, hv]
  generalize natL v = res at *
  clear hv
  refine meets_by ttOk Tryz.func73 Tryz.ntmps73 Tryz.results73 (by kernel_rfl) (c := _) rfl rfl rfl fun E => ?_
  simp only [argsFrame]
  have W := Int.toNat_natCast
  refine walk1 ?_
  refine PW.loopA (fun m F H => ∃ i s c, i + m = x.length ∧ LesS x y s i c ∧ F = lsF x y i c ∧ H = ⟨1, [(0, .ints .u64 s)], [], []⟩) x.length (lsF x y 0 0) ⟨1, [(0, .ints .u64 [])], [], []⟩ (Sub.norm ⟨rfl, rfl, rfl, rfl, rfl, trivial⟩ ⟨rfl, trivial⟩ (Nat.le_refl _) rfl rfl rfl rfl) ⟨0, [], 0, by omega, ⟨rfl, fun x hx => (by cases hx), by decide, by simp [wt, wal]⟩, rfl, rfl⟩ ?_
  rintro m F H ⟨i, s, c, hi, hS, rfl, rfl⟩
  have hsl := hS.len
  have hcar := hS.car
  have htk : List.take i s = s := List.take_of_length_le (by omega)
  cases m with
  | zero =>
    obtain rfl : i = x.length := by omega
    have hm := hlim s c hS
    repeat' first
      | (with_reducible first | refine PW.seq ?_ | refine PW.block ?_ | refine PW.fork ?_ | refine PW.skip ?_ | refine PW.exit ?_ | refine PW.ret ?_ | refine PW.scope ?_ | refine PW.label ?_ | refine PW.goto ?_)
      | (simp only [htk])
      | (with_reducible refine PW.region ttOk ?_ ?_
         · rfl)
      | (with_reducible refine PW.regionD ttOk mixed ?_ ?_ ?_
         · rfl
         · rfl)
      | (with_reducible refine ifW_dec (fun g => ?_) (fun g => ?_) <;> first | (exfalso; omega) | (simp -dsimp only [g, wkI]))
      | (with_reducible refine condE_dec (fun g => ?_) (fun g => ?_) <;> try (exfalso; omega))
      | (with_reducible refine condE_not (fun g => ?_) (fun g => ?_) <;> try (exfalso; omega))
      | (simp -dsimp only [↓wkA, ↓wkE, ↓wkJ, wkB, ↓tt, Nat.reduceBEq, Nat.reduceEqDiff, ↓reduceIte, Nat.reduceLT, Array.toList, Nat.reduceAdd, Nat.reduceMul, Int.reduceToNat, Int.reducePow, UInt8.reduceToNat])
      | (refine call_drop (args' := [.ints .u64 s]) (by simp -dsimp only [↓wkA, ↓wkE, ↓wkJ, wkB, ↓tt, Nat.reduceBEq, Nat.reduceEqDiff, ↓reduceIte, Nat.reduceLT, Array.toList, Nat.reduceAdd, Nat.reduceMul, Int.reduceToNat, Int.reducePow, UInt8.reduceToNat] <;> rw [htk]) hm (by simp -dsimp only [okViews, ↓wkA, ↓wkE, ↓wkJ, wkB, ↓tt, Nat.reduceBEq, Nat.reduceEqDiff, ↓reduceIte, Nat.reduceLT, Array.toList, Nat.reduceAdd, Nat.reduceMul, Int.reduceToNat, Int.reducePow, UInt8.reduceToNat] <;> omega) rfl ?_)
      | (simp -dsimp (disch := first | assumption | omega) only [dec_t, dec_f])
      | (refine andI ?_)
      | (simp (disch := omega) only [wkW, Int.reduceToNat, Int.reducePow])
      | fail
  | succ m =>
    have h1 := getD_word hx i
    have h2 := getD_word hy i
    simp only [B32] at h1 h2
    have w2 : IntKind.wrap .i64 ((i : Int) + 1) = ((i + 1 : Nat) : Int) := wrap_i64 (by omega)
    have w3 : IntKind.wrap .u64 (c + y.getD i 0) = c + y.getD i 0 := wrap_u64 (by omega)
    have w4 : IntKind.wrap .u64 (x.getD i 0 + 4294967296) = x.getD i 0 + 4294967296 := wrap_u64 (by omega)
    have d0 : decide ((i : Int) < (x.length : Int)) = true := decide_eq_true (by omega)
    by_cases hiy : i < y.length
    case' pos =>
      have d1 : decide ((i : Int) < (y.length : Int)) = true := decide_eq_true (by omega)
      obtain ⟨o, ho⟩ : ∃ o, c + y.getD i 0 = o := ⟨_, rfl⟩
      have ho2 : c + y.getD i 0 = o := ho
    case' neg =>
      have d1 : decide ((i : Int) < (y.length : Int)) = false := decide_eq_false (by omega)
      have hy0 := getD_none (Nat.le_of_not_lt hiy)
      obtain ⟨o, ho⟩ : ∃ o, c = o := ⟨_, rfl⟩
      have ho2 : c + y.getD i 0 = o := by rw [hy0]; omega
    all_goals have w6 : IntKind.wrap .u64 o = o := wrap_u64 (by omega)
    all_goals by_cases hlt : x.getD i 0 < o
    all_goals first
      | (have d2 : decide (x.getD i 0 < o) = true := decide_eq_true hlt; have hst := hS.step hx hy ho2 (.inl ⟨hlt, rfl, rfl⟩); have w5 : IntKind.wrap .u64 (x.getD i 0 + 4294967296 - o) = x.getD i 0 + 4294967296 - o := wrap_u64 (by omega))
      | (have d2 : decide (x.getD i 0 < o) = false := decide_eq_false hlt; have hst := hS.step hx hy ho2 (.inr ⟨hlt, rfl, rfl⟩); have w5 : IntKind.wrap .u64 (x.getD i 0 - o) = x.getD i 0 - o := wrap_u64 (by omega))
    all_goals
      have W := cj d0 (cj d1 (cj d2 (cj w2 (cj w3 (cj w4 (cj w5 (cj w6 (cj ho htk))))))))
      refine walk1 ?_
    all_goals simp only [hsl]
    all_goals exact Again.mk m (lsF x y (i + 1) _) ⟨1, [(0, .ints .u64 _)], [], []⟩ (by omega) (Sub.norm ⟨rfl, rfl, rfl, rfl, rfl, trivial⟩ ⟨rfl, trivial⟩ (by simp) rfl rfl rfl rfl) ⟨i + 1, _, _, by omega, hst, rfl, rfl⟩
theorem ref01_less {a b : List Int} (ha : Limbs a) (hb : Limbs b) (hla : a.length ≤ 100000) (hlb : b.length ≤ 100000) {u v : Nat} (hu : val a = u) (hv : val b = v) (hle : v ≤ u) : Meets Tryz.prog 73 [.ints .u64 a, .ints .u64 b] (.ints .u64 (natL (u - v))) := by
  have l1 := hv_len a
  exact less_walk a b _ _ (ref01_halves a ha (by omega)) (ref01_halves b hb (by omega)) (hv_words ha) (hv_words hb) (by omega) (by rw [hv_wal, hv_wal, hu, hv]; omega) _ (by rw [hv_wal, hv_wal, hu, hv]; omega)
theorem ref12_ten (n : Int) (hn : -10000 ≤ n ∧ n ≤ 10000) : Meets Tryz.prog 106 [.int .i64 n] (.ints .u64 (natL (10 ^ n.toNat))) := by
  have h1 := ref02_pow10 n.toNat (by omega)
  generalize natL (10 ^ n.toNat) = r at *
  by_cases h0 : n < 0
  · have d0 : decide (n < 0) = true := decide_eq_true h0
    rw [show ((n.toNat : Nat) : Int) = 0 by omega] at h1
    refine meets_by ttOk Tryz.func106 Tryz.ntmps106 Tryz.results106 (by kernel_rfl) (c := _) rfl rfl rfl fun E => ?_
    simp only [argsFrame]
    have W := d0
    exact walk
  · have d0 : decide (n < 0) = false := decide_eq_false h0
    rw [show ((n.toNat : Nat) : Int) = n by omega] at h1
    refine meets_by ttOk Tryz.func106 Tryz.ntmps106 Tryz.results106 (by kernel_rfl) (c := _) rfl rfl rfl fun E => ?_
    simp only [argsFrame]
    have W := d0
    exact walk
theorem scaled12_walk (m e j : Int) (N1 N2 D1 D2 T1 : List Int) (he : -2000 ≤ e ∧ e ≤ 2000) (hj : -2000 ≤ j ∧ j ≤ 2000) (h1 : Meets Tryz.prog 106 [.int .i64 (0 - j)] (.ints .u64 T1)) (h2 : Meets Tryz.prog 106 [.int .i64 j] (.ints .u64 D1)) (h3 : Meets Tryz.prog 80 [.ints .u64 [m], .ints .u64 T1] (.ints .u64 N1))
    (h4 : (0 ≤ e ∧ Meets Tryz.prog 78 [.ints .u64 N1, .int .i64 e] (.ints .u64 N2) ∧ D2 = D1) ∨ (¬ 0 ≤ e ∧ Meets Tryz.prog 78 [.ints .u64 D1, .int .i64 (0 - e)] (.ints .u64 D2) ∧ N2 = N1)) :
    Meets Tryz.prog 67 [.int .u64 m, .int .i64 e, .int .i64 j] (.tup [.ints .u64 N2, .ints .u64 D2]) := by
  have w1 : IntKind.wrap .i64 (0 - j) = 0 - j := wrap_i64 (by omega)
  have w2 : IntKind.wrap .i64 (0 - e) = 0 - e := wrap_i64 (by omega)
  rcases h4 with ⟨h0, h5, rfl⟩ | ⟨h0, h5, rfl⟩
  case' inl => have d0 : decide (0 ≤ e) = true := decide_eq_true h0
  case' inr => have d0 : decide (0 ≤ e) = false := decide_eq_false h0
  all_goals (refine meets_by ttOk Tryz.func67 Tryz.ntmps67 Tryz.results67 (by kernel_rfl) (c := _) rfl rfl rfl fun E => ?_; simp only [argsFrame])
  all_goals
    repeat' first
      | (with_reducible first | refine PW.seq ?_ | refine PW.block ?_ | refine PW.fork ?_ | refine PW.skip ?_ | refine PW.exit ?_ | refine PW.ret ?_ | refine PW.scope ?_ | refine PW.label ?_ | refine PW.goto ?_)
      | (simp only [w1, w2, d0])
      | (with_reducible refine PW.region ttOk ?_ ?_
         · rfl)
      | (with_reducible refine PW.regionD ttOk mixed ?_ ?_ ?_
         · rfl
         · rfl)
      | (with_reducible refine ifW_dec (fun g => ?_) (fun g => ?_) <;> first | (exfalso; omega) | (simp -dsimp only [g, wkI]))
      | (with_reducible refine condE_dec (fun g => ?_) (fun g => ?_) <;> try (exfalso; omega))
      | (with_reducible refine condE_not (fun g => ?_) (fun g => ?_) <;> try (exfalso; omega))
      | (simp -dsimp only [↓wkA, ↓wkE, ↓wkJ, wkB, ↓tt, Nat.reduceBEq, Nat.reduceEqDiff, ↓reduceIte, Nat.reduceLT, Array.toList, Nat.reduceAdd, Nat.reduceMul, Int.reduceToNat, Int.reducePow, UInt8.reduceToNat])
      | (refine call_by (h1) (views_data rfl) ⟨trivial, trivial⟩ rfl ?_)
      | (refine call_by (h2) (views_data rfl) ⟨trivial, trivial⟩ rfl ?_)
      | (refine call_drop (args' := [.ints .u64 [m], .ints .u64 _]) rfl h3 ⟨Nat.le_refl _, trivial, trivial⟩ rfl ?_; simp only [wkD, Nat.reduceBEq])
      | (refine call_by (h5) (views_data rfl) ⟨trivial, trivial, trivial⟩ rfl ?_)
      | (simp -dsimp (disch := first | assumption | omega) only [dec_t, dec_f])
      | (refine andI ?_)
      | (simp (disch := omega) only [wkW, Int.reduceToNat, Int.reducePow])
      | fail
theorem big_len {x : Nat} (h : x < 2 ^ 2700) : (natL x).length ≤ 100000 := by
  have := natL_len_le (v := x) (n := 43) (Nat.lt_of_lt_of_le h (by decide +kernel))
  omega
theorem ref12_scaled (m : Nat) (e j : Int) (hm : m < 2 ^ 60) (he : -1100 ≤ e ∧ e ≤ 1000) (hj : -420 ≤ j ∧ j ≤ 420) : Meets Tryz.prog 67 [.int .u64 (m : Int), .int .i64 e, .int .i64 j] (.tup [.ints .u64 (natL (m * upS e j)), .ints .u64 (natL (beS e j))]) := by
  have hm64 : m < 18446744073709551616 := Nat.lt_trans hm (by decide)
  have one := limbs_one hm64
  have t1 := ref12_ten (0 - j) (by omega)
  have t2 := ref12_ten j (by omega)
  rw [show (0 - j).toNat = (-j).toNat by omega] at t1
  have p10 : ∀ k : Nat, k ≤ 420 → 10 ^ k < 2 ^ 1500 := fun k hk => Nat.lt_of_le_of_lt (Nat.pow_le_pow_right (by decide) hk) (by decide +kernel)
  have lt1 := big_len (x := 10 ^ (-j).toNat) (Nat.lt_of_lt_of_le (p10 _ (by omega)) (Nat.pow_le_pow_right (by decide) (by decide)))
  have lt2 := big_len (x := 10 ^ j.toNat) (Nat.lt_of_lt_of_le (p10 _ (by omega)) (Nat.pow_le_pow_right (by decide) (by decide)))
  have h3 := ref01_times one.1 (natL_limbs (10 ^ (-j).toNat)) (by simp) lt1 one.2 (val_natL _)
  have ln := big_len (x := m * 10 ^ (-j).toNat) (Nat.lt_of_lt_of_le (Nat.mul_lt_mul'' hm (p10 _ (by omega))) (by rw [← Nat.pow_add]; exact Nat.pow_le_pow_right (by decide) (by decide)))
  refine scaled12_walk m e j (natL (m * 10 ^ (-j).toNat)) _ (natL (10 ^ j.toNat)) _ _ (by omega) (by omega) t1 t2 h3 ?_
  by_cases h : 0 ≤ e
  · refine .inl ⟨h, ?_, ?_⟩
    · have := ref01_lift (n := e.toNat) (natL_limbs (m * 10 ^ (-j).toNat)) ln (val_natL _) (by omega)
      rw [Int.toNat_of_nonneg h, show m * 10 ^ (-j).toNat * 2 ^ e.toNat = m * upS e j by unfold upS; rw [Nat.mul_assoc, Nat.mul_comm (10 ^ _)]] at this
      exact this
    · unfold beS; rw [show (-e).toNat = 0 by omega, Nat.pow_zero, Nat.one_mul]
  · refine .inr ⟨h, ?_, ?_⟩
    · have := ref01_lift (n := (-e).toNat) (natL_limbs (10 ^ j.toNat)) lt2 (val_natL _) (by omega)
      rw [show (((-e).toNat : Nat) : Int) = 0 - e by omega, show 10 ^ j.toNat * 2 ^ (-e).toNat = beS e j by unfold beS; rw [Nat.mul_comm]] at this
      exact this
    · unfold upS; rw [show e.toNat = 0 by omega, Nat.pow_zero, Nat.one_mul]
def pad (b : Nat) : Nat → Nat → List Nat
  | 0, _ => []
  | k + 1, d => d % b :: pad b k (d / b)
theorem pad_len (b : Nat) : ∀ k d, (pad b k d).length = k
  | 0, _ => rfl
  | k + 1, d => by rw [pad, List.length_cons, pad_len b k]
theorem pad_lt {b : Nat} (hb : 2 ≤ b) : ∀ k d, ∀ x ∈ pad b k d, x < b
  | 0, _, x, h => by cases h
  | k + 1, d, x, h => by
    rcases List.mem_cons.1 h with rfl | h
    · exact Nat.mod_lt _ (by omega)
    · exact pad_lt hb k _ x h
theorem pad_zero (b : Nat) : ∀ k, pad b k 0 = List.replicate k 0
  | 0 => rfl
  | k + 1 => by rw [pad, Nat.zero_mod, Nat.zero_div, pad_zero b k]; rfl
theorem pad_digs {b : Nat} (hb : 2 ≤ b) : ∀ k v, v < b ^ k → ∃ z, pad b k v = digs b v ++ List.replicate z 0
  | 0, v, h => ⟨0, by have : v = 0 := by simpa using h
                      subst this; simp [pad, digs_zero]⟩
  | k + 1, v, h => by
    by_cases h0 : v = 0
    · subst h0; exact ⟨k + 1, by rw [pad_zero, digs_zero]; rfl⟩
    · obtain ⟨z, hz⟩ := pad_digs hb k (v / b) (by rw [Nat.pow_succ, Nat.mul_comm] at h; exact Nat.div_lt_of_lt_mul h)
      exact ⟨z, by rw [pad, hz, digs_step hb h0]; rfl⟩
theorem digs_split {b : Nat} (hb : 2 ≤ b) : ∀ k v, v / b ^ k ≠ 0 → digs b v = pad b k (v % b ^ k) ++ digs b (v / b ^ k)
  | 0, v, h => by simp [pad]
  | k + 1, v, h => by
    have h0 : v ≠ 0 := by rintro rfl; simp at h
    have e1 : v / b ^ (k + 1) = v / b / b ^ k := by rw [Nat.pow_succ, Nat.mul_comm, Nat.div_div_eq_div_mul]
    have e2 : v % b ^ (k + 1) % b = v % b := Nat.mod_mod_of_dvd _ ⟨b ^ k, by rw [Nat.pow_succ, Nat.mul_comm]⟩
    have e3 : v % b ^ (k + 1) / b = v / b % b ^ k := by rw [Nat.pow_succ, Nat.mul_comm, Nat.mod_mul_right_div_self]
    rw [digs_step hb h0, pad, e1, e2, e3, digs_split hb k (v / b) (by rw [← e1]; exact h)]
    rfl
def flat (b k : Nat) (l : List Nat) : List Nat := l.flatMap (pad b k)
theorem flat_digs {b k : Nat} (hb : 2 ≤ b) (hk : 1 ≤ k) : ∀ v, ∃ z, flat b k (digs (b ^ k) v) = digs b v ++ List.replicate z 0 := by
  have hp : 2 ≤ b ^ k := Nat.le_trans hb (by simpa using Nat.pow_le_pow_right (show 0 < b by omega) hk)
  intro v
  induction v using Nat.strongRecOn with
  | _ v ih =>
    by_cases h0 : v = 0
    · subst h0; exact ⟨0, by simp [digs_zero, flat]⟩
    · rw [digs_step hp h0]
      obtain ⟨z, hz⟩ := ih (v / b ^ k) (Nat.div_lt_self (by omega) (by omega))
      by_cases h1 : v / b ^ k = 0
      · rw [h1, digs_zero]
        have hlt : v < b ^ k := by
          rcases Nat.lt_or_ge v (b ^ k) with h | h
          · exact h
          · have := Nat.div_pos h (by omega); omega
        obtain ⟨z', hz'⟩ := pad_digs hb k v hlt
        exact ⟨z', by simp only [flat, List.flatMap_cons, List.flatMap_nil, List.append_nil]; rw [Nat.mod_eq_of_lt hlt, hz']⟩
      · refine ⟨z, ?_⟩
        simp only [flat, List.flatMap_cons] at hz ⊢
        rw [hz, digs_split hb k v h1, List.append_assoc]
theorem flat_len (b k : Nat) : ∀ l : List Nat, (flat b k l).length = l.length * k
  | [] => by simp [flat]
  | d :: l => by
    have := flat_len b k l
    simp only [flat, List.flatMap_cons, List.length_append, List.length_cons, pad_len] at this ⊢
    rw [this, Nat.add_mul]; omega
theorem flat_lt {b : Nat} (hb : 2 ≤ b) (k : Nat) (l : List Nat) : ∀ x ∈ flat b k l, x < b := by
  intro x hx
  obtain ⟨d, _, h⟩ := List.mem_flatMap.1 hx
  exact pad_lt hb k d x h
def lets (u : Bool) (l : List Nat) : List Int := l.map (letter u)
theorem lets_len (u : Bool) (l : List Nat) : (lets u l).length = l.length := List.length_map ..
theorem text_lets (b : Nat) (u : Bool) (v : Nat) : text b u v = (lets u (digs b v)).reverse := rfl
theorem lets_append (u : Bool) (a b : List Nat) : lets u (a ++ b) = lets u a ++ lets u b := List.map_append ..
theorem digs_top {b : Nat} (hb : 2 ≤ b) : ∀ v, v ≠ 0 → (digs b v).getD ((digs b v).length - 1) 0 ≠ 0 := by
  intro v
  induction v using Nat.strongRecOn with
  | _ v ih =>
    intro h0
    rw [digs_step hb h0]
    by_cases h1 : v / b = 0
    · rw [h1, digs_zero]
      have : v % b = v := Nat.mod_eq_of_lt (by
        rcases Nat.lt_or_ge v b with h | h
        · exact h
        · have := Nat.div_pos h (by omega); omega)
      simpa [this] using h0
    · have := ih (v / b) (Nat.div_lt_self (by omega) (by omega)) h1
      have hne : (digs b (v / b)).length ≠ 0 := by rw [digs_step hb h1]; simp
      rw [List.length_cons, show (digs b (v / b)).length + 1 - 1 = ((digs b (v / b)).length - 1) + 1 by omega, List.getD_cons_succ]
      exact this
theorem letter_48 (u : Bool) {d : Nat} (hd : d < 36) (h : letter u d = 48) : d = 0 := (letter_all u ⟨d, hd⟩).2.1 h
theorem group_ex (b : Nat) (hb : 2 ≤ b ∧ b ≤ 36) : ∃ k, 1 ≤ k ∧ k ≤ 31 ∧ b ^ k < 2147483648 ∧ 2147483648 ≤ b ^ (k + 1) ∧ ∀ m, m < k → b ^ (m + 1) < 2147483648 := by
  have h64 : 2147483648 ≤ b ^ (30 + 1) := Nat.le_trans (by decide : 2147483648 ≤ 2 ^ 31) (Nat.pow_le_pow_left hb.1 31)
  obtain ⟨k, hk, hmin⟩ := least_of (fun n => 2147483648 ≤ b ^ (n + 1)) 30 h64
  have hk63 : k ≤ 30 := by
    rcases Nat.lt_or_ge 30 k with h | h
    · exact absurd h64 (hmin 30 h)
    · exact h
  have hk0 : k ≠ 0 := by
    rintro rfl
    rw [Nat.zero_add, Nat.pow_one] at hk; omega
  refine ⟨k, by omega, by omega, ?_, hk, fun m hm => by have := hmin m hm; omega⟩
  have := hmin (k - 1) (by omega)
  rw [show k - 1 + 1 = k by omega] at this
  omega
def GrI (b k : Nat) (n : Nat) (F : PV.Frame) (H : PV.Heap) : Prop :=
  ∃ i : Nat, i + n = k ∧ F = [(5, .int .u64 ((b ^ i : Nat) : Int)), (4, .int .i64 (i : Int)), (0, .int .i64 (b : Int))] ∧ H = ⟨0, [], [], []⟩
theorem ref_group (b k : Nat) (hb : 2 ≤ b ∧ b ≤ 36) (h1 : 1 ≤ k) (h2 : k ≤ 31) (h3 : b ^ k < 2147483648) (h4 : 2147483648 ≤ b ^ (k + 1)) (h5 : ∀ m, m < k → b ^ (m + 1) < 2147483648) :
    Meets Tryz.prog 148 [.int .i64 (b : Int)] (.tup [.int .i64 (k : Int), .int .u64 ((b ^ k : Nat) : Int)]) := by
  refine meets_by ttOk Tryz.func148 Tryz.ntmps148 Tryz.results148 (by kernel_rfl) (c := _) rfl rfl rfl fun E => ?_
  simp only [argsFrame]
  refine walk1 ?_
  refine PW.loopA (GrI b k) k [(5, .int .u64 ((b ^ 0 : Nat) : Int)), (4, .int .i64 ((0 : Nat) : Int)), (0, .int .i64 (b : Int))] ⟨0, [], [], []⟩ (Sub.norm ⟨rfl, rfl, rfl, trivial⟩ trivial (by simp) rfl rfl rfl rfl) ⟨0, by omega, rfl, rfl⟩ ?_
  rintro n F H ⟨i, hn, rfl, rfl⟩
  have hlt : b ^ i < 2147483648 := by
    by_cases e : i = k
    · subst e; exact h3
    · have := h5 i (by omega)
      refine Nat.lt_of_le_of_lt (Nat.pow_le_pow_right (by omega) (by omega : i ≤ i + 1)) this
  have hmul : ((b ^ i : Nat) : Int) * (b : Int) = ((b ^ (i + 1) : Nat) : Int) := by rw [Nat.pow_succ]; simp
  have hle : b ^ (i + 1) ≤ 2147483648 * 36 := by
    rw [Nat.pow_succ]; exact Nat.mul_le_mul (by omega) hb.2
  have hwb : IntKind.wrap .u64 (b : Int) = (b : Int) := wrap_u64 (by omega)
  have hwm : IntKind.wrap .u64 ((b ^ (i + 1) : Nat) : Int) = ((b ^ (i + 1) : Nat) : Int) := wrap_u64 (by omega)
  by_cases hk : i = k
  · subst hk
    have W := cj hwb (cj hmul hwm)
    exact walk
  · have := h5 i (by omega)
    have W := cj hwb (cj hmul hwm)
    refine walk1 ?_
    refine Again.mk (n - 1) [(5, .int .u64 ((b ^ (i + 1) : Nat) : Int)), (4, .int .i64 ((i + 1 : Nat) : Int)), (0, .int .i64 (b : Int))] ⟨0, [], [], []⟩ (by omega) (Sub.norm ⟨rfl, rfl, rfl, trivial⟩ trivial (by simp) rfl rfl rfl rfl) ⟨i + 1, by omega, rfl, rfl⟩
theorem ref_limbs (l : List Int) (hl : l.length ≤ 17592186043904) : Meets Tryz.prog 147 [.ints .u64 l] (.int .i64 (size l : Int)) := by
  refine meets_by ttOk Tryz.func147 Tryz.ntmps147 Tryz.results147 (by kernel_rfl) (c := _) rfl rfl rfl fun E => ?_
  simp only [argsFrame]
  refine walk1 ?_
  refine PW.meetB (fun F H => F = [(3, .int .i64 (size l : Int))] ∧ H = ⟨0, [], [], []⟩) ?_ ?_
  · refine PW.loopA (fun m F H => m ≤ l.length ∧ sizeN l m = size l ∧ F = [(3, .int .i64 (m : Int)), (0, .ints .u64 l)] ∧ H = ⟨0, [], [], []⟩) l.length [(3, .int .i64 (l.length : Int)), (0, .ints .u64 l)] ⟨0, [], [], []⟩ (Sub.norm ⟨rfl, rfl, trivial⟩ trivial (Nat.le_refl _) rfl rfl rfl rfl) ⟨Nat.le_refl _, rfl, rfl, rfl⟩ ?_
    rintro m F H ⟨hm, hs, rfl, rfl⟩
    cases m with
    | zero =>
      refine walk1 ?_
      exact Meet.mk [(3, .int .i64 (size l : Int))] ⟨0, [], [], []⟩ (Sub.norm ⟨by rw [← hs]; rfl, trivial⟩ trivial (Nat.le_refl _) rfl rfl rfl rfl) ⟨rfl, rfl⟩
    | succ m =>
      have e1 : (((m + 1 : Nat)) : Int) - 1 = (m : Int) := by omega
      repeat' first
        | (simp (disch := omega) only [e1, Int.toNat_natCast, wkW, Int.reduceToNat, Int.reducePow])
        | (with_reducible first | refine PW.seq ?_ | refine PW.block ?_ | refine PW.fork ?_ | refine PW.skip ?_ | refine PW.exit ?_ | refine PW.ret ?_ | refine PW.scope ?_ | refine PW.label ?_ | refine PW.goto ?_)
        | (with_reducible refine PW.region ttOk ?_ ?_
           · rfl)
        | (with_reducible refine PW.regionD ttOk mixed ?_ ?_ ?_
           · rfl
           · rfl)
        | (with_reducible refine ifW_dec (fun g => ?_) (fun g => ?_) <;> first | (exfalso; omega) | (simp -dsimp only [g, wkI]))
        | (with_reducible refine condE_dec (fun g => ?_) (fun g => ?_) <;> try (exfalso; omega))
        | (with_reducible refine condE_not (fun g => ?_) (fun g => ?_) <;> try (exfalso; omega))
        | (simp -dsimp only [↓wkA, ↓wkE, ↓wkJ, wkB, ↓tt, Nat.reduceBEq, Nat.reduceEqDiff, ↓reduceIte, Nat.reduceLT, Array.toList, Nat.reduceAdd, Nat.reduceMul, Int.reduceToNat, Int.reducePow, UInt8.reduceToNat])
        | (simp -dsimp (disch := first | assumption | omega) only [dec_t, dec_f])
        | (refine andI ?_)
        | (simp (disch := omega) only [wkW, Int.reduceToNat, Int.reducePow])
        | fail
      · have h0 : l.getD m 0 = 0 := by assumption
        exact Again.mk m [(3, .int .i64 (m : Int)), (0, .ints .u64 l)] ⟨0, [], [], []⟩ (by omega) (Sub.norm ⟨rfl, rfl, trivial⟩ trivial (Nat.le_refl _) rfl rfl rfl rfl) ⟨by omega, by rw [← hs, sizeN, if_pos h0], rfl, rfl⟩
      · have h0 : ¬ l.getD m 0 = 0 := by assumption
        exact Meet.mk [(3, .int .i64 (size l : Int))] ⟨0, [], [], []⟩ (Sub.norm ⟨by rw [← hs, sizeN, if_neg h0]; rfl, trivial⟩ trivial (Nat.le_refl _) rfl rfl rfl rfl) ⟨rfl, rfl⟩
  rintro F H ⟨rfl, rfl⟩
  exact walk
theorem letter_is (u : Bool) (d : Nat) (hd : d < 36) : letter u d = if d < 10 then 48 + (d : Int) else if u then 65 + (d : Int) - 10 else 97 + (d : Int) - 10 := by
  cases u
  · exact (by decide : ∀ d : Fin 36, letter false d.val = if d.val < 10 then 48 + (d.val : Int) else if false then 65 + (d.val : Int) - 10 else 97 + (d.val : Int) - 10) ⟨d, hd⟩
  · exact (by decide : ∀ d : Fin 36, letter true d.val = if d.val < 10 then 48 + (d.val : Int) else if true then 65 + (d.val : Int) - 10 else 97 + (d.val : Int) - 10) ⟨d, hd⟩
theorem ref_digit (d : Nat) (u : Bool) (hd : d < 36) : Meets Tryz.prog 150 [.int .i64 (d : Int), .bool u] (.int .u8 (letter u d)) := by
  have hl := letter_is u d hd
  refine meets_by ttOk Tryz.func150 Tryz.ntmps150 Tryz.results150 (by kernel_rfl) (c := _) rfl rfl rfl fun E => ?_
  simp only [argsFrame]
  by_cases h : d < 10
  · rw [if_pos h] at hl
    rw [hl]
    exact walk
  · rw [if_neg h] at hl
    cases u with
    | true =>
      rw [if_pos rfl] at hl
      rw [hl]
      exact walk
    | false =>
      rw [if_neg (by simp)] at hl
      rw [hl]
      exact walk
def toI (l : List Nat) : List Int := l.map fun d : Nat => (d : Int)
theorem toI_len (l : List Nat) : (toI l).length = l.length := List.length_map ..
theorem toI_cons (d : Nat) (l : List Nat) : toI (d :: l) = (d : Int) :: toI l := rfl
theorem times_step {p hi c : Nat} (hp : 2 ≤ p) (h : hi ≠ 0) : digs p (hi * 4294967296 + c) = ((hi % p * 4294967296 + c) % p) :: digs p (hi / p * 4294967296 + (hi % p * 4294967296 + c) / p) := by
  have e : hi * 4294967296 + c = (hi % p * 4294967296 + c) + p * (hi / p * 4294967296) := by
    have := Nat.mod_add_div hi p
    calc hi * 4294967296 + c = (hi % p + p * (hi / p)) * 4294967296 + c := by rw [this]
      _ = _ := by grind
  rw [digs_step hp (by omega), e, Nat.add_mul_mod_self_left, Nat.add_mul_div_left _ _ (by omega), Nat.add_comm (_ / p)]
theorem digs_mono {b : Nat} (hb : 2 ≤ b) : ∀ v u, v ≤ u → (digs b v).length ≤ (digs b u).length := by
  intro v
  induction v using Nat.strongRecOn with
  | _ v ih =>
    intro u hu
    by_cases h0 : v = 0
    · subst h0; simp [digs_zero]
    · rw [digs_step hb h0, digs_step hb (show u ≠ 0 by omega), List.length_cons, List.length_cons]
      have := ih (v / b) (Nat.div_lt_self (by omega) (by omega)) (u / b) (Nat.div_le_div_right hu)
      omega
theorem set_mid (a : List Int) (x y : Int) (b : List Int) : (a ++ x :: b).set a.length y = (a ++ [y]) ++ b := by
  rw [List.set_append]; simp
theorem get_mid (a : List Int) (x : Int) (b : List Int) : (a ++ x :: b).getD a.length 0 = x := by
  simp [List.getD_eq_getElem?_getD]
def TI (p : Nat) (R : List Int) (m : Nat) (F : PV.Frame) (H : PV.Heap) : Prop :=
  ∃ (done : List Int) (hi c : Nat), done ++ toI (digs p (hi * 4294967296 + c)) = R ∧ c < 4294967296 ∧ (digs p hi).length = m ∧
    F = [(7, .int .i64 (done.length : Int)), (0, .sl 0 0 (done ++ toI (digs p hi)).length true), (1, .int .u64 (c : Int)), (2, .int .u64 (p : Int))] ∧ H = ⟨1, [(0, .ints .u64 (done ++ toI (digs p hi)))], [], []⟩
def TJ (p : Nat) (R : List Int) (m : Nat) (F : PV.Frame) (H : PV.Heap) : Prop :=
  ∃ (done : List Int), done ++ toI (digs p m) = R ∧ m < 4294967296 ∧
    F = [(0, .sl 0 0 done.length true), (1, .int .u64 (m : Int)), (2, .int .u64 (p : Int))] ∧ H = ⟨1, [(0, .ints .u64 done)], [], []⟩
theorem ref_times (p V c : Nat) (hp : 2 ≤ p ∧ p ≤ 2147483648) (hc : c < 4294967296) (R : List Int) (hR : toI (digs p (V * 4294967296 + c)) = R) (hRl : R.length ≤ 1000000) :
    HMeets Tryz.prog 149 [.sl 0 0 (toI (digs p V)).length true, .int .u64 (c : Int), .int .u64 (p : Int)] ⟨1, [(0, .ints .u64 (toI (digs p V)))], [], []⟩ fun res H' => ∃ l', l' = R ∧ res = .sl 0 0 l'.length true ∧ H'.get 0 = some (.ints .u64 l') := by
  refine hmeets_by ttOk Tryz.func149 Tryz.ntmps149 Tryz.results149 (by kernel_rfl) (c := _) rfl rfl fun E => ?_
  simp only [argsFrame]
  have hp0 : (0 : Int) ≤ (p : Int) := by omega
  refine walk1 ?_
  refine PW.meetB (fun F H => ∃ m, TJ p R m F H) ?_ ?_
  · have h0 : TI p R (digs p V).length [(7, .int .i64 (0 : Int)), (0, .sl 0 0 (toI (digs p V)).length true), (1, .int .u64 (c : Int)), (2, .int .u64 (p : Int))] ⟨1, [(0, .ints .u64 (toI (digs p V)))], [], []⟩ :=
      ⟨[], V, c, by rw [List.nil_append]; exact hR, hc, rfl, by rw [List.nil_append]; rfl, by rw [List.nil_append]⟩
    generalize toI (digs p V) = D at *
    refine PW.loopA (TI p R) (digs p V).length [(7, .int .i64 (0 : Int)), (0, .sl 0 0 D.length true), (1, .int .u64 (c : Int)), (2, .int .u64 (p : Int))] ⟨1, [(0, .ints .u64 D)], [], []⟩ (Sub.norm ⟨rfl, rfl, rfl, rfl, trivial⟩ ⟨rfl, trivial⟩ (Nat.le_refl _) rfl rfl rfl rfl) h0 ?_
    clear h0 hR hc
    rintro m F H ⟨done, hi, c, hR, hc, hm, rfl, rfl⟩
    have hdl : done.length ≤ 1000000 := by rw [← hR, List.length_append] at hRl; omega
    by_cases h0 : hi = 0
    · subst h0
      simp only [digs_zero, toI, List.map_nil, List.append_nil, Nat.zero_mul, Nat.zero_add] at hR ⊢
      refine walk1 ?_
      exact Meet.mk [(0, .sl 0 0 done.length true), (1, .int .u64 (c : Int)), (2, .int .u64 (p : Int))] ⟨1, [(0, .ints .u64 done)], [], []⟩ (Sub.norm ⟨rfl, rfl, rfl, trivial⟩ ⟨rfl, trivial⟩ (Nat.le_refl _) rfl rfl rfl rfl) ⟨c, done, hR, hc, rfl, rfl⟩
    · rw [times_step hp.1 h0, toI_cons] at hR
      have hd := digs_step hp.1 h0
      rw [hd, List.length_cons] at hm
      rw [hd, toI_cons]
      have hmod := Nat.mod_lt hi (show p > 0 by omega)
      have htb : hi % p * 4294967296 + c < p * 4294967296 := by
        have : (hi % p + 1) * 4294967296 ≤ p * 4294967296 := Nat.mul_le_mul_right _ hmod
        omega
      have hcar : (hi % p * 4294967296 + c) / p < 4294967296 := Nat.div_lt_of_lt_mul htb
      have hx : ((hi % p : Nat) : Int) * 4294967296 + (c : Int) = ((hi % p * 4294967296 + c : Nat) : Int) := by simp
      have hx1 : ((hi % p * 4294967296 + c : Nat) : Int) % (p : Int) = (((hi % p * 4294967296 + c) % p : Nat) : Int) := (Int.natCast_emod _ _).symm
      have hq1 : ((hi % p * 4294967296 + c : Nat) : Int) / (p : Int) = (((hi % p * 4294967296 + c) / p : Nat) : Int) := (Int.natCast_ediv _ _).symm
      have hxlt := Nat.mod_lt (hi % p * 4294967296 + c) (show p > 0 by omega)
      obtain ⟨h2, hh2⟩ : ∃ h2, hi / p = h2 := ⟨_, rfl⟩
      obtain ⟨d, hd0⟩ : ∃ d, hi % p = d := ⟨_, rfl⟩
      obtain ⟨t, ht0⟩ : ∃ t, d * 4294967296 + c = t := ⟨_, rfl⟩
      simp only [hd0, hh2, ht0] at hR hmod htb hcar hx hx1 hq1 hxlt hm ⊢
      obtain ⟨q, hq0⟩ : ∃ q, t / p = q := ⟨_, rfl⟩
      obtain ⟨x, hx0⟩ : ∃ x, t % p = x := ⟨_, rfl⟩
      simp only [hq0, hx0] at hR hcar hx1 hq1 hxlt
      have hget := get_mid done (d : Int) (toI (digs p h2))
      have hset := set_mid done (d : Int) (x : Int) (toI (digs p h2))
      have hlen : (done ++ (d : Int) :: toI (digs p h2)).length = (done ++ [(x : Int)] ++ toI (digs p h2)).length := by simp
      have hpos : done.length < (done ++ (d : Int) :: toI (digs p h2)).length := by simp
      have hlast : ((done ++ [(x : Int)]).length : Int) = (done.length : Int) + 1 := by simp
      have hml := digs_mono hp.1 h2 (h2 * 4294967296 + q) (by omega)
      obtain ⟨D1, hD1⟩ : ∃ D, digs p (h2 * 4294967296 + q) = D := ⟨_, rfl⟩
      rw [hD1] at hR hml
      have hL2 : (done ++ (d : Int) :: toI (digs p h2)).length ≤ 2000000 := by
        have h2 := congrArg List.length hR
        simp only [List.length_append, List.length_cons, toI_len] at h2 ⊢
        omega
      have hw : IntKind.wrap .u64 (q : Int) = (q : Int) := wrap_u64 (by omega)
      have hpd : done ++ [(x : Int)] ++ toI (digs p (h2 * 4294967296 + q)) = R := by rw [hD1, ← hR]; simp
      obtain ⟨row', hrow'⟩ : ∃ row', done ++ [(x : Int)] ++ toI (digs p h2) = row' := ⟨_, rfl⟩
      rw [hrow'] at hset hlen
      generalize done ++ (d : Int) :: toI (digs p h2) = row at *
      have W := cj Int.toNat_natCast (cj hget (cj hx (cj hx1 (cj hq1 (cj hw hset)))))
      refine walk1 ?_
      exact Again.mk (m - 1) [(7, .int .i64 ((done ++ [(x : Int)]).length : Int)), (0, .sl 0 0 ((done ++ [(x : Int)]) ++ toI (digs p h2)).length true), (1, .int .u64 (q : Int)), (2, .int .u64 (p : Int))] ⟨1, [(0, .ints .u64 ((done ++ [(x : Int)]) ++ toI (digs p h2)))], [], []⟩ (by omega) (Sub.norm ⟨congrArg (PV.int .i64) hlast.symm, congrArg (fun n => PV.sl 0 0 n true) (by rw [hrow']; exact hlen), rfl, rfl, trivial⟩ ⟨congrArg (fun l => some (PV.Row.ints .u64 l)) hrow'.symm, trivial⟩ (Nat.le_refl _) rfl rfl rfl rfl) ⟨_, h2, q, hpd, hcar, by omega, rfl, rfl⟩
  · rintro F H ⟨m, done, hR, hm, rfl, rfl⟩
    refine walk1 ?_
    refine PW.loopA (TJ p R) m [(0, .sl 0 0 done.length true), (1, .int .u64 (m : Int)), (2, .int .u64 (p : Int))] ⟨1, [(0, .ints .u64 done)], [], []⟩ (Sub.refl _ _ _ _) ⟨done, hR, hm, rfl, rfl⟩ ?_
    clear hR hm
    rintro m F H ⟨done, hR, hm, rfl, rfl⟩
    have hdl : done.length ≤ 1000000 := by rw [← hR, List.length_append] at hRl; omega
    by_cases h0 : m = 0
    · subst h0
      simp only [digs_zero, toI, List.map_nil, List.append_nil] at hR
      refine walk1 ?_
      exact ⟨done, hR, rfl, rfl⟩
    · rw [digs_step hp.1 h0, toI_cons] at hR
      have hx1 : (m : Int) % (p : Int) = ((m % p : Nat) : Int) := (Int.natCast_emod _ _).symm
      have hq1 : (m : Int) / (p : Int) = ((m / p : Nat) : Int) := (Int.natCast_ediv _ _).symm
      have hlt := Nat.div_lt_self (show 0 < m by omega) (show 1 < p by omega)
      have hxlt := Nat.mod_lt m (show p > 0 by omega)
      obtain ⟨q, hq0⟩ : ∃ q, m / p = q := ⟨_, rfl⟩
      obtain ⟨x, hx0⟩ : ∃ x, m % p = x := ⟨_, rfl⟩
      simp only [hq0, hx0] at hR hx1 hq1 hxlt hlt
      have hw : IntKind.wrap .u64 (q : Int) = (q : Int) := wrap_u64 (by omega)
      have hpd : done ++ [(x : Int)] ++ toI (digs p q) = R := by rw [← hR]; simp
      have hl1 : (done ++ [(x : Int)]).length = done.length + 1 := by simp
      have W := cj hx1 (cj hq1 hw)
      refine walk1 ?_
      exact Again.mk q [(0, .sl 0 0 (done ++ [(x : Int)]).length true), (1, .int .u64 (q : Int)), (2, .int .u64 (p : Int))] ⟨1, [(0, .ints .u64 (done ++ [(x : Int)]))], [], []⟩ hlt (Sub.norm ⟨congrArg (fun n => PV.sl 0 0 n true) hl1.symm, rfl, rfl, trivial⟩ ⟨rfl, trivial⟩ (by simp) rfl rfl rfl rfl) ⟨_, hpd, by omega, rfl, rfl⟩
theorem and_low32 (x : Nat) (h : x < 18446744073709551616) : ibits .and .u64 (x : Int) 4294967295 = ((x % 4294967296 : Nat) : Int) := by
  have e1 : (BitVec.ofInt 64 (x : Int)).toNat = x := by
    rw [BitVec.toNat_ofInt]; omega
  have e2 : (BitVec.ofInt 64 (4294967295 : Int)).toNat = 2 ^ 32 - 1 := by decide
  have e : (BitVec.ofInt 64 (x : Int) &&& BitVec.ofInt 64 (4294967295 : Int)).toNat = x % 2 ^ 32 := by
    rw [BitVec.toNat_and, e1, e2, Nat.and_two_pow_sub_one_eq_mod]
  show IntKind.wrap .u64 ((BitVec.ofInt 64 (x : Int) &&& BitVec.ofInt 64 (4294967295 : Int)).toNat : Int) = _
  rw [e]
  have := Nat.mod_lt x (show 2 ^ 32 > 0 by decide)
  exact wrap_u64 (by omega)
def inBaseA (a : List Int) (base : Int) (u : Bool) : PV :=
  if 4096 < size a then .tup [.str [], .int .i64 2] else if base < 2 ∨ 36 < base then .tup [.str [], .int .i64 32] else .tup [.str (written base.toNat u (val a).toNat), .int .i64 0]
theorem low_le {V y z A : Nat} (h : (V * 4294967296 + y) * 4294967296 + z ≤ A) : V * 4294967296 + y ≤ A ∧ V ≤ A := by omega
abbrev gfA (a : List Int) (b k : Nat) (u : Bool) (m : Nat) (D : List Int) : PV.Frame := [(12, .int .i64 ((m : Int) - 1)), (11, .sl 0 0 D.length true), (10, .int .u64 ((b ^ k : Nat) : Int)), (9, .int .i64 (k : Int)), (0, .ints .u64 a), (1, .int .i64 (b : Int)), (2, .bool u)]
def GA (a : List Int) (b k n : Nat) (u : Bool) (m : Nat) (F : PV.Frame) (H : PV.Heap) : Prop :=
  ∃ (V : Nat) (D : List Int), m ≤ n ∧ vt a n = vt a m + B64 ^ m * (V : Int) ∧ D = toI (digs (b ^ k) V) ∧ F = gfA a b k u m D ∧ H = ⟨1, [(0, .ints .u64 D)], [], []⟩
abbrev gfB (b k : Nat) (u : Bool) (i : Nat) (D back : List Int) : PV.Frame := [(14, .int .i64 (i : Int)), (13, .sl 1 0 back.length true), (11, .sl 0 0 D.length true), (9, .int .i64 (k : Int)), (1, .int .i64 (b : Int)), (2, .bool u)]
abbrev ghB (D back : List Int) : PV.Heap := ⟨2, [(0, .ints .u64 D), (1, .ints .u8 back)], [], []⟩
def GB (b k : Nat) (u : Bool) (G : List Nat) (D RB : List Int) (m : Nat) (F : PV.Frame) (H : PV.Heap) : Prop :=
  ∃ (i : Nat) (back : List Int), i + m = G.length ∧ back ++ lets u (flat b k (G.drop i)) = RB ∧ F = gfB b k u i D back ∧ H = ghB D back
def GC (b k : Nat) (u : Bool) (i : Nat) (T D RB : List Int) (m : Nat) (F : PV.Frame) (H : PV.Heap) : Prop :=
  ∃ (j g : Nat) (back : List Int), j + m = k ∧ g < 2147483648 ∧ back ++ (lets u (pad b m g) ++ T) = RB ∧ F = (16, .int .i64 (j : Int)) :: (15, .int .u64 (g : Int)) :: gfB b k u i D back ∧ H = ghB D back
def GD (L z : Nat) (RB : List Int) (m : Nat) (F : PV.Frame) (H : PV.Heap) : Prop :=
  m ≤ z ∧ F = [(17, .int .i64 ((L + m : Nat) : Int)), (13, .sl 1 0 RB.length true)] ∧ H = ⟨2, [(1, .ints .u8 RB)], [], []⟩
abbrev gfE (RB : List Int) (m : Nat) (out : List Int) : PV.Frame := [(19, .int .i64 ((m : Int) - 1)), (18, .sl 2 0 out.length true), (13, .sl 1 0 RB.length true)]
abbrev ghE (RB out : List Int) : PV.Heap := ⟨3, [(1, .ints .u8 RB), (2, .ints .u8 out)], [], []⟩
def GE (L : Nat) (RB T : List Int) (m : Nat) (F : PV.Frame) (H : PV.Heap) : Prop :=
  ∃ out : List Int, m ≤ L ∧ out ++ (T.take m).reverse = T.reverse ∧ F = gfE RB m out ∧ H = ghE RB out
set_option exponentiation.threshold 300000 in
set_option maxHeartbeats 2000000 in
theorem ref_in_base_main (a : List Int) (ha : Limbs a) (hla : a.length ≤ 17592186043904) (b : Nat) (hb : 2 ≤ b ∧ b ≤ 36) (u : Bool) (h1 : size a ≤ 4096) :
    Meets Tryz.prog 114 [.ints .u64 a, .int .i64 (b : Int), .bool u] (.tup [.str (written b u (val a).toNat), .int .i64 0]) := by
  obtain ⟨k, hk1, hk2, hk3, hk4, hk5⟩ := group_ex b hb
  have hgr := ref_group b k hb hk1 hk2 hk3 hk4 hk5
  have hlm := ref_limbs a hla
  have hp2 : 2 ≤ b ^ k := Nat.le_trans hb.1 (by simpa using Nat.pow_le_pow_right (show 0 < b by omega) hk1)
  have hsa := size_le a
  have hvn := val_nonneg ha
  have hvl := val_small ha h1
  rw [pow4096] at hvl
  have hVlt : (val a).toNat < 2 ^ 262144 := by omega
  have hvs := vt_size a
  refine meets_by ttOk Tryz.func114 Tryz.ntmps114 Tryz.results114 (by kernel_rfl) (c := _) rfl rfl rfl fun E => ?_
  simp only [argsFrame]
  refine walk1 ?_
  obtain ⟨A, hA⟩ : ∃ A, (val a).toNat = A := ⟨_, rfl⟩
  rw [hA] at hVlt ⊢
  obtain ⟨G, hG⟩ : ∃ G, digs (b ^ k) A = G := ⟨_, rfl⟩
  have hlenle : ∀ v, v ≤ A → (digs (b ^ k) v).length ≤ 262144 := fun v hv => digs_len hp2 262144 v (Nat.lt_of_le_of_lt hv hVlt)
  have hGl : G.length ≤ 262144 := by rw [← hG]; exact hlenle A (Nat.le_refl _)
  have hbl : (digs b A).length ≤ 262144 := digs_len hb.1 262144 A hVlt
  clear hVlt hvl
  refine PW.meetB (fun F H => F = [(11, .sl 0 0 (toI G).length true), (9, .int .i64 (k : Int)), (1, .int .i64 (b : Int)), (2, .bool u)] ∧ H = ⟨1, [(0, .ints .u64 (toI G))], [], []⟩) ?_ ?_
  · refine PW.loopA (GA a b k (size a) u) (size a) (gfA a b k u (size a) []) ⟨1, [(0, .ints .u64 [])], [], []⟩ (Sub.norm ⟨rfl, rfl, rfl, rfl, rfl, rfl, rfl, trivial⟩ ⟨rfl, trivial⟩ (Nat.le_refl _) rfl rfl rfl rfl) ⟨0, [], Nat.le_refl _, by simp, by rw [digs_zero]; rfl, rfl, rfl⟩ ?_
    rintro m F H ⟨V, D, hm, hV, hD, rfl, rfl⟩
    cases m with
    | zero =>
      have hVA : V = A := by
        have h0 : vt a 0 = 0 := rfl
        rw [h0, hvs] at hV
        simp at hV
        omega
      have hDG : D = toI G := by rw [hD, hVA, hG]
      refine walk1 ?_
      exact Meet.mk [(11, .sl 0 0 (toI G).length true), (9, .int .i64 (k : Int)), (1, .int .i64 (b : Int)), (2, .bool u)] ⟨1, [(0, .ints .u64 (toI G))], [], []⟩ (Sub.norm ⟨by rw [← hDG]; rfl, rfl, rfl, rfl, trivial⟩ ⟨by rw [← hDG]; rfl, trivial⟩ (Nat.le_refl _) rfl rfl rfl rfl) ⟨rfl, rfl⟩
    | succ m =>
      have e : (((m + 1 : Nat)) : Int) - 1 = (m : Int) := by omega
      obtain ⟨hx0, hx1⟩ := getD_limb ha m
      obtain ⟨x, hx⟩ := Int.eq_ofNat_of_zero_le hx0
      rw [hx] at hx1
      simp only [B64] at hx1
      have hV2 : vt a (size a) = vt a m + B64 ^ m * (((V * 4294967296 + x / 4294967296) * 4294967296 + x % 4294967296 : Nat) : Int) := by
        have e1 : (V * 4294967296 + x / 4294967296) * 4294967296 + x % 4294967296 = V * 18446744073709551616 + x := by omega
        rw [e1, hV]
        simp only [vt, hx, Int.pow_succ]
        simp only [Int.natCast_add, Int.natCast_mul]
        rw [show ((18446744073709551616 : Nat) : Int) = B64 from rfl]
        grind
      have hbound : (V * 4294967296 + x / 4294967296) * 4294967296 + x % 4294967296 ≤ A := by
        have h3 := vt_bound ha m
        have h4 := pow_pos64 m
        rw [hvs] at hV2
        generalize (V * 4294967296 + x / 4294967296) * 4294967296 + x % 4294967296 = W at *
        have : (W : Int) ≤ B64 ^ m * (W : Int) := by
          have := Int.mul_le_mul_of_nonneg_right (show 1 ≤ B64 ^ m by omega) (show (0 : Int) ≤ (W : Int) by omega)
          omega
        omega
      clear hV
      obtain ⟨hb1, hb0⟩ := low_le hbound
      have hh : x / 4294967296 < 4294967296 := by omega
      have hl : x % 4294967296 < 4294967296 := by omega
      have hshr0 : ((x : Int)).fdiv 4294967296 = ((x / 4294967296 : Nat) : Int) := by rw [fdiv_pos (by decide)]; omega
      have hshr : (x : Int) / 4294967296 = ((x / 4294967296 : Nat) : Int) := by omega
      have hand := and_low32 x (by omega)
      obtain ⟨xh, hxh⟩ : ∃ h, x / 4294967296 = h := ⟨_, rfl⟩
      obtain ⟨xl, hxl⟩ : ∃ h, x % 4294967296 = h := ⟨_, rfl⟩
      simp only [hxh, hxl] at *
      have t1 := fun D1 hD1 hl1 => ref_times (b ^ k) V xh ⟨hp2, by omega⟩ hh D1 hD1 hl1
      have t2 := fun D1 hD1 hl1 => ref_times (b ^ k) (V * 4294967296 + xh) xl ⟨hp2, by omega⟩ hl D1 hD1 hl1
      obtain ⟨W1, hW1⟩ : ∃ W1, V * 4294967296 + xh = W1 := ⟨_, rfl⟩
      simp only [hW1] at t1 t2 hb1 hbound hV2
      obtain ⟨W2, hW2⟩ : ∃ W2, W1 * 4294967296 + xl = W2 := ⟨_, rfl⟩
      simp only [hW2] at t2 hbound hV2
      clear hW1 hW2
      obtain ⟨D1, hD1⟩ : ∃ D1, toI (digs (b ^ k) W1) = D1 := ⟨_, rfl⟩
      obtain ⟨D2, hD2⟩ : ∃ D2, toI (digs (b ^ k) W2) = D2 := ⟨_, rfl⟩
      have hD1l : D1.length ≤ 1000000 := by
        rw [← hD1, toI_len]
        have := hlenle W1 hb1
        omega
      have hD2l : D2.length ≤ 1000000 := by
        rw [← hD2, toI_len]
        have := hlenle W2 hbound
        omega
      have t1 := t1 D1 hD1 hD1l
      have t2 := t2 D2 hD2 hD2l
      rw [← hD] at t1
      rw [hD1] at t2
      have hDl : D.length ≤ 1000000 := by
        rw [hD, toI_len]
        have := hlenle V hb0
        omega
      repeat' first
        | (simp only [e, Int.toNat_natCast, hx, hshr0, hshr, hand])
        | (with_reducible first | refine PW.seq ?_ | refine PW.block ?_ | refine PW.fork ?_ | refine PW.skip ?_ | refine PW.exit ?_ | refine PW.ret ?_ | refine PW.scope ?_ | refine PW.label ?_ | refine PW.goto ?_)
        | (with_reducible refine PW.region ttOk ?_ ?_
           · rfl)
        | (with_reducible refine PW.regionD ttOk mixed ?_ ?_ ?_
           · rfl
           · rfl)
        | (with_reducible refine ifW_dec (fun g => ?_) (fun g => ?_) <;> first | (exfalso; omega) | (simp -dsimp only [g, wkI]))
        | (with_reducible refine condE_dec (fun g => ?_) (fun g => ?_) <;> try (exfalso; omega))
        | (with_reducible refine condE_not (fun g => ?_) (fun g => ?_) <;> try (exfalso; omega))
        | (simp -dsimp only [↓wkA, ↓wkE, ↓wkJ, wkB, ↓tt, Nat.reduceBEq, Nat.reduceEqDiff, ↓reduceIte, Nat.reduceLT, Array.toList, Nat.reduceAdd, Nat.reduceMul, Int.reduceToNat, Int.reducePow, UInt8.reduceToNat])
        | (refine call_h (row_call t1 rfl rfl rfl) (fun res H' hR => ?_); obtain ⟨l', rfl, rfl, rfl⟩ := hR; refine ⟨_, _, rfl, ?_⟩)
        | (refine call_h (row_call t2 rfl rfl rfl) (fun res H' hR => ?_); obtain ⟨l', rfl, rfl, rfl⟩ := hR; refine ⟨_, _, rfl, ?_⟩)
        | (simp -dsimp (disch := first | assumption | omega) only [dec_t, dec_f])
        | (refine andI ?_)
        | (simp (disch := omega) only [wkW, Int.reduceToNat, Int.reducePow])
        | fail
      exact Again.mk m (gfA a b k u m l') ⟨1, [(0, .ints .u64 l')], [], []⟩ (by omega) (Sub.norm ⟨rfl, rfl, rfl, rfl, rfl, rfl, rfl, trivial⟩ ⟨rfl, trivial⟩ (Nat.le_refl _) rfl rfl rfl rfl) ⟨W2, l', by omega, hV2, hD2.symm, rfl, rfl⟩
  · rintro F H ⟨rfl, rfl⟩
    have hGp : ∀ g ∈ G, g < b ^ k := by rw [← hG]; exact digs_lt hp2 A
    obtain ⟨z, hz⟩ := flat_digs hb.1 hk1 A
    rw [hG] at hz
    have hfl := flat_len b k G
    have hfb := flat_lt hb.1 k G
    obtain ⟨D, hD⟩ : ∃ D, toI G = D := ⟨_, rfl⟩
    have hDl : D.length = G.length := by rw [← hD, toI_len]
    have hDg : ∀ i, i < G.length → D.getD i 0 = ((G.getD i 0 : Nat) : Int) := by
      intro i hi
      rw [← hD, toI, List.getD_eq_getElem?_getD, List.getElem?_map, List.getElem?_eq_getElem hi, List.getD_eq_getElem?_getD, List.getElem?_eq_getElem hi]
      rfl
    rw [hD]
    obtain ⟨RB, hRB⟩ : ∃ RB, lets u (flat b k G) = RB := ⟨_, rfl⟩
    have hRBl : RB.length ≤ 8400000 := by
      rw [← hRB, lets_len, hfl]
      have := Nat.mul_le_mul hGl hk2
      omega
    refine walk1 ?_
    refine PW.meetB (fun F H => F = [(13, .sl 1 0 RB.length true)] ∧ H = ⟨2, [(1, .ints .u8 RB)], [], []⟩) ?_ ?_
    · refine PW.loopA (GB b k u G D RB) G.length (gfB b k u 0 D []) (ghB D []) (Sub.norm ⟨rfl, rfl, rfl, rfl, rfl, rfl, trivial⟩ ⟨rfl, rfl, trivial⟩ (Nat.le_refl _) rfl rfl rfl rfl) ⟨0, [], by omega, by rw [List.drop_zero, List.nil_append]; exact hRB, rfl, rfl⟩ ?_
      rintro m F H ⟨i, back, him, hbk, rfl, rfl⟩
      have hbl2 : back.length ≤ 8400000 := by rw [← hbk, List.length_append] at hRBl; omega
      by_cases hend : i = G.length
      · subst hend
        rw [List.drop_length] at hbk
        simp only [flat, List.flatMap_nil, lets, List.map_nil, List.append_nil] at hbk
        refine walk1 ?_
        exact Meet.mk [(13, .sl 1 0 RB.length true)] ⟨2, [(1, .ints .u8 RB)], [], []⟩ (Sub.norm ⟨by rw [← hbk]; rfl, trivial⟩ ⟨by rw [← hbk]; rfl, trivial⟩ (Nat.le_refl _) rfl rfl rfl rfl) ⟨rfl, rfl⟩
      · have hlt : i < G.length := by omega
        have hget := hDg i hlt
        have hgp := hGp (G.getD i 0) (by rw [List.getD_eq_getElem?_getD, List.getElem?_eq_getElem hlt]; exact List.getElem_mem hlt)
        have hdrop : G.drop i = G.getD i 0 :: G.drop (i + 1) := by
          rw [List.drop_eq_getElem_cons hlt, List.getD_eq_getElem?_getD, List.getElem?_eq_getElem hlt]; rfl
        rw [hdrop] at hbk
        obtain ⟨g, hg⟩ : ∃ g, G.getD i 0 = g := ⟨_, rfl⟩
        obtain ⟨T, hT⟩ : ∃ T, lets u (flat b k (G.drop (i + 1))) = T := ⟨_, rfl⟩
        rw [hg] at hget hgp hbk
        rw [show flat b k (g :: G.drop (i + 1)) = pad b k g ++ flat b k (G.drop (i + 1)) from rfl, lets_append, hT] at hbk
        have W := cj Int.toNat_natCast hget
        refine walk1 ?_
        refine PW.loopA (GC b k u i T D RB) k ((16, .int .i64 ((0 : Nat) : Int)) :: (15, .int .u64 (g : Int)) :: gfB b k u i D back) (ghB D back) (Sub.norm ⟨rfl, rfl, rfl, rfl, rfl, rfl, rfl, rfl, trivial⟩ ⟨rfl, rfl, trivial⟩ (Nat.le_refl _) rfl rfl rfl rfl) ⟨0, g, back, by omega, by omega, hbk, rfl, rfl⟩ ?_
        clear hg hget hgp hbk hbl2 hdrop
        rintro n F H ⟨j, g, back, hj, hg31, hbk, rfl, rfl⟩
        have hbl2 : back.length ≤ 8400000 := by rw [← hbk, List.length_append] at hRBl; omega
        cases n with
        | zero =>
          have hbk2 : back ++ lets u (flat b k (G.drop (i + 1))) = RB := by rw [hT]; exact hbk
          refine walk1 ?_
          exact Again.mk (m - 1) (gfB b k u (i + 1) D back) (ghB D back) (by omega) (Sub.norm ⟨rfl, rfl, rfl, rfl, rfl, rfl, trivial⟩ ⟨rfl, rfl, trivial⟩ (Nat.le_refl _) rfl rfl rfl rfl) ⟨i + 1, back, by omega, hbk2, rfl, rfl⟩
        | succ n =>
          have hwb : IntKind.wrap .u64 (b : Int) = (b : Int) := wrap_u64 (by omega)
          have hmod : (g : Int) % (b : Int) = ((g % b : Nat) : Int) := (Int.natCast_emod _ _).symm
          have hdiv : (g : Int) / (b : Int) = ((g / b : Nat) : Int) := (Int.natCast_ediv _ _).symm
          have hml := Nat.mod_lt g (show b > 0 by omega)
          have hdl := Nat.div_le_self g b
          have hdg := ref_digit (g % b) u (by omega)
          have hbk2 : (back ++ [letter u (g % b)]) ++ (lets u (pad b n (g / b)) ++ T) = RB := by
            rw [← hbk, pad]
            simp [lets]
          obtain ⟨x, hx⟩ : ∃ x, g % b = x := ⟨_, rfl⟩
          obtain ⟨q, hq⟩ : ∃ q, g / b = q := ⟨_, rfl⟩
          simp only [hx, hq] at hmod hdiv hml hdl hdg hbk2
          clear hx hq
          have hwq : IntKind.wrap .u64 (q : Int) = (q : Int) := wrap_u64 (by omega)
          have hwx : IntKind.wrap .i64 (x : Int) = (x : Int) := wrap_i64 (by omega)
          have hl1 : (back ++ [letter u x]).length = back.length + 1 := by simp
          have W := cj hwb (cj hmod (cj hdiv (cj hwq hwx)))
          refine walk1 ?_
          exact Again.mk n ((16, .int .i64 ((j + 1 : Nat) : Int)) :: (15, .int .u64 (q : Int)) :: gfB b k u i D (back ++ [letter u x])) (ghB D (back ++ [letter u x])) (by omega) (Sub.norm ⟨rfl, rfl, rfl, congrArg (fun n => PV.sl 1 0 n true) hl1.symm, rfl, rfl, rfl, rfl, trivial⟩ ⟨rfl, rfl, trivial⟩ (by simp) rfl rfl rfl rfl) ⟨j + 1, q, _, by omega, by omega, hbk2, rfl, rfl⟩
    rintro F H ⟨rfl, rfl⟩
    obtain ⟨T, hT⟩ : ∃ T, lets u (digs b A) = T := ⟨_, rfl⟩
    obtain ⟨L, hL⟩ : ∃ L, T.length = L := ⟨_, rfl⟩
    have hLd : (digs b A).length = L := by rw [← hL, ← hT, lets_len]
    have hRBd : RB = T ++ List.replicate z 48 := by
      rw [← hRB, hz, lets_append, hT]; simp [lets, letter_zero]
    have hRBL : RB.length = L + z := by rw [hRBd, List.length_append, List.length_replicate, hL]
    have hLA : L = 0 → A = 0 := by
      intro h
      by_cases hA0 : A = 0
      · exact hA0
      · rw [digs_step hb.1 hA0, List.length_cons] at hLd; omega
    have hz0 : A = 0 → z = 0 := by
      rintro rfl
      have : G = [] := by rw [← hG, digs_zero]
      rw [this, digs_zero] at hz
      have := congrArg List.length hz
      simp [flat] at this
      omega
    have hT48 : ∀ i, i < L → RB.getD i 0 = T.getD i 0 := by
      intro i hi
      rw [hRBd, List.getD_eq_getElem?_getD, List.getElem?_append_left (by omega), List.getD_eq_getElem?_getD]
    have hz48 : ∀ i, L ≤ i → i < L + z → RB.getD i 0 = 48 := by
      intro i hi hi2
      rw [hRBd, List.getD_eq_getElem?_getD, List.getElem?_append_right (by omega), List.getElem?_replicate, if_pos (by omega)]; rfl
    have htop : 1 < L → RB.getD (L - 1) 0 ≠ 48 := by
      intro h1L
      have hA0 : A ≠ 0 := by rintro rfl; rw [digs_zero] at hLd; simp at hLd; omega
      have h1 := digs_top hb.1 A hA0
      rw [hLd] at h1
      rw [hT48 (L - 1) (by omega), ← hT, lets, List.getD_eq_getElem?_getD, List.getElem?_map, List.getElem?_eq_getElem (by omega)]
      rw [List.getD_eq_getElem?_getD, List.getElem?_eq_getElem (by omega)] at h1
      intro h2
      have h3 := digs_lt hb.1 A _ (List.getElem_mem (show L - 1 < (digs b A).length by omega))
      exact h1 (letter_48 u (Nat.lt_of_lt_of_le h3 hb.2) h2)
    have hwr : written b u A = if A = 0 then [48] else T.reverse := by rw [written, text_lets, hT]
    clear hGp hRB hz hfl hDg hlenle
    refine walk1 ?_
    refine PW.meetB (fun F H => F = [(17, .int .i64 (L : Int)), (13, .sl 1 0 RB.length true)] ∧ H = ⟨2, [(1, .ints .u8 RB)], [], []⟩) ?_ ?_
    · refine PW.loopA (GD L z RB) z [(17, .int .i64 ((L + z : Nat) : Int)), (13, .sl 1 0 RB.length true)] ⟨2, [(1, .ints .u8 RB)], [], []⟩ (Sub.norm ⟨congrArg (fun n : Nat => PV.int .i64 (n : Int)) hRBL, rfl, trivial⟩ ⟨rfl, trivial⟩ (Nat.le_refl _) rfl rfl rfl rfl) ⟨Nat.le_refl _, rfl, rfl⟩ ?_
      rintro m F H ⟨hm, rfl, rfl⟩
      cases m with
      | zero =>
        by_cases hL1 : 1 < L
        · have ht := htop hL1
          have e : ((L + 0 : Nat) : Int) - 1 = ((L - 1 : Nat) : Int) := by omega
          have hwm : IntKind.wrap .i64 ((L - 1 : Nat) : Int) = ((L - 1 : Nat) : Int) := wrap_i64 (by omega)
          have W := cj e (cj hwm Int.toNat_natCast)
          refine walk1 ?_
          exact Meet.mk [(17, .int .i64 (L : Int)), (13, .sl 1 0 RB.length true)] ⟨2, [(1, .ints .u8 RB)], [], []⟩ (Sub.norm ⟨rfl, rfl, trivial⟩ ⟨rfl, trivial⟩ (Nat.le_refl _) rfl rfl rfl rfl) ⟨rfl, rfl⟩
        · have hL1' : ¬ (1 < ((L + 0 : Nat) : Int)) := by omega
          refine walk1 ?_
          exact Meet.mk [(17, .int .i64 (L : Int)), (13, .sl 1 0 RB.length true)] ⟨2, [(1, .ints .u8 RB)], [], []⟩ (Sub.norm ⟨rfl, rfl, trivial⟩ ⟨rfl, trivial⟩ (Nat.le_refl _) rfl rfl rfl rfl) ⟨rfl, rfl⟩
      | succ m =>
        have hL1 : 1 < L + (m + 1) := by
          rcases Nat.eq_zero_or_pos L with h | h
          · have := hz0 (hLA h); omega
          · omega
        have ht := hz48 (L + m) (by omega) (by omega)
        have e : ((L + (m + 1) : Nat) : Int) - 1 = ((L + m : Nat) : Int) := by omega
        have hwm : IntKind.wrap .i64 ((L + m : Nat) : Int) = ((L + m : Nat) : Int) := wrap_i64 (by omega)
        have W := cj e (cj hwm (cj Int.toNat_natCast ht))
        refine walk1 ?_
        exact Again.mk m [(17, .int .i64 ((L + m : Nat) : Int)), (13, .sl 1 0 RB.length true)] ⟨2, [(1, .ints .u8 RB)], [], []⟩ (by omega) (Sub.norm ⟨rfl, rfl, trivial⟩ ⟨rfl, trivial⟩ (Nat.le_refl _) rfl rfl rfl rfl) ⟨by omega, rfl, rfl⟩
    rintro F H ⟨rfl, rfl⟩
    by_cases hA0 : A = 0
    · have hL0 : L = 0 := by
        subst hA0; rw [digs_zero] at hLd; simpa using hLd.symm
      subst hL0
      rw [hwr, if_pos hA0]
      exact walk
    have hTb : Bytes' T.reverse := by have := written_bytes hb u A; rw [hwr, if_neg hA0] at this; exact this
    rw [hwr, if_neg hA0]
    have hL0 : L ≠ 0 := fun h => hA0 (hLA h)
    refine walk1 ?_
    refine PW.meetB (fun F H => F = [(18, .sl 2 0 T.reverse.length true)] ∧ H = ⟨3, [(2, .ints .u8 T.reverse)], [], []⟩) ?_ ?_
    · refine PW.loopA (GE L RB T) L (gfE RB L []) (ghE RB []) (Sub.norm ⟨rfl, rfl, rfl, trivial⟩ ⟨rfl, rfl, trivial⟩ (Nat.le_refl _) rfl rfl rfl rfl) ⟨[], Nat.le_refl _, by rw [← hL, List.take_length]; rfl, rfl, rfl⟩ ?_
      rintro m F H ⟨out, hm, ho, rfl, rfl⟩
      have hol : out.length ≤ 8400000 := by
        have := congrArg List.length ho
        simp at this; omega
      cases m with
      | zero =>
        have ho2 : out = T.reverse := by simpa using ho
        subst ho2
        refine walk1 ?_
        exact Meet.mk [(18, .sl 2 0 T.reverse.length true)] ⟨3, [(2, .ints .u8 T.reverse)], [], []⟩ (Sub.norm ⟨rfl, trivial⟩ ⟨rfl, trivial⟩ (Nat.le_refl _) rfl rfl rfl rfl) ⟨rfl, rfl⟩
      | succ m =>
        have ht := hT48 m (by omega)
        have e : ((m + 1 : Nat) : Int) - 1 = (m : Int) := by omega
        have ho2 : (out ++ [T.getD m 0]) ++ (T.take m).reverse = T.reverse := by
          rw [← ho, List.take_add_one, List.reverse_append, List.getD_eq_getElem?_getD, List.getElem?_eq_getElem (by omega)]
          simp
        have hl1 : (out ++ [T.getD m 0]).length = out.length + 1 := by simp
        have W := cj e (cj Int.toNat_natCast ht)
        refine walk1 ?_
        exact Again.mk m (gfE RB m (out ++ [T.getD m 0])) (ghE RB (out ++ [T.getD m 0])) (by omega) (Sub.norm ⟨rfl, congrArg (fun n => PV.sl 2 0 n true) hl1.symm, rfl, trivial⟩ ⟨rfl, rfl, trivial⟩ (by simp) rfl rfl rfl rfl) ⟨_, by omega, ho2, rfl, rfl⟩
    rintro F H ⟨rfl, rfl⟩
    refine walk1 ?_
    rw [byteOf_list hTb]
theorem ref_in_base (a : List Int) (ha : Limbs a) (hla : a.length ≤ 17592186043904) (base : Int) (hbase : -9223372036854775808 ≤ base ∧ base ≤ 9223372036854775807) (u : Bool) :
    Meets Tryz.prog 114 [.ints .u64 a, .int .i64 base, .bool u] (inBaseA a base u) := by
  have hlm := ref_limbs a hla
  have hsa := size_le a
  unfold inBaseA
  by_cases h1 : 4096 < size a
  · rw [if_pos h1]
    refine meets_by ttOk Tryz.func114 Tryz.ntmps114 Tryz.results114 (by kernel_rfl) (c := _) rfl rfl rfl fun E => ?_
    simp only [argsFrame]
    exact walk
  rw [if_neg h1]
  by_cases h2 : base < 2 ∨ 36 < base
  · rw [if_pos h2]
    refine meets_by ttOk Tryz.func114 Tryz.ntmps114 Tryz.results114 (by kernel_rfl) (c := _) rfl rfl rfl fun E => ?_
    simp only [argsFrame]
    exact walk
  rw [if_neg h2]
  obtain ⟨b, rfl⟩ : ∃ b : Nat, base = (b : Int) := ⟨base.toNat, by omega⟩
  exact ref_in_base_main a ha hla b (by omega) u (by omega)
theorem in_base_same {a : List Int} (ha : Limbs a) (base : Int) (u : Bool) : inBaseR a base u = inBaseA a base u := by
  unfold inBaseR inBaseA
  split
  · rfl
  · split
    · rfl
    · split
      · rename_i h
        rw [(size_zero ha).1 h]; rfl
      · rename_i h
        have h2 : (val a).toNat ≠ 0 := by
          have := val_nonneg ha
          have h3 : val a ≠ 0 := fun h4 => h ((size_zero ha).2 h4)
          omega
        rw [written, if_neg h2]
theorem in_base_any (a : List Int) (ha : Limbs a) (hla : a.length ≤ 17592186043904) (base : Int) (hb : -9223372036854775808 ≤ base ∧ base ≤ 9223372036854775807) (u : Bool) :
    Meets Tryz.prog 101 [.ints .u64 a, .int .i64 base, .bool u] (inBaseA a base u) := by
  rw [← in_base_same ha]; exact in_base a ha hla base hb u
def decA (a : List Int) : PV := if 4096 < size a then .tup [.str [], .int .i64 2] else .tup [.str (written 10 false (val a).toNat), .int .i64 0]
theorem decA_eq (a : List Int) : inBaseA a 10 false = decA a := by
  unfold inBaseA decA
  split
  · rfl
  · rw [if_neg (by decide)]; rfl
theorem decA_tup (a : List Int) : ∃ s e, decA a = .tup [.str s, .int .i64 e] := by
  unfold decA
  split <;> exact ⟨_, _, rfl⟩
theorem digits (a : List Int) (ha : Limbs a) (hla : a.length ≤ 17592186043904) : Meets Tryz.prog 61 [.ints .u64 a] (decA a) := by
  have h := in_base_any a ha hla 10 (by decide) false
  rw [decA_eq] at h
  obtain ⟨s, e, hse⟩ := decA_tup a
  rw [hse] at h ⊢
  refine meets_by ttOk Tryz.func61 Tryz.ntmps61 Tryz.results61 (by kernel_rfl) (c := _) rfl rfl rfl fun E => ?_
  simp only [argsFrame]
  exact walk
theorem ref_digits (a : List Int) (ha : Limbs a) (hla : a.length ≤ 17592186043904) : Meets Tryz.prog 75 [.ints .u64 a] (decA a) := by
  have h := ref_in_base a ha hla 10 (by decide) false
  rw [decA_eq] at h
  obtain ⟨s, e, hse⟩ := decA_tup a
  rw [hse] at h ⊢
  refine meets_by ttOk Tryz.func75 Tryz.ntmps75 Tryz.results75 (by kernel_rfl) (c := _) rfl rfl rfl fun E => ?_
  simp only [argsFrame]
  exact walk
theorem part_valD {l l' : List Int} {off n : Nat} (h : PartS l l' off n) (hn : off + n ≤ l.length) : val l' = val l + B64 ^ off * (vt (l'.drop off) n - vt (l.drop off) n) := by
  obtain ⟨m, hm⟩ : ∃ m, l.length = off + n + m := ⟨l.length - (off + n), by omega⟩
  unfold val
  rw [h.len, hm, vt_split l (off + n) m, vt_split l' (off + n) m, vt_split l off n, vt_split l' off n]
  have e5 : vt (l'.drop (off + n)) m = vt (l.drop (off + n)) m := vt_same _ fun j hj => by rw [getD_drop', getD_drop', h.out _ (.inr (by omega))]
  have e6 : vt l' off = vt l off := vt_same _ fun j hj => h.out _ (.inl hj)
  rw [e5, e6]
  generalize B64 ^ off = p
  generalize B64 ^ (off + n) = p2
  grind
theorem limbsOf_take (m v d : Nat) : (limbsOf (m + d) v).take m = limbsOf m v := by
  unfold limbsOf
  rw [← List.map_take, List.take_range, Nat.min_eq_left (by omega)]
def mvs (L Y k : Nat) : List PV := (List.range k).map fun i => PV.ints .u64 (limbsOf (L + 1) (Y * 2 ^ i))
theorem mvs_len (L Y k : Nat) : (mvs L Y k).length = k := by simp [mvs]
theorem mvs_succ (L Y k : Nat) : mvs L Y k ++ [PV.ints .u64 (limbsOf (L + 1) (Y * 2 ^ k))] = mvs L Y (k + 1) := by simp [mvs, List.range_succ]
theorem mvs_get (L Y : Nat) {k n : Nat} (h : k < n) : (mvs L Y n).getD k .undef = PV.ints .u64 (limbsOf (L + 1) (Y * 2 ^ k)) := by
  simp [mvs, List.getD_eq_getElem?_getD, h]
abbrev dvF (x y a b : List Int) (k : Nat) (m : List Int) : PV.Frame := [(10, .int .i64 (k : Int)), (9, .ints .u64 m), (8, .sl 2 0 k true), (7, .ints .u64 y), (6, .ints .u64 x), (0, .ints .u64 a), (1, .ints .u64 b)]
abbrev dvG (n N J : Nat) : PV.Frame := [(13, .int .i64 ((J : Int) - 1)), (12, .sl 5 0 N true), (11, .sl 3 0 (n + 1) true), (8, .sl 2 0 64 true)]
abbrev dvI (n N j K : Nat) : PV.Frame := [(14, .int .i64 ((K : Int) - 1)), (13, .int .i64 (j : Int)), (12, .sl 5 0 N true), (11, .sl 3 0 (n + 1) true), (8, .sl 2 0 64 true)]
abbrev dvH (mv : List PV) (r q : List Int) : PV.Heap := ⟨6, [(2, .list 1 mv), (3, .ints .u64 r), (5, .ints .u64 q)], [], []⟩
theorem take_snoc_n {s : List Int} {n : Nat} (h : s.length = n) (x : Int) : List.take (n + 1) (s ++ [x]) = s ++ [x] := by subst h; exact take_snoc_all s x
theorem parts_one (i : Nat) (l : List Int) : partsOk 1 [(i, .ints .u64 l)] := by simp [partsOk, known, dataB, dataB0, cellsOf]
theorem divide_walk (a b x y : List Int) (n L N X Y : Nat) (h1 : Meets Tryz.prog 107 [.ints .u64 a] (.ints .u64 x)) (h2 : Meets Tryz.prog 107 [.ints .u64 b] (.ints .u64 y)) (h3 : Meets Tryz.prog 108 [.ints .u64 x, .ints .u64 y] (.int .i64 (cmpN x y))) (hc : ¬ cmpN x y < 0)
    (g1 : ∀ nx rows gg ty, HMeets Tryz.prog 107 [.ints .u64 a] ⟨nx, rows, gg, ty⟩ fun res H' => res = .sl nx 0 n true ∧ H' = ⟨nx + 1, setRow rows nx (.ints .u64 x), gg, (nx, 25) :: ty⟩)
    (g2 : ∀ nx rows gg ty, HMeets Tryz.prog 107 [.ints .u64 b] ⟨nx, rows, gg, ty⟩ fun res H' => res = .sl nx 0 L true ∧ H' = ⟨nx + 1, setRow rows nx (.ints .u64 y), gg, (nx, 25) :: ty⟩)
    (hx : Limbs x) (hy : Limbs y) (hxn : x.length = n) (hyL : y.length = L) (hL : 1 ≤ L) (hN : N + L = n + 1) (hN0 : 1 ≤ N) (hn : n ≤ 20000) (hX : val x = X) (hY : val y = Y) (hlow : B64 ^ (L - 1) ≤ (Y : Int)) :
    Meets Tryz.prog 68 [.ints .u64 a, .ints .u64 b] (.tup [.ints .u64 (natL (X / Y)), .ints .u64 (natL (X % Y))]) := by
  have hYL : (Y : Int) < B64 ^ L := by rw [← hY, ← hyL]; exact (vt_bound hy y.length).2
  have hY0 : (0 : Int) < Y := Int.lt_of_lt_of_le (pow_pos64 _) hlow
  have hYn : Y < 18446744073709551616 ^ L := by
    have e : B64 ^ L = ((18446744073709551616 ^ L : Nat) : Int) := by rw [Int.natCast_pow]; rfl
    rw [e] at hYL
    exact Int.ofNat_lt.1 hYL
  have hmk : ∀ k, k ≤ 64 → Y * 2 ^ k < 18446744073709551616 ^ (L + 1) := fun k hk => by
    rw [Nat.pow_succ]
    exact Nat.mul_lt_mul_of_lt_of_le hYn (Nat.le_trans (Nat.pow_le_pow_right (by decide) hk) (by decide)) (by decide)
  have hmv : ∀ k, k ≤ 64 → vt (limbsOf (L + 1) (Y * 2 ^ k)) (L + 1) = (Y : Int) * 2 ^ k := fun k hk => by
    rw [limbsOf_vt _ _ _ (Nat.le_refl _), Nat.mod_eq_of_lt (hmk k hk), Int.natCast_mul, Int.natCast_pow]; rfl
  have hdb : ∀ k, k < 64 → Meets Tryz.prog 109 [.ints .u64 (limbsOf (L + 1) (Y * 2 ^ k)), .int .u64 0] (.ints .u64 (limbsOf (L + 1 + 1) (Y * 2 ^ (k + 1)))) := fun k hk => by
    have h := ref02_doubled (limbsOf (L + 1) (Y * 2 ^ k)) (limbsOf_limbs _ _) (by rw [limbsOf_length]; omega) 0 (by decide)
    rw [limbsOf_length, limbsOf_val (hmk k (by omega)), Int.add_zero, show (2 * ((Y * 2 ^ k : Nat) : Int)).toNat = Y * 2 ^ (k + 1) by rw [Nat.pow_succ, ← Nat.mul_assoc]; generalize Y * 2 ^ k = z; omega] at h
    exact h
  have hm0 : y ++ [0] = limbsOf (L + 1) (Y * 2 ^ 0) := by
    refine val_inj (limbs_snoc hy (by decide)) (limbsOf_limbs _ _) (by rw [len_snoc, limbsOf_length, hyL]) ?_
    rw [limbsOf_val (hmk 0 (by decide)), val_snoc, hY]; simp
  have hfin : ∀ q r, DvS q r (X : Int) (Y : Int) N (n + 1) 0 0 → Meets Tryz.prog 107 [.ints .u64 q] (.ints .u64 (natL (X / Y))) ∧ Meets Tryz.prog 107 [.ints .u64 r] (.ints .u64 (natL (X % Y))) := fun q r hS => by
    obtain ⟨f1, f2⟩ := hS.fin
    have k1 := ref02_short q (by rw [hS.ql]; omega)
    have k2 := ref02_short r (by rw [hS.rl]; omega)
    rw [trim_natLv hS.qlim f1] at k1
    rw [trim_natLv hS.rlim f2] at k2
    exact ⟨k1, k2⟩
  have hst := DvS.start (N := N) (Y := (Y : Int)) hx hxn hlow hL hN
  rw [hX] at hst
  have d0 : decide (cmpN x y < 0) = false := decide_eq_false hc
  have w0 : IntKind.wrap .i64 ((L : Int) + 1) = ((L + 1 : Nat) : Int) := wrap_i64 (by omega)
  have w1 : IntKind.wrap .i64 ((n : Int) - (L : Int)) = (N : Int) - 1 := by rw [wrap_i64 (by omega)]; omega
  have w2 : IntKind.wrap .i64 ((N : Int) - 1 + 1) = (N : Int) := by rw [wrap_i64 (by omega)]; omega
  have hxt : List.take n x = x := List.take_of_length_le (by omega)
  have hyt : List.take L y = y := List.take_of_length_le (by omega)
  generalize natL (X / Y) = rq at *
  generalize natL (X % Y) = rr at *
  clear hc hlow hX hY hYn
  refine meets_by ttOk Tryz.func68 Tryz.ntmps68 Tryz.results68 (by kernel_rfl) (c := _) rfl rfl rfl fun E => ?_
  simp only [argsFrame]
  repeat' first
    | (with_reducible first | refine PW.seq ?_ | refine PW.block ?_ | refine PW.fork ?_ | refine PW.skip ?_ | refine PW.exit ?_ | refine PW.ret ?_ | refine PW.scope ?_ | refine PW.label ?_ | refine PW.goto ?_)
    | (simp only [d0, w0, w1, w2, hxn, hyL, hxt, hyt, Int.toNat_natCast])
    | (with_reducible refine PW.region ttOk ?_ ?_
       · rfl)
    | (with_reducible refine PW.regionD ttOk mixed ?_ ?_ ?_
       · rfl
       · rfl)
    | (with_reducible refine ifW_dec (fun g => ?_) (fun g => ?_) <;> first | (exfalso; omega) | (simp -dsimp only [g, wkI]))
    | (with_reducible refine condE_dec (fun g => ?_) (fun g => ?_) <;> try (exfalso; omega))
    | (with_reducible refine condE_not (fun g => ?_) (fun g => ?_) <;> try (exfalso; omega))
    | (simp -dsimp only [↓wkA, ↓wkE, ↓wkJ, wkB, ↓tt, Nat.reduceBEq, Nat.reduceEqDiff, ↓reduceIte, Nat.reduceLT, Array.toList, Nat.reduceAdd, Nat.reduceMul, Int.reduceToNat, Int.reducePow, UInt8.reduceToNat])
    | (refine call_by h1 (views_data rfl) ⟨trivial, trivial⟩ rfl ?_; clear h1)
    | (refine call_by h2 (views_data rfl) ⟨trivial, trivial⟩ rfl ?_; clear h2)
    | (refine call_by (h3) (views_data rfl) ⟨trivial, trivial, trivial⟩ rfl ?_)
    | (refine call_h (g2 _ _ _ _) ?_; rintro _ _ ⟨rfl, rfl⟩; refine ⟨_, _, rfl, ?_⟩)
    | (simp -dsimp (disch := first | assumption | omega) only [dec_t, dec_f])
    | (refine andI ?_)
    | (simp (disch := omega) only [wkW, Int.reduceToNat, Int.reducePow])
    | fail
  refine PW.loopA (fun m F H => ∃ k : Nat, k + m = 64 ∧ F = dvF x y a b k (limbsOf (L + 1) (Y * 2 ^ k)) ∧ H = ⟨3, [(2, .list 1 (mvs L Y k))], [], []⟩) 64 (dvF x y a b 0 (limbsOf (L + 1) (Y * 2 ^ 0))) ⟨3, [(2, .list 1 [])], [], []⟩ (Sub.trans (toData 9 0 0 (L + 1) true rfl (show 0 + (L + 1) ≤ (y ++ [0]).length by rw [len_snoc]; omega)) (Sub.trans (Sub.nilVarL 8 58 1 rfl) (Sub.norm ⟨rfl, ?_, rfl, rfl, rfl, rfl, rfl, trivial⟩ ⟨rfl, trivial⟩ (Nat.le_refl _) rfl rfl rfl rfl))) ⟨0, by omega, rfl, rfl⟩ ?_
  · show PV.ints .u64 (((y ++ [0]).drop 0).take (L + 1)) = _
    rw [List.drop_zero, take_snoc_n hyL, hm0]
  rintro m F H ⟨k, hk, rfl, rfl⟩
  have hml := mvs_len L Y k
  cases m with
  | succ m =>
    have hd := hdb k (by omega)
    have hms := mvs_succ L Y k
    have htk := limbsOf_take (L + 1) (Y * 2 ^ (k + 1)) 1
    have hll := limbsOf_length (L + 1 + 1) (Y * 2 ^ (k + 1))
    have w3 : IntKind.wrap .i64 ((k : Int) + 1) = ((k + 1 : Nat) : Int) := wrap_i64 (by omega)
    have hmt : List.take k (mvs L Y k) = mvs L Y k := List.take_of_length_le (by omega)
    generalize mvs L Y k = mv at *
    generalize limbsOf (L + 1 + 1) (Y * 2 ^ (k + 1)) = dd at *
    repeat' first
      | (with_reducible first | refine PW.seq ?_ | refine PW.block ?_ | refine PW.fork ?_ | refine PW.skip ?_ | refine PW.exit ?_ | refine PW.ret ?_ | refine PW.scope ?_ | refine PW.label ?_ | refine PW.goto ?_)
      | (simp only [w0, w3, hyL, hmt, htk, Int.toNat_natCast])
      | (with_reducible refine PW.region ttOk ?_ ?_
         · rfl)
      | (with_reducible refine PW.regionD ttOk mixed ?_ ?_ ?_
         · rfl
         · rfl)
      | (with_reducible refine ifW_dec (fun g => ?_) (fun g => ?_) <;> first | (exfalso; omega) | (simp -dsimp only [g, wkI]))
      | (with_reducible refine condE_dec (fun g => ?_) (fun g => ?_) <;> try (exfalso; omega))
      | (with_reducible refine condE_not (fun g => ?_) (fun g => ?_) <;> try (exfalso; omega))
      | (simp -dsimp only [↓wkA, ↓wkE, ↓wkJ, wkB, ↓tt, Nat.reduceBEq, Nat.reduceEqDiff, ↓reduceIte, Nat.reduceLT, Array.toList, Nat.reduceAdd, Nat.reduceMul, Int.reduceToNat, Int.reducePow, UInt8.reduceToNat])
      | (refine And.intro (parts_one _ _) ?_)
      | (refine call_by (hd) (views_data rfl) ⟨trivial, trivial, trivial⟩ rfl ?_)
      | (simp -dsimp (disch := first | assumption | omega) only [dec_t, dec_f])
      | (refine andI ?_)
      | (simp (disch := omega) only [wkW, Int.reduceToNat, Int.reducePow])
      | fail
    exact Again.mk m (dvF x y a b (k + 1) (limbsOf (L + 1) (Y * 2 ^ (k + 1)))) ⟨3, [(2, .list 1 (mvs L Y (k + 1)))], [], []⟩ (by omega) (Sub.norm ⟨rfl, rfl, congrArg (fun z => PV.sl 2 0 (z + 1) true) hml, rfl, rfl, rfl, rfl, trivial⟩ ⟨congrArg (fun z => some (PV.Row.list 1 z)) hms, trivial⟩ (by simp) rfl rfl rfl rfl) ⟨k + 1, by omega, rfl, rfl⟩
  | zero =>
    obtain rfl : k = 64 := by omega
    have hmg := fun k (hk : k < 64) => mvs_get L Y hk
    generalize mvs L Y 64 = mv at *
    repeat' first
      | (with_reducible first | refine PW.seq ?_ | refine PW.block ?_ | refine PW.fork ?_ | refine PW.skip ?_ | refine PW.exit ?_ | refine PW.ret ?_ | refine PW.scope ?_ | refine PW.label ?_ | refine PW.goto ?_)
      | (simp only [w1, w2, hxn, hyL, hxt, Int.toNat_natCast])
      | (with_reducible refine PW.region ttOk ?_ ?_
         · rfl)
      | (with_reducible refine PW.regionD ttOk mixed ?_ ?_ ?_
         · rfl
         · rfl)
      | (with_reducible refine ifW_dec (fun g => ?_) (fun g => ?_) <;> first | (exfalso; omega) | (simp -dsimp only [g, wkI]))
      | (with_reducible refine condE_dec (fun g => ?_) (fun g => ?_) <;> try (exfalso; omega))
      | (with_reducible refine condE_not (fun g => ?_) (fun g => ?_) <;> try (exfalso; omega))
      | (simp -dsimp only [↓wkA, ↓wkE, ↓wkJ, wkB, ↓tt, Nat.reduceBEq, Nat.reduceEqDiff, ↓reduceIte, Nat.reduceLT, Array.toList, Nat.reduceAdd, Nat.reduceMul, Int.reduceToNat, Int.reducePow, UInt8.reduceToNat])
      | (refine call_h (g1 _ _ _ _) ?_; rintro _ _ ⟨rfl, rfl⟩; refine ⟨_, _, rfl, ?_⟩)
      | (simp -dsimp (disch := first | assumption | omega) only [dec_t, dec_f])
      | (refine andI ?_)
      | (simp (disch := omega) only [wkW, Int.reduceToNat, Int.reducePow])
      | fail
    refine PW.loopA (fun J F H => ∃ q r, J ≤ N ∧ DvS q r X Y N (n + 1) J 0 ∧ F = dvG n N J ∧ H = dvH mv r q) N (dvG n N N) (dvH mv (x ++ [0]) (List.replicate N 0)) (Sub.norm ⟨rfl, rfl, rfl, rfl, trivial⟩ ⟨rfl, rfl, rfl, trivial⟩ (Nat.le_refl _) rfl rfl rfl rfl) ⟨_, _, Nat.le_refl _, hst, rfl, rfl⟩ ?_
    clear hst
    rintro J F H ⟨q, r, hJ, hS, rfl, rfl⟩
    have hql := hS.ql
    have hrl := hS.rl
    cases J with
    | zero =>
      obtain ⟨f1, f2⟩ := hfin q r hS
      have hqt : List.take N q = q := List.take_of_length_le (by omega)
      have hrt : List.take (n + 1) r = r := List.take_of_length_le (by omega)
      repeat' first
        | (with_reducible first | refine PW.seq ?_ | refine PW.block ?_ | refine PW.fork ?_ | refine PW.skip ?_ | refine PW.exit ?_ | refine PW.ret ?_ | refine PW.scope ?_ | refine PW.label ?_ | refine PW.goto ?_)
        | (simp only [hqt, hrt])
        | (with_reducible refine PW.region ttOk ?_ ?_
           · rfl)
        | (with_reducible refine PW.regionD ttOk mixed ?_ ?_ ?_
           · rfl
           · rfl)
        | (with_reducible refine ifW_dec (fun g => ?_) (fun g => ?_) <;> first | (exfalso; omega) | (simp -dsimp only [g, wkI]))
        | (with_reducible refine condE_dec (fun g => ?_) (fun g => ?_) <;> try (exfalso; omega))
        | (with_reducible refine condE_not (fun g => ?_) (fun g => ?_) <;> try (exfalso; omega))
        | (simp -dsimp only [↓wkA, ↓wkE, ↓wkJ, wkB, ↓tt, Nat.reduceBEq, Nat.reduceEqDiff, ↓reduceIte, Nat.reduceLT, Array.toList, Nat.reduceAdd, Nat.reduceMul, Int.reduceToNat, Int.reducePow, UInt8.reduceToNat])
        | (refine call_drop (args' := [.ints .u64 q]) (by simp -dsimp only [↓wkA, ↓wkE, ↓wkJ, wkB, ↓tt, Nat.reduceBEq, Nat.reduceEqDiff, ↓reduceIte, Nat.reduceLT, Array.toList, Nat.reduceAdd, Nat.reduceMul, Int.reduceToNat, Int.reducePow, UInt8.reduceToNat] <;> rw [hqt]) f1 (by simp -dsimp only [okViews, ↓wkA, ↓wkE, ↓wkJ, wkB, ↓tt, Nat.reduceBEq, Nat.reduceEqDiff, ↓reduceIte, Nat.reduceLT, Array.toList, Nat.reduceAdd, Nat.reduceMul, Int.reduceToNat, Int.reducePow, UInt8.reduceToNat] <;> omega) rfl ?_; clear f1; simp only [wkD, Nat.reduceBEq])
        | (refine call_drop (args' := [.ints .u64 r]) (by simp -dsimp only [↓wkA, ↓wkE, ↓wkJ, wkB, ↓tt, Nat.reduceBEq, Nat.reduceEqDiff, ↓reduceIte, Nat.reduceLT, Array.toList, Nat.reduceAdd, Nat.reduceMul, Int.reduceToNat, Int.reducePow, UInt8.reduceToNat] <;> rw [hrt]) f2 (by simp -dsimp only [okViews, ↓wkA, ↓wkE, ↓wkJ, wkB, ↓tt, Nat.reduceBEq, Nat.reduceEqDiff, ↓reduceIte, Nat.reduceLT, Array.toList, Nat.reduceAdd, Nat.reduceMul, Int.reduceToNat, Int.reducePow, UInt8.reduceToNat] <;> omega) rfl ?_; clear f2; simp only [wkD, Nat.reduceBEq])
        | (simp -dsimp (disch := first | assumption | omega) only [dec_t, dec_f])
        | (refine andI ?_)
        | (simp (disch := omega) only [wkW, Int.reduceToNat, Int.reducePow])
        | fail
    | succ j =>
      have e1 : (((j + 1 : Nat)) : Int) - 1 = (j : Int) := by omega
      have w3 : IntKind.wrap .i64 ((j : Int) - 1) = (j : Int) - 1 := wrap_i64 (by omega)
      have W := e1
      refine walk1 ?_
      refine PW.loopA (fun K F H => ∃ q r, K ≤ 64 ∧ DvS q r X Y N (n + 1) j K ∧ F = dvI n N j K ∧ H = dvH mv r q) 64 (dvI n N j 64) (dvH mv r q) (Sub.norm ⟨rfl, congrArg (PV.int .i64) e1, rfl, rfl, rfl, trivial⟩ ⟨rfl, rfl, rfl, trivial⟩ (Nat.le_refl _) rfl rfl rfl rfl) ⟨_, _, Nat.le_refl _, hS.next, rfl, rfl⟩ ?_
      clear hS hql hrl
      rintro K F H ⟨q, r, hK, hS, rfl, rfl⟩
      have hql := hS.ql
      have hrl := hS.rl
      cases K with
      | zero =>
        have W := w3
        refine walk1 ?_
        exact Again.mk j (dvG n N j) (dvH mv r q) (by omega) (Sub.norm ⟨rfl, rfl, rfl, rfl, trivial⟩ ⟨rfl, rfl, rfl, trivial⟩ (by simp) rfl rfl rfl rfl) ⟨_, _, by omega, hS, rfl, rfl⟩
      | succ k =>
        have e2 : (((k + 1 : Nat)) : Int) - 1 = (k : Int) := by omega
        have w4 : IntKind.wrap .i64 ((k : Int) - 1) = (k : Int) - 1 := wrap_i64 (by omega)
        have hg := hmg k (by omega)
        have hmk' := hmv k (by omega)
        have hLm := limbsOf_limbs (L + 1) (Y * 2 ^ k)
        have hlm := limbsOf_length (L + 1) (Y * 2 ^ k)
        have hseg := hS.seg hYL hY0 (by omega) (by omega)
        have hlo := vt_bound hS.rlim j
        have hho := ref02_holds r (limbsOf (L + 1) (Y * 2 ^ k)) hS.rlim hLm j (L + 1) hlm (by omega) (by omega)
        have hto := fun nx rows gg ty hr => ref02_take_off r (limbsOf (L + 1) (Y * 2 ^ k)) hS.rlim hLm j (L + 1) hlm (by omega) (by omega) true 3 nx rows gg ty hr
        rw [hmk'] at hho hto
        rw [hrl] at hto
        have hrt : List.take (n + 1) r = r := List.take_of_length_le (by omega)
        generalize limbsOf (L + 1) (Y * 2 ^ k) = mk at *
        by_cases hh : (Y : Int) * 2 ^ k ≤ vt (r.drop j) (L + 1)
        · rw [decide_eq_true hh] at hho
          have hyes : ∀ r' b, PartS r r' j (L + 1) → 0 ≤ b → b ≤ 1 → vt (r'.drop j) (L + 1) = vt (r.drop j) (L + 1) - (Y : Int) * 2 ^ k + B64 ^ (L + 1) * b → DvS (q.set j (q.getD j 0 + 2 ^ k)) r' X Y N (n + 1) j k ∧ q.getD j 0 + 2 ^ k < B64 := fun r' b hP hb0 hb1 he => by
            have hb : b = 0 := by
              rcases (show b = 0 ∨ b = 1 by omega) with h | h
              · exact h
              · exfalso
                have h5 := (vt_bound (limbs_drop hP.lim j) (L + 1)).2
                rw [he, h, Int.mul_one] at h5
                omega
            refine hS.yes (by omega) (by omega) (by rw [hP.len, hrl]) hP.lim ?_
            rw [part_valD hP (by omega), he, hb]
            generalize B64 ^ j = p
            generalize (2 : Int) ^ k = t
            generalize vt (r.drop j) (L + 1) = z
            grind
          have hor : q.getD j 0 + 2 ^ k < B64 → ibits .or .u64 (q.getD j 0) (2 ^ k) = q.getD j 0 + 2 ^ k := fun hlt => by
            obtain ⟨t, ht⟩ := Int.dvd_of_emod_eq_zero hS.part
            have hx0 := getD_limb hS.qlim j
            have ht0 : 0 ≤ t := by
              refine Int.le_of_not_gt fun h => ?_
              have : 2 ^ (k + 1) * t < 0 := Int.mul_neg_of_pos_of_neg (Int.pow_pos (by decide)) h
              omega
            have h6 := or_low t (2 ^ k) (k + 1) ht0 ⟨Int.le_of_lt (Int.pow_pos (by decide)), by rw [Int.pow_succ]; have : (0 : Int) < 2 ^ k := Int.pow_pos (by decide); omega⟩ (by rw [Int.mul_comm, ← ht]; simp only [B64] at hlt; omega)
            rw [Int.mul_comm, ← ht] at h6
            exact h6
          have w5 : IntKind.wrap .u64 (k : Int) = (k : Int) := wrap_u64 (by omega)
          have w6 : IntKind.wrap .u64 (1 * 2 ^ min k 64) = 2 ^ k := by
            rw [Nat.min_eq_left (by omega), Int.one_mul]
            have h7 : (2 : Int) ^ k ≤ 2 ^ 63 := by exact_mod_cast Nat.pow_le_pow_right (by decide) (show k ≤ 63 by omega)
            have h8 : (0 : Int) < 2 ^ k := Int.pow_pos (by decide)
            generalize (2 : Int) ^ k = z at *
            exact wrap_u64 (by omega)
          clear hdb hmv hmk hmg hfin
          repeat' first
            | (with_reducible first | refine PW.seq ?_ | refine PW.block ?_ | refine PW.fork ?_ | refine PW.skip ?_ | refine PW.exit ?_ | refine PW.ret ?_ | refine PW.scope ?_ | refine PW.label ?_ | refine PW.goto ?_)
            | (simp only [e2, w5, w6, hg, hrt, Int.toNat_natCast])
            | (with_reducible refine PW.region ttOk ?_ ?_
               · rfl)
            | (with_reducible refine PW.regionD ttOk mixed ?_ ?_ ?_
               · rfl
               · rfl)
            | (with_reducible refine ifW_dec (fun g => ?_) (fun g => ?_) <;> first | (exfalso; omega) | (simp -dsimp only [g, wkI]))
            | (with_reducible refine condE_dec (fun g => ?_) (fun g => ?_) <;> try (exfalso; omega))
            | (with_reducible refine condE_not (fun g => ?_) (fun g => ?_) <;> try (exfalso; omega))
            | (simp -dsimp only [↓wkA, ↓wkE, ↓wkJ, wkB, ↓tt, Nat.reduceBEq, Nat.reduceEqDiff, ↓reduceIte, Nat.reduceLT, Array.toList, Nat.reduceAdd, Nat.reduceMul, Int.reduceToNat, Int.reducePow, UInt8.reduceToNat])
            | (refine call_by' (args' := [.ints .u64 r, .int .i64 (j : Int), .ints .u64 mk]) (by simp -dsimp only [↓wkA, ↓wkE, ↓wkJ, wkB, ↓tt, Nat.reduceBEq, Nat.reduceEqDiff, ↓reduceIte, Nat.reduceLT, Array.toList, Nat.reduceAdd, Nat.reduceMul, Int.reduceToNat, Int.reducePow, UInt8.reduceToNat] <;> rw [hrt]) hho (by simp -dsimp only [okViews, ↓wkA, ↓wkE, ↓wkJ, wkB, ↓tt, Nat.reduceBEq, Nat.reduceEqDiff, ↓reduceIte, Nat.reduceLT, Array.toList, Nat.reduceAdd, Nat.reduceMul, Int.reduceToNat, Int.reducePow, UInt8.reduceToNat] <;> omega) rfl ?_)
            | (refine call_h (hto _ _ _ _ rfl) ?_; rintro _ _ ⟨r', b, hP, hb0, hb1, he, rfl⟩; refine ⟨_, _, rfl, ?_⟩)
            | (simp -dsimp (disch := first | assumption | omega) only [dec_t, dec_f])
            | (refine andI ?_)
            | (simp (disch := omega) only [wkW, Int.reduceToNat, Int.reducePow])
            | fail
          obtain ⟨hd1, hlt⟩ := hyes r' b hP hb0 hb1 he
          rw [hor hlt]
          exact Again.mk k (dvI n N j k) (dvH mv r' (q.set j (q.getD j 0 + 2 ^ k))) (by omega) (Sub.norm ⟨rfl, rfl, rfl, rfl, rfl, trivial⟩ ⟨rfl, rfl, rfl, trivial⟩ (by simp) rfl rfl rfl rfl) ⟨_, _, by omega, hd1, rfl, rfl⟩
        · rw [decide_eq_false hh] at hho
          have hno := hS.no (by
            rw [hseg]
            have h5 : B64 ^ j * (vt (r.drop j) (L + 1) + 1) ≤ B64 ^ j * ((Y : Int) * 2 ^ k) := Int.mul_le_mul_of_nonneg_left (by omega) (Int.le_of_lt (pow_pos64 j))
            rw [Int.mul_add, Int.mul_one] at h5
            have e3 : (Y : Int) * (B64 ^ j * 2 ^ k) = B64 ^ j * ((Y : Int) * 2 ^ k) := by rw [Int.mul_left_comm]
            omega)
          clear hdb hmv hmk hmg hfin
          repeat' first
            | (with_reducible first | refine PW.seq ?_ | refine PW.block ?_ | refine PW.fork ?_ | refine PW.skip ?_ | refine PW.exit ?_ | refine PW.ret ?_ | refine PW.scope ?_ | refine PW.label ?_ | refine PW.goto ?_)
            | (simp only [e2, w4, hg, hrt, Int.toNat_natCast])
            | (with_reducible refine PW.region ttOk ?_ ?_
               · rfl)
            | (with_reducible refine PW.regionD ttOk mixed ?_ ?_ ?_
               · rfl
               · rfl)
            | (with_reducible refine ifW_dec (fun g => ?_) (fun g => ?_) <;> first | (exfalso; omega) | (simp -dsimp only [g, wkI]))
            | (with_reducible refine condE_dec (fun g => ?_) (fun g => ?_) <;> try (exfalso; omega))
            | (with_reducible refine condE_not (fun g => ?_) (fun g => ?_) <;> try (exfalso; omega))
            | (simp -dsimp only [↓wkA, ↓wkE, ↓wkJ, wkB, ↓tt, Nat.reduceBEq, Nat.reduceEqDiff, ↓reduceIte, Nat.reduceLT, Array.toList, Nat.reduceAdd, Nat.reduceMul, Int.reduceToNat, Int.reducePow, UInt8.reduceToNat])
            | (refine call_by' (args' := [.ints .u64 r, .int .i64 (j : Int), .ints .u64 mk]) (by simp -dsimp only [↓wkA, ↓wkE, ↓wkJ, wkB, ↓tt, Nat.reduceBEq, Nat.reduceEqDiff, ↓reduceIte, Nat.reduceLT, Array.toList, Nat.reduceAdd, Nat.reduceMul, Int.reduceToNat, Int.reducePow, UInt8.reduceToNat] <;> rw [hrt]) hho (by simp -dsimp only [okViews, ↓wkA, ↓wkE, ↓wkJ, wkB, ↓tt, Nat.reduceBEq, Nat.reduceEqDiff, ↓reduceIte, Nat.reduceLT, Array.toList, Nat.reduceAdd, Nat.reduceMul, Int.reduceToNat, Int.reducePow, UInt8.reduceToNat] <;> omega) rfl ?_)
            | (simp -dsimp (disch := first | assumption | omega) only [dec_t, dec_f])
            | (refine andI ?_)
            | (simp (disch := omega) only [wkW, Int.reduceToNat, Int.reducePow])
            | fail
          exact Again.mk k (dvI n N j k) (dvH mv r q) (by omega) (Sub.norm ⟨rfl, rfl, rfl, rfl, rfl, trivial⟩ ⟨rfl, rfl, rfl, trivial⟩ (by simp) rfl rfl rfl rfl) ⟨_, _, by omega, hno, rfl, rfl⟩
theorem ref04_decode (d : Nat) (hd : d < 18446744073709551616) : Meets Tryz.prog 50 [.int .u64 (d : Int)] (partsP d) := by
  have hb := field_lt d
  have hf := frac_lt d
  have h1 : decide ((d : Int) / 9223372036854775808 = 1) = negD d := decide_eq_decide.2 (by omega)
  have h2 : (d : Int) / 4503599627370496 % 2048 = (fieldD d : Int) := by have := shr_52 (d := d); omega
  have h3 : (d : Int) % 4503599627370496 = (fracD d : Int) := by unfold fracD; omega
  have w0 : IntKind.wrap .u64 ((d : Int) / 9223372036854775808) = (d : Int) / 9223372036854775808 := wrap_u64 (by omega)
  have w1 : IntKind.wrap .u64 ((d : Int) / 4503599627370496) = (d : Int) / 4503599627370496 := wrap_u64 (by omega)
  have w2 : IntKind.wrap .i64 (fieldD d : Int) = (fieldD d : Int) := wrap_i64 (by omega)
  have w3 : IntKind.wrap .u64 (4503599627370496 + (fracD d : Int)) = 4503599627370496 + (fracD d : Int) := wrap_u64 (by omega)
  have w4 : IntKind.wrap .i64 ((fieldD d : Int) - 1075) = (fieldD d : Int) - 1075 := wrap_i64 (by omega)
  have hC : classD d = if fieldD d = 2047 then (if fracD d = 0 then 3 else 4) else if 0 < fieldD d then 2 else if fracD d = 0 then 0 else 1 := by
    have := abs_zero (d := d)
    unfold classD
    repeat' split
    all_goals omega
  have hM : partsM d = if fieldD d = 2047 then (fracD d : Int) else if 0 < fieldD d then 4503599627370496 + (fracD d : Int) else (fracD d : Int) := by
    unfold partsM mantD
    rw [hC]
    repeat' split
    all_goals omega
  have hE : partsE d = if fieldD d = 2047 then 0 else if 0 < fieldD d then (fieldD d : Int) - 1075 else if fracD d = 0 then 0 else -1074 := by
    unfold partsE expD
    rw [hC]
    repeat' split
    all_goals omega
  have q0 : (d : Int).tdiv 9223372036854775808 = (d : Int) / 9223372036854775808 := Int.tdiv_eq_ediv_of_nonneg (by omega)
  have q1 : (d : Int).tdiv 4503599627370496 = (d : Int) / 4503599627370496 := Int.tdiv_eq_ediv_of_nonneg (by omega)
  have q2 : ((d : Int) / 4503599627370496).tmod 2048 = (fieldD d : Int) := by rw [Int.tmod_eq_emod_of_nonneg (by omega)]; exact h2
  have q3 : (d : Int).tmod 4503599627370496 = (fracD d : Int) := by rw [Int.tmod_eq_emod_of_nonneg (by omega)]; exact h3
  unfold partsP
  rw [hM, hE, hC]
  clear hM hE hC
  generalize fieldD d = fd at *
  generalize fracD d = fr at *
  generalize negD d = ng at *
  refine meets_by ttOk Tryz.func50 Tryz.ntmps50 Tryz.results50 (by kernel_rfl) (c := _) rfl rfl rfl fun E => ?_
  simp only [argsFrame]
  repeat' first
    | (simp only [q0, q1, q2, q3, w0, w1, h1, w2, w3, w4])
    | (with_reducible first | refine PW.seq ?_ | refine PW.block ?_ | refine PW.fork ?_ | refine PW.skip ?_ | refine PW.exit ?_ | refine PW.ret ?_ | refine PW.scope ?_ | refine PW.label ?_ | refine PW.goto ?_)
    | (with_reducible refine PW.region ttOk ?_ ?_
       · rfl)
    | (with_reducible refine PW.regionD ttOk mixed ?_ ?_ ?_
       · rfl
       · rfl)
    | (with_reducible refine ifW_dec (fun g => ?_) (fun g => ?_) <;> first | (exfalso; omega) | (simp -dsimp only [g, wkI]))
    | (with_reducible refine condE_dec (fun g => ?_) (fun g => ?_) <;> try (exfalso; omega))
    | (with_reducible refine condE_not (fun g => ?_) (fun g => ?_) <;> try (exfalso; omega))
    | (simp -dsimp only [↓wkA, ↓wkE, ↓wkJ, wkB, ↓tt, Nat.reduceBEq, Nat.reduceEqDiff, ↓reduceIte, Nat.reduceLT, Array.toList, Nat.reduceAdd, Nat.reduceMul, Int.reduceToNat, Int.reducePow, UInt8.reduceToNat])
    | (simp -dsimp (disch := first | assumption | omega) only [dec_t, dec_f])
    | (refine andI ?_)
    | (simp (disch := omega) only [wkW, Int.reduceToNat, Int.reducePow])
    | fail
  all_goals ((repeat' split) <;> first | rfl | (exfalso; omega) | (subst_vars; rfl))
theorem ref04_class (d : Nat) (hd : d < 18446744073709551616) : Meets Tryz.prog 24 [.int .u64 (d : Int)] (.int .i64 (classD d)) := by
  have h1 := ref04_decode d hd
  unfold partsP at h1
  generalize negD d = x1 at *
  generalize classD d = x2 at *
  generalize partsM d = x3 at *
  generalize partsE d = x4 at *
  refine meets_by ttOk Tryz.func24 Tryz.ntmps24 Tryz.results24 (by kernel_rfl) (c := _) rfl rfl rfl fun E => ?_
  simp only [argsFrame]
  exact walk
theorem short_finite (d : Nat) (hd : d < 18446744073709551616) : Meets Tryz.prog 26 [.int .u64 (d : Int)] (.bool (decide (finD d))) := by
  have h1 := ieee_class d hd
  have h2 : decide (classD d < 3) = decide (finD d) := decide_eq_decide.2 (by
    have hb := field_lt d
    unfold finD classD
    have ha := abs_zero (d := d)
    repeat' split
    all_goals omega)
  generalize classD d = c at *
  generalize decide (finD d) = b at *
  refine meets_by ttOk Tryz.func26 Tryz.ntmps26 Tryz.results26 (by kernel_rfl) (c := _) rfl rfl rfl fun E => ?_
  simp only [argsFrame]
  have W := h2
  exact walk
theorem digits_natU {v : Nat} (hv : v < NMax) : Meets Tryz.prog 61 [.ints .u64 (natL v)] (.tup [.str (written 10 false v), .int .i64 0]) := by
  have h1 := natL_small hv
  have h := digits (natL v) (natL_limbs v) (by omega)
  have h2 := size_le (natL v)
  unfold decA at h
  rw [if_neg (by omega), val_natL] at h
  exact h
theorem ref_digits_natU {v : Nat} (hv : v < NMax) : Meets Tryz.prog 75 [.ints .u64 (natL v)] (.tup [.str (written 10 false v), .int .i64 0]) := by
  have h1 := natL_small hv
  have h := ref_digits (natL v) (natL_limbs v) (by omega)
  have h2 := size_le (natL v)
  unfold decA at h
  rw [if_neg (by omega), val_natL] at h
  exact h
theorem ref_cmpU {u v : Nat} (hu : u < 2 ^ 2700) (hv : v < 2 ^ 2700) : Meets Tryz.prog 72 [.ints .u64 (natL u), .ints .u64 (natL v)] (.int .i64 (cmpU u v)) := by
  have l1 := big_len hu
  have l2 := big_len hv
  have h := ref01_cmp (natL u) (natL v) (natL_limbs u) (natL_limbs v) (by omega) (by omega)
  rw [cmpU_nat (val_natL u) (val_natL v)] at h
  exact h
theorem least_walk (m e k c : Int) (N D : List Int) (b : Bool) (h1 : Meets Tryz.prog 67 [.int .u64 m, .int .i64 e, .int .i64 k] (.tup [.ints .u64 N, .ints .u64 D])) (h2 : Meets Tryz.prog 72 [.ints .u64 N, .ints .u64 D] (.int .i64 c)) (hb : decide (0 ≤ c) = b) : Meets Tryz.prog 66 [.int .u64 m, .int .i64 e, .int .i64 k] (.bool b) := by
  refine meets_by ttOk Tryz.func66 Tryz.ntmps66 Tryz.results66 (by kernel_rfl) (c := _) rfl rfl rfl fun E => ?_
  simp only [argsFrame]
  have W := hb
  exact walk
theorem up_small {m : Nat} {e k : Int} (hm : m < 2 ^ 60) (he : -1100 ≤ e ∧ e ≤ 1000) (hk : -420 ≤ k ∧ k ≤ 420) : m * upS e k < 2 ^ 2700 ∧ beS e k < 2 ^ 2700 :=
  ⟨Nat.lt_of_lt_of_le (Nat.mul_lt_mul'' hm (upS_lt he.2 hk.1)) (by decide +kernel), Nat.lt_of_lt_of_le (beS_lt he.1 hk.2) (Nat.pow_le_pow_right (by decide) (by decide))⟩
theorem ref12_least (m : Nat) (e k : Int) (hm : m < 2 ^ 60) (he : -1100 ≤ e ∧ e ≤ 1000) (hk : -420 ≤ k ∧ k ≤ 420) : Meets Tryz.prog 66 [.int .u64 (m : Int), .int .i64 e, .int .i64 k] (.bool (decide (GeT m e k))) := by
  obtain ⟨b1, b2⟩ := up_small hm he hk
  refine least_walk _ _ _ _ _ _ _ (ref12_scaled m e k hm he hk) (ref_cmpU b1 b2) (decide_eq_decide.2 ?_)
  unfold GeT
  rcases cmpU_cases (m * upS e k) (beS e k) with ⟨h1, h2⟩ | ⟨h1, h2⟩ | ⟨h1, h2⟩ <;> rw [h1] <;> omega
theorem tens_walk (m e bl b q k0 kT : Int) (hbl : Meets Tryz.prog 65 [.ints .u64 [m]] (.int .i64 bl)) (w1 : IntKind.wrap .i64 (bl - 1) = bl - 1) (w2 : IntKind.wrap .i64 (bl - 1 + e) = b) (w3 : IntKind.wrap .i64 (b * 30103) = q) (w4 : IntKind.wrap .i64 (q.tdiv 100000) = k0)
    (hk0 : -410 ≤ k0 ∧ k0 ≤ 410) (hkT : -400 ≤ kT ∧ kT < 400)
    (hat : ∀ i : Int, -412 ≤ i → i ≤ 412 → Meets Tryz.prog 66 [.int .u64 m, .int .i64 e, .int .i64 i] (.bool (decide (i ≤ kT)))) :
    Meets Tryz.prog 34 [.int .u64 m, .int .i64 e] (.int .i64 kT) := by
  refine meets_by ttOk Tryz.func34 Tryz.ntmps34 Tryz.results34 (by kernel_rfl) (c := _) rfl rfl rfl fun E => ?_
  simp only [argsFrame]
  repeat' first
    | (with_reducible first | refine PW.seq ?_ | refine PW.block ?_ | refine PW.fork ?_ | refine PW.skip ?_ | refine PW.exit ?_ | refine PW.ret ?_ | refine PW.scope ?_ | refine PW.label ?_ | refine PW.goto ?_)
    | (simp only [w1, w2, w3, w4])
    | (with_reducible refine PW.region ttOk ?_ ?_
       · rfl)
    | (with_reducible refine PW.regionD ttOk mixed ?_ ?_ ?_
       · rfl
       · rfl)
    | (with_reducible refine ifW_dec (fun g => ?_) (fun g => ?_) <;> first | (exfalso; omega) | (simp -dsimp only [g, wkI]))
    | (with_reducible refine condE_dec (fun g => ?_) (fun g => ?_) <;> try (exfalso; omega))
    | (with_reducible refine condE_not (fun g => ?_) (fun g => ?_) <;> try (exfalso; omega))
    | (simp -dsimp only [↓wkA, ↓wkE, ↓wkJ, wkB, ↓tt, Nat.reduceBEq, Nat.reduceEqDiff, ↓reduceIte, Nat.reduceLT, Array.toList, Nat.reduceAdd, Nat.reduceMul, Int.reduceToNat, Int.reducePow, UInt8.reduceToNat])
    | (refine call_by' (args' := [.ints .u64 [m]]) rfl hbl ⟨Nat.le_refl _, trivial⟩ rfl ?_)
    | (simp -dsimp (disch := first | assumption | omega) only [dec_t, dec_f])
    | (refine andI ?_)
    | (simp (disch := omega) only [wkW, Int.reduceToNat, Int.reducePow])
    | fail
  refine PW.loopA (fun n F H => ∃ i : Int, (i - kT).toNat = n ∧ -410 ≤ i ∧ i ≤ 410 ∧ F = [(6, .int .i64 i), (0, .int .u64 m), (1, .int .i64 e)] ∧ H = ⟨0, [], [], []⟩) (k0 - kT).toNat [(6, .int .i64 k0), (0, .int .u64 m), (1, .int .i64 e)] ⟨0, [], [], []⟩ (Sub.norm ⟨rfl, rfl, rfl, trivial⟩ trivial (by simp) rfl rfl rfl rfl) ⟨k0, rfl, hk0.1, hk0.2, rfl, rfl⟩ ?_
  rintro n F H ⟨i, hi, hi2, hi3, rfl, rfl⟩
  have h1 := hat i (by omega) (by omega)
  cases n with
  | succ n =>
    have d1 : decide (i ≤ kT) = false := decide_eq_false (by omega)
    have w5 : IntKind.wrap .i64 (i - 1) = i - 1 := wrap_i64 (by omega)
    rw [d1] at h1
    have W := w5
    refine walk1 ?_
    exact Again.mk n [(6, .int .i64 (i - 1)), (0, .int .u64 m), (1, .int .i64 e)] ⟨0, [], [], []⟩ (by omega) (Sub.norm ⟨rfl, rfl, rfl, trivial⟩ trivial (by simp) rfl rfl rfl rfl) ⟨i - 1, by omega, by omega, by omega, rfl, rfl⟩
  | zero =>
    have d1 : decide (i ≤ kT) = true := decide_eq_true (by omega)
    rw [d1] at h1
    refine walk1 ?_
    clear h1 d1
    refine PW.loopA (fun n F H => ∃ i : Int, (kT - i).toNat = n ∧ i ≤ kT ∧ -410 ≤ i ∧ F = [(6, .int .i64 i), (0, .int .u64 m), (1, .int .i64 e)] ∧ H = ⟨0, [], [], []⟩) (kT - i).toNat [(6, .int .i64 i), (0, .int .u64 m), (1, .int .i64 e)] ⟨0, [], [], []⟩ (Sub.norm ⟨rfl, rfl, rfl, trivial⟩ trivial (by simp) rfl rfl rfl rfl) ⟨i, rfl, by omega, by omega, rfl, rfl⟩ ?_
    clear hi hi2 hi3
    rintro n F H ⟨i, hi, hi2, hi3, rfl, rfl⟩
    have h1 := hat (i + 1) (by omega) (by omega)
    have w5 : IntKind.wrap .i64 (i + 1) = i + 1 := wrap_i64 (by omega)
    cases n with
    | zero =>
      obtain rfl : i = kT := by omega
      have d1 : decide (i + 1 ≤ i) = false := decide_eq_false (by omega)
      rw [d1] at h1
      have W := w5
      exact walk
    | succ n =>
      have d1 : decide (i + 1 ≤ kT) = true := decide_eq_true (by omega)
      rw [d1] at h1
      have W := w5
      refine walk1 ?_
      exact Again.mk n [(6, .int .i64 (i + 1)), (0, .int .u64 m), (1, .int .i64 e)] ⟨0, [], [], []⟩ (by omega) (Sub.norm ⟨rfl, rfl, rfl, trivial⟩ trivial (by simp) rfl rfl rfl rfl) ⟨i + 1, by omega, by omega, by omega, rfl, rfl⟩
theorem ref12_tens (m : Nat) (e kT : Int) (hm0 : m ≠ 0) (hm : m < 2 ^ 60) (he : -1100 ≤ e ∧ e ≤ 1000) (hkT : -400 ≤ kT ∧ kT < 400) (hT : Ten m e kT) : Meets Tryz.prog 34 [.int .u64 (m : Int), .int .i64 e] (.int .i64 kT) := by
  have hbl := ref01_bitlen m (nmax_of hm (by decide))
  rw [natL_one m ⟨by omega, Nat.lt_trans hm (by decide)⟩] at hbl
  have hb := bitlen_le hm
  obtain ⟨b, hb1, _, _⟩ := bitlen_spec hm0
  obtain ⟨z, hz⟩ : ∃ z, (bitlen m : Int) - 1 + e = z := ⟨_, rfl⟩
  have hq := Int.mul_tdiv_add_tmod (z * 30103) 100000
  have hr : -100000 < (z * 30103).tmod 100000 ∧ (z * 30103).tmod 100000 < 100000 := ⟨Int.lt_tmod_of_pos _ (by decide), Int.tmod_lt_of_pos _ (by decide)⟩
  refine tens_walk m e (bitlen m : Int) z (z * 30103) ((z * 30103).tdiv 100000) kT hbl (wrap_i64 (by omega)) (by rw [hz]; exact wrap_i64 (by omega)) (wrap_i64 (by omega)) (wrap_i64 (by omega)) (by omega) hkT fun i h1 h2 => ?_
  have h := ref12_least m e i hm he (by omega)
  rw [decide_eq_decide.2 (show GeT m e i ↔ i ≤ kT from ⟨fun hg => Int.not_lt.1 fun hlt => hT.hi (ge_le hg (by omega)), fun hle => ge_le hT.lo hle⟩)] at h
  exact h
def signed (neg : Bool) (b : Nat) : Nat := if neg then b + 9223372036854775808 else b
theorem Meets.args {P : Program} {f : FuncId} {args args' : List PV} {res : PV} (hm : Meets P f args res) (hl : args'.length = args.length) (h : ∀ (w : World) (A : Nat → Prop) (i : Nat) (v : Value), RD w A (args'.getD i .undef) v → RD w A (args.getD i .undef) v) : Meets P f args' res :=
  ⟨fun w A vs hA hl' ha => hm.run w A vs hA (hl.symm.trans hl') fun i hi => h w A i _ (ha i (by omega))⟩
def rowP (q : Int) : Nat := if 0 ≤ q then (if bitlen (5 ^ q.toNat) ≤ 128 then 5 ^ q.toNat * 2 ^ (128 - bitlen (5 ^ q.toNat)) else 5 ^ q.toNat / 2 ^ (bitlen (5 ^ q.toNat) - 128)) else 2 ^ (bitlen (5 ^ (-q).toNat) + 127) / 5 ^ (-q).toNat
def rowE (q : Int) : Int := if 0 ≤ q then (bitlen (5 ^ q.toNat) : Int) - 128 else -((bitlen (5 ^ (-q).toNat) : Int) + 127)
def rbin (n : Nat) (e : Int) : Nat := rndU (n * 2 ^ (e + 1074).toNat) (2 ^ (-(e + 1074)).toNat)
def stepLo (w : Nat) (q : Int) : Nat := rbin (w * rowP q) (rowE q + q)
def stepHi (w : Nat) (q : Int) : Nat := rbin (w * (rowP q + 1)) (rowE q + q)
def stepOk (w : Nat) (q : Int) : Prop := w = 0 ∨ ((-342 ≤ q ∧ q ≤ 308) ∧ ((0 ≤ q ∧ q ≤ 55) ∨ stepLo w q = stepHi w q))
instance (w : Nat) (q : Int) : Decidable (stepOk w q) := inferInstanceAs (Decidable (_ ∨ _))
theorem trim_right_zero (s : List Int) (hsl : s.length ≤ 1000000000000000) : Meets Tryz.prog 103 [.str s, .str [48]] (.str (s.take (endN s 48 s.length))) := by
  have h1 := trim_right s 48 hsl
  refine meets_by ttOk Tryz.func103 Tryz.ntmps103 Tryz.results103 (by kernel_rfl) (c := _) rfl rfl rfl fun E => ?_
  simp only [argsFrame]
  by_cases hs : s = []
  · subst hs
    refine walk1 ?_
    all_goals rfl
  · have hd : decide (s = []) = false := decide_eq_false hs
    repeat' first
      | (simp only [hd, reduceCtorEq, decide_false])
      | (with_reducible first | refine PW.seq ?_ | refine PW.block ?_ | refine PW.fork ?_ | refine PW.skip ?_ | refine PW.exit ?_ | refine PW.ret ?_ | refine PW.scope ?_ | refine PW.label ?_ | refine PW.goto ?_)
      | (with_reducible refine PW.region ttOk ?_ ?_
         · rfl)
      | (with_reducible refine PW.regionD ttOk mixed ?_ ?_ ?_
         · rfl
         · rfl)
      | (with_reducible refine ifW_dec (fun g => ?_) (fun g => ?_) <;> first | (exfalso; omega) | (simp -dsimp only [g, wkI]))
      | (with_reducible refine condE_dec (fun g => ?_) (fun g => ?_) <;> try (exfalso; omega))
      | (with_reducible refine condE_not (fun g => ?_) (fun g => ?_) <;> try (exfalso; omega))
      | (simp -dsimp only [↓wkA, ↓wkE, ↓wkJ, wkB, ↓tt, Nat.reduceBEq, Nat.reduceEqDiff, ↓reduceIte, Nat.reduceLT, Array.toList, Nat.reduceAdd, Nat.reduceMul, Int.reduceToNat, Int.reducePow, UInt8.reduceToNat])
      | (refine call_by (h1) (views_data rfl) ⟨trivial, trivial, trivial⟩ rfl ?_)
      | (refine callD_by (h1) (views_data rfl) ⟨trivial, trivial, trivial⟩ rfl ?_)
      | (simp -dsimp (disch := first | assumption | omega) only [dec_t, dec_f])
      | (refine andI ?_)
      | (simp (disch := omega) only [wkW, Int.reduceToNat, Int.reducePow])
      | fail
theorem trim_left_zero (s : List Int) (hsl : s.length ≤ 1000000000000000) : Meets Tryz.prog 102 [.str s, .str [48]] (.str (headL 48 s)) := by
  have h1 := trim_left s 48 hsl
  refine meets_by ttOk Tryz.func102 Tryz.ntmps102 Tryz.results102 (by kernel_rfl) (c := _) rfl rfl rfl fun E => ?_
  simp only [argsFrame]
  by_cases hs : s = []
  · subst hs
    refine walk1 ?_
    all_goals rfl
  · have hd : decide (s = []) = false := decide_eq_false hs
    repeat' first
      | (simp only [hd, reduceCtorEq, decide_false])
      | (with_reducible first | refine PW.seq ?_ | refine PW.block ?_ | refine PW.fork ?_ | refine PW.skip ?_ | refine PW.exit ?_ | refine PW.ret ?_ | refine PW.scope ?_ | refine PW.label ?_ | refine PW.goto ?_)
      | (with_reducible refine PW.region ttOk ?_ ?_
         · rfl)
      | (with_reducible refine PW.regionD ttOk mixed ?_ ?_ ?_
         · rfl
         · rfl)
      | (with_reducible refine ifW_dec (fun g => ?_) (fun g => ?_) <;> first | (exfalso; omega) | (simp -dsimp only [g, wkI]))
      | (with_reducible refine condE_dec (fun g => ?_) (fun g => ?_) <;> try (exfalso; omega))
      | (with_reducible refine condE_not (fun g => ?_) (fun g => ?_) <;> try (exfalso; omega))
      | (simp -dsimp only [↓wkA, ↓wkE, ↓wkJ, wkB, ↓tt, Nat.reduceBEq, Nat.reduceEqDiff, ↓reduceIte, Nat.reduceLT, Array.toList, Nat.reduceAdd, Nat.reduceMul, Int.reduceToNat, Int.reducePow, UInt8.reduceToNat])
      | (refine call_by (h1) (views_data rfl) ⟨trivial, trivial, trivial⟩ rfl ?_)
      | (refine callD_by (h1) (views_data rfl) ⟨trivial, trivial, trivial⟩ rfl ?_)
      | (simp -dsimp (disch := first | assumption | omega) only [dec_t, dec_f])
      | (refine andI ?_)
      | (simp (disch := omega) only [wkW, Int.reduceToNat, Int.reducePow])
      | fail
end Go.Proofs.YtmoilbeomnapfaaGreatDoor
namespace Go.Proofs
open Go.Shelf
def Tryz.lays106_ren : Go.Shelf.Ren := ⟨fun | 106 => 105 | 213 => 143 | 265 => 164 | n => n, fun | 9 => 9 | 3 => 3 | n => n, fun | n => n⟩
theorem Tryz.lays106 : Go.Proofs.Lays.n106 Tryz.prog Tryz.lays106_ren := {
  mixed := by kernel_rfl
  f106 := Tryz.func105.trans (congrArg some (by kernel_rfl))
  f213 := Tryz.func143.trans (congrArg some (by kernel_rfl))
  f265 := Tryz.func164.trans (congrArg some (by kernel_rfl))
  t3 := Tryz.underlying3
  a3 := Tryz.isAgg3
  z3 := Tryz.sizeOf3
  v3 := Tryz.zeroValue3
  t9 := Tryz.underlying9
  a9 := Tryz.isAgg9
  z9 := Tryz.sizeOf9
  v9 := Tryz.zeroValue9 }
open Go.RowKit in
theorem Tryz.strings_Compare (a b : ByteArray) (w : World) :
    Calls Tryz.prog 105 #[.string a, .string b] w fun e w' => e = .returned (.int .i64 (Lib.compareBytes a.data.toList b.data.toList)) ∧ w' = w := Any.strings_Compare Tryz.lays106 a b w
def Tryz.laysM171_ren : Go.Shelf.Ren := ⟨fun | 171 => 23 | 243 => 49 | 246 => 89 | 283 => 121 | 284 => 122 | 285 => 123 | 286 => 124 | 129 => 91 | 317 => 154 | 318 => 155 | 319 => 156 | 320 => 157 | 337 => 167 | 338 => 168 | n => n, fun | 3 => 3 | 9 => 9 | 2 => 2 | 4 => 4 | 171 => 137 | 0 => 0 | 53 => 25 | 37 => 70 | 5 => 5 | 173 => 139 | 212 => 164 | 51 => 109 | 20 => 20 | 213 => 165 | 46 => 65 | 232 => 173 | 233 => 174 | n => n, fun | 17 => 1 | 18 => 4 | 19 => 5 | n => n⟩
theorem Tryz.laysM171 : Go.Proofs.LaysM.n171 Tryz.prog Tryz.laysM171_ren := {
  mixed := by kernel_rfl
  f129 := Tryz.func91.trans (congrArg some (by kernel_rfl))
  f171 := Tryz.func23.trans (congrArg some (by kernel_rfl))
  f243 := Tryz.func49.trans (congrArg some (by kernel_rfl))
  f246 := Tryz.func89.trans (congrArg some (by kernel_rfl))
  f283 := Tryz.func121.trans (congrArg some (by kernel_rfl))
  f284 := Tryz.func122.trans (congrArg some (by kernel_rfl))
  f285 := Tryz.func123.trans (congrArg some (by kernel_rfl))
  f286 := Tryz.func124.trans (congrArg some (by kernel_rfl))
  f317 := Tryz.func154.trans (congrArg some (by kernel_rfl))
  f318 := Tryz.func155.trans (congrArg some (by kernel_rfl))
  f319 := Tryz.func156.trans (congrArg some (by kernel_rfl))
  f320 := Tryz.func157.trans (congrArg some (by kernel_rfl))
  f337 := Tryz.func167.trans (congrArg some (by kernel_rfl))
  f338 := Tryz.func168.trans (congrArg some (by kernel_rfl))
  t0 := Tryz.underlying0
  a0 := Tryz.isAgg0
  z0 := Tryz.sizeOf0
  v0 := Tryz.zeroValue0
  t2 := Tryz.underlying2
  a2 := Tryz.isAgg2
  z2 := Tryz.sizeOf2
  v2 := Tryz.zeroValue2
  t3 := Tryz.underlying3
  a3 := Tryz.isAgg3
  z3 := Tryz.sizeOf3
  v3 := Tryz.zeroValue3
  t4 := Tryz.underlying4
  a4 := Tryz.isAgg4
  z4 := Tryz.sizeOf4
  v4 := Tryz.zeroValue4
  t5 := Tryz.underlying5
  a5 := Tryz.isAgg5
  z5 := Tryz.sizeOf5
  v5 := Tryz.zeroValue5
  t9 := Tryz.underlying9
  a9 := Tryz.isAgg9
  z9 := Tryz.sizeOf9
  v9 := Tryz.zeroValue9
  t20 := Tryz.underlying20
  a20 := Tryz.isAgg20
  z20 := Tryz.sizeOf20
  v20 := Tryz.zeroValue20
  t37 := Tryz.underlying70
  a37 := Tryz.isAgg70
  z37 := Tryz.sizeOf70
  v37 := Tryz.zeroValue70
  t46 := Tryz.underlying65
  a46 := Tryz.isAgg65
  z46 := Tryz.sizeOf65
  v46 := Tryz.zeroValue65
  t51 := Tryz.underlying109
  a51 := Tryz.isAgg109
  z51 := Tryz.sizeOf109
  v51 := Tryz.zeroValue109
  t53 := Tryz.underlying25
  a53 := Tryz.isAgg25
  z53 := Tryz.sizeOf25
  v53 := Tryz.zeroValue25
  t171 := Tryz.underlying137
  a171 := Tryz.isAgg137
  z171 := Tryz.sizeOf137
  v171 := Tryz.zeroValue137
  t173 := Tryz.underlying139
  a173 := Tryz.isAgg139
  z173 := Tryz.sizeOf139
  v173 := Tryz.zeroValue139
  t212 := Tryz.underlying164
  a212 := Tryz.isAgg164
  z212 := Tryz.sizeOf164
  v212 := Tryz.zeroValue164
  t213 := Tryz.underlying165
  a213 := Tryz.isAgg165
  z213 := Tryz.sizeOf165
  t232 := Tryz.underlying173
  a232 := Tryz.isAgg173
  z232 := Tryz.sizeOf173
  v232 := Tryz.zeroValue173
  t233 := Tryz.underlying174
  a233 := Tryz.isAgg174
  z233 := Tryz.sizeOf174
  v233 := Tryz.zeroValue174
  g17 := by kernel_rfl
  g18 := by kernel_rfl
  g19 := by kernel_rfl
  i0 := by kernel_rfl
  i2 := by kernel_rfl
  i3 := by kernel_rfl
  i4 := by kernel_rfl
  i5 := by kernel_rfl
  i9 := by kernel_rfl
  i20 := by kernel_rfl
  i37 := by kernel_rfl
  i46 := by kernel_rfl
  i51 := by kernel_rfl
  i53 := by kernel_rfl
  i171 := by kernel_rfl
  i173 := by kernel_rfl
  i212 := by kernel_rfl
  i232 := by kernel_rfl
  i233 := by kernel_rfl
  m17 := by kernel_rfl
  m18 := by kernel_rfl
  m19 := by kernel_rfl }
open Go.RowKit Go.Sort Go.Lib in
theorem Tryz.strconv_Itoa (n : Int) (h0 : -9223372036854775808 ≤ n) (h1 : n ≤ 9223372036854775807) (w : World) (htab : Lib.TabIs Tryz.prog w "internal/strconv.uint64pow10" .u64 Lib.pow10Tab) :
    Calls Tryz.prog 23 #[.int .i64 n] w fun e w' => e = .returned (.string ⟨(Lib.itoa n).toArray⟩) ∧ ∃ k os, w' = grow (w.drewN k) os := Any.strconv_Itoa Tryz.laysM171 n h0 h1 w htab
def Tryz.laysM316_ren : Go.Shelf.Ren := ⟨fun | 316 => 142 | n => n, fun | 9 => 9 | 3 => 3 | 4 => 4 | 37 => 70 | 0 => 0 | 127 => 114 | 5 => 5 | n => n, fun | n => n⟩
theorem Tryz.laysM316 : Go.Proofs.LaysM.n316 Tryz.prog Tryz.laysM316_ren := {
  mixed := by kernel_rfl
  f316 := Tryz.func142.trans (congrArg some (by kernel_rfl))
  t0 := Tryz.underlying0
  a0 := Tryz.isAgg0
  z0 := Tryz.sizeOf0
  v0 := Tryz.zeroValue0
  t3 := Tryz.underlying3
  a3 := Tryz.isAgg3
  z3 := Tryz.sizeOf3
  v3 := Tryz.zeroValue3
  t4 := Tryz.underlying4
  a4 := Tryz.isAgg4
  z4 := Tryz.sizeOf4
  v4 := Tryz.zeroValue4
  t9 := Tryz.underlying9
  a9 := Tryz.isAgg9
  z9 := Tryz.sizeOf9
  v9 := Tryz.zeroValue9
  t37 := Tryz.underlying70
  a37 := Tryz.isAgg70
  z37 := Tryz.sizeOf70
  v37 := Tryz.zeroValue70
  t127 := Tryz.underlying114
  a127 := Tryz.isAgg114
  z127 := Tryz.sizeOf114
  v127 := Tryz.zeroValue114
  t5 := Tryz.underlying5
  a5 := Tryz.isAgg5
  z5 := Tryz.sizeOf5
  v5 := Tryz.zeroValue5
  i0 := by kernel_rfl
  i3 := by kernel_rfl
  i4 := by kernel_rfl
  i5 := by kernel_rfl
  i9 := by kernel_rfl
  i37 := by kernel_rfl
  i127 := by kernel_rfl }
open Go.RowKit in
theorem Tryz.stringslite_Clone (s : ByteArray) (w : World) (hlim : s.size ≤ 281474976710656) :
    Calls Tryz.prog 142 #[.string s] w fun e w' => e = .returned (.string s) ∧ Below w.heap.size w w' := Any.stringslite_Clone Tryz.laysM316 s w hlim
def Tryz.lays105_ren : Go.Shelf.Ren := ⟨fun | 105 => 22 | 212 => 43 | 99 => 44 | 165 => 45 | 166 => 46 | 170 => 47 | 169 => 48 | 263 => 84 | 264 => 85 | 206 => 86 | 240 => 87 | 241 => 88 | 276 => 119 | 277 => 120 | n => n, fun | 9 => 9 | 3 => 3 | 4 => 4 | 20 => 20 | 0 => 0 | 46 => 65 | 109 => 66 | 5 => 5 | 72 => 72 | 76 => 76 | 51 => 109 | 146 => 110 | 53 => 25 | 148 => 112 | 70 => 69 | 37 => 70 | 75 => 75 | 127 => 114 | 164 => 134 | 80 => 79 | n => n, fun | n => n⟩
theorem Tryz.lays105 : Go.Proofs.Lays.n105 Tryz.prog Tryz.lays105_ren := {
  mixed := by kernel_rfl
  f99 := Tryz.func44.trans (congrArg some (by kernel_rfl))
  f105 := Tryz.func22.trans (congrArg some (by kernel_rfl))
  f165 := Tryz.func45.trans (congrArg some (by kernel_rfl))
  f166 := Tryz.func46.trans (congrArg some (by kernel_rfl))
  f169 := Tryz.func48.trans (congrArg some (by kernel_rfl))
  f170 := Tryz.func47.trans (congrArg some (by kernel_rfl))
  f206 := Tryz.func86.trans (congrArg some (by kernel_rfl))
  f212 := Tryz.func43.trans (congrArg some (by kernel_rfl))
  f240 := Tryz.func87.trans (congrArg some (by kernel_rfl))
  f241 := Tryz.func88.trans (congrArg some (by kernel_rfl))
  f263 := Tryz.func84.trans (congrArg some (by kernel_rfl))
  f264 := Tryz.func85.trans (congrArg some (by kernel_rfl))
  f276 := Tryz.func119.trans (congrArg some (by kernel_rfl))
  f277 := Tryz.func120.trans (congrArg some (by kernel_rfl))
  t0 := Tryz.underlying0
  a0 := Tryz.isAgg0
  z0 := Tryz.sizeOf0
  v0 := Tryz.zeroValue0
  t3 := Tryz.underlying3
  a3 := Tryz.isAgg3
  z3 := Tryz.sizeOf3
  v3 := Tryz.zeroValue3
  t4 := Tryz.underlying4
  a4 := Tryz.isAgg4
  z4 := Tryz.sizeOf4
  v4 := Tryz.zeroValue4
  t5 := Tryz.underlying5
  a5 := Tryz.isAgg5
  z5 := Tryz.sizeOf5
  v5 := Tryz.zeroValue5
  t9 := Tryz.underlying9
  a9 := Tryz.isAgg9
  z9 := Tryz.sizeOf9
  v9 := Tryz.zeroValue9
  t20 := Tryz.underlying20
  a20 := Tryz.isAgg20
  z20 := Tryz.sizeOf20
  v20 := Tryz.zeroValue20
  t37 := Tryz.underlying70
  a37 := Tryz.isAgg70
  z37 := Tryz.sizeOf70
  v37 := Tryz.zeroValue70
  t46 := Tryz.underlying65
  a46 := Tryz.isAgg65
  z46 := Tryz.sizeOf65
  v46 := Tryz.zeroValue65
  t51 := Tryz.underlying109
  a51 := Tryz.isAgg109
  z51 := Tryz.sizeOf109
  v51 := Tryz.zeroValue109
  t53 := Tryz.underlying25
  a53 := Tryz.isAgg25
  z53 := Tryz.sizeOf25
  v53 := Tryz.zeroValue25
  t70 := Tryz.underlying69
  a70 := Tryz.isAgg69
  z70 := Tryz.sizeOf69
  v70 := Tryz.zeroValue69
  t72 := Tryz.underlying72
  a72 := Tryz.isAgg72
  z72 := Tryz.sizeOf72
  v72 := Tryz.zeroValue72
  t75 := Tryz.underlying75
  a75 := Tryz.isAgg75
  z75 := Tryz.sizeOf75
  v75 := Tryz.zeroValue75
  t76 := Tryz.underlying76
  a76 := Tryz.isAgg76
  z76 := Tryz.sizeOf76
  v76 := Tryz.zeroValue76
  t109 := Tryz.underlying66
  a109 := Tryz.isAgg66
  z109 := Tryz.sizeOf66
  v109 := Tryz.zeroValue66
  t127 := Tryz.underlying114
  a127 := Tryz.isAgg114
  z127 := Tryz.sizeOf114
  v127 := Tryz.zeroValue114
  t146 := Tryz.underlying110
  a146 := Tryz.isAgg110
  z146 := Tryz.sizeOf110
  v146 := Tryz.zeroValue110
  t148 := Tryz.underlying112
  a148 := Tryz.isAgg112
  z148 := Tryz.sizeOf112
  v148 := Tryz.zeroValue112
  t164 := Tryz.underlying134
  a164 := Tryz.isAgg134
  z164 := Tryz.sizeOf134
  v164 := Tryz.zeroValue134 }
theorem Tryz.Builder_Extra_105 : Builder.Extra Tryz.prog Tryz.lays105_ren := {
  sizeBuilder := by kernel_rfl
  liesBuilder := by kernel_rfl
  t5 := Tryz.underlying5
  a5 := Tryz.isAgg5
  z5 := Tryz.sizeOf5
  v5 := Tryz.zeroValue5
  infoByte := by kernel_rfl
  cellsByte := by kernel_rfl
  sizeByte := by kernel_rfl
  neB5 := by decide }
open Go.RowKit Go.Lib in
theorem Tryz.strings_Repeat (s : ByteArray) (c : Nat) (w : World) (hc : c ≤ 9223372036854775807) (hlen : s.size * c ≤ 140737488355328) :
    Calls Tryz.prog 22 #[.string s, .int .i64 c] w fun e w' => e = .returned (.string ⟨(Lib.repeatL s.data.toList c).toArray⟩) ∧ Below w.heap.size w w' := Any.strings_Repeat Tryz.lays105 Tryz.Builder_Extra_105 s c w hc hlen
end Go.Proofs
namespace Go.Proofs.YtmoilbeomnapfaaGreatDoor
open Go Go.PV
theorem meets_lib1 {f : FuncId} {fn : Func} {c : Code} {args : List PV} {res : PV} (hf : Tryz.prog.funcs[f]? = some fn) (hname : (fn.name == "runtime.NumGoroutine") = false) (hb : fn.body = some c)
    (h : ∀ (w : World) (A : Nat → Prop) (vs : Array Value), args.length = vs.size → (∀ i, i < args.length → RD w A (args.getD i .undef) (vs.getD i undef)) →
      ∃ v, (∀ w' A, RD w' A res v) ∧ Calls Tryz.prog f vs w fun e w' => e = .returned v ∧ Go.RowKit.Below w.heap.size w w') : Meets Tryz.prog f args res := by
  refine ⟨fun w A vs hA hl ha => ?_⟩
  obtain ⟨v, hv, hc⟩ := h w A vs hl ha
  exact .inl ⟨call_enters hf hname hb vs w, hc.mono fun e w' ⟨he, hbel⟩ => ⟨v, he, hbel, hv _ _⟩⟩
theorem lite_clone (s : List Int) (hsl : s.length ≤ 281474976710656) : Meets Tryz.prog 142 [.str s] (.str s) := by
  refine meets_lib1 Tryz.func142 (by kernel_rfl) (c := _) rfl fun w A vs hl ha => ?_
  have hs : vs.size = 1 := by simpa using hl.symm
  obtain ⟨u, rfl⟩ : ∃ u, vs = #[u] := ⟨vs[0], Array.ext (by simp [hs]) fun i h1 h2 => by
    match i, h1 with
    | 0, _ => rfl
    | i + 1, h1 => omega⟩
  have h1 := ha 0 (by simp)
  have h1 : RD w A (.str s) u := by simpa using h1
  cases h1 with
  | str b _ h =>
    refine ⟨.string b, fun w' A => .str _ _ h, Tryz.stringslite_Clone b w ?_⟩
    have := bytesI_length b
    rw [h] at this
    omega
theorem str_clone (s : List Int) (hsl : s.length ≤ 281474976710656) : Meets Tryz.prog 104 [.str s] (.str s) := by
  have h1 := lite_clone s hsl
  refine meets_by ttOk Tryz.func104 Tryz.ntmps104 Tryz.results104 (by kernel_rfl) (c := _) rfl rfl rfl fun E => ?_
  simp only [argsFrame]
  exact walk
def isDig (x : Int) : Prop := 48 ≤ x ∧ x ≤ 57
instance (x : Int) : Decidable (isDig x) := inferInstanceAs (Decidable (_ ∧ _))
theorem digit_at (s : List Int) (i : Nat) (hi : i < s.length) (hsl : s.length ≤ 281474976710656) : Meets Tryz.prog 62 [.str s, .int .i64 (i : Int)] (.bool (decide (isDig (s.getD i 0)))) := by
  have d1 : decide ((i : Int) < (s.length : Int)) = true := decide_eq_true (by omega)
  rw [show decide (isDig (s.getD i 0)) = (decide (48 ≤ s.getD i 0) && decide (s.getD i 0 ≤ 57)) from Bool.decide_and ..]
  by_cases h1 : 48 ≤ s.getD i 0
  case' pos => have d2 : decide (48 ≤ s.getD i 0) = true := decide_eq_true h1
  case' neg => have d2 : decide (48 ≤ s.getD i 0) = false := decide_eq_false h1
  all_goals rw [d2]
  all_goals (refine meets_by ttOk Tryz.func62 Tryz.ntmps62 Tryz.results62 (by kernel_rfl) (c := _) rfl rfl rfl fun E => ?_; simp only [argsFrame])
  all_goals
    have W := cj d1 (cj d2 (cj Int.toNat_natCast (cj Bool.true_and Bool.false_and)))
    exact walk
theorem headL_le (c : Int) : ∀ l : List Int, (headL c l).length ≤ l.length
  | [] => Nat.le_refl _
  | x :: r => by
    rw [headL]
    split
    · have := headL_le c r; simp; omega
    · exact Nat.le_refl _
def normS (s : List Int) : List Int := if headL 48 s = [] then [48] else (headL 48 s).take (endN (headL 48 s) 48 (headL 48 s).length)
def normX (s : List Int) (x : Int) : Int := if headL 48 s = [] then 0 else x + (headL 48 s).length - endN (headL 48 s) 48 (headL 48 s).length
theorem scan_normal (neg : Bool) (s : List Int) (x : Int) (hx : -1152921504606846976 ≤ x ∧ x ≤ 1152921504606846976) (hsl : s.length ≤ 281474976710656) :
    Meets Tryz.prog 63 [.agg [.bool neg, .str s, .int .i64 x]] (.agg [.bool neg, .str (normS s), .int .i64 (normX s x)]) := by
  have h1 := trim_left_zero s (by omega)
  have hl1 := headL_le 48 s
  have h2 := trim_right_zero (headL 48 s) (by omega)
  have hl2 := endN_le (headL 48 s) 48 (headL 48 s).length
  have h3 := str_clone ((headL 48 s).take (endN (headL 48 s) 48 (headL 48 s).length)) (by rw [List.length_take]; omega)
  have hl3 : ((headL 48 s).take (endN (headL 48 s) 48 (headL 48 s).length)).length = endN (headL 48 s) 48 (headL 48 s).length := by rw [List.length_take]; omega
  unfold normS normX
  generalize (headL 48 s).take (endN (headL 48 s) 48 (headL 48 s).length) = u at *
  generalize endN (headL 48 s) 48 (headL 48 s).length = k at *
  generalize headL 48 s = t at *
  have w1 : IntKind.wrap .i64 (x + (t.length : Int)) = x + t.length := wrap_i64 (by omega)
  have w2 : IntKind.wrap .i64 (x + (t.length : Int) - (k : Int)) = x + t.length - k := wrap_i64 (by omega)
  by_cases ht : t = []
  case' pos => rw [if_pos ht, if_pos ht]; have d1 : decide (t = []) = true := decide_eq_true ht
  case' neg => rw [if_neg ht, if_neg ht]; have d1 : decide (t = []) = false := decide_eq_false ht
  all_goals (refine meets_by ttOk Tryz.func63 Tryz.ntmps63 Tryz.results63 (by kernel_rfl) (c := _) rfl rfl rfl fun E => ?_; simp only [argsFrame])
  all_goals
    repeat' first
      | (with_reducible first | refine PW.seq ?_ | refine PW.block ?_ | refine PW.fork ?_ | refine PW.skip ?_ | refine PW.exit ?_ | refine PW.ret ?_ | refine PW.scope ?_ | refine PW.label ?_ | refine PW.goto ?_)
      | (simp only [d1, w1, w2, hl3])
      | (with_reducible refine PW.region ttOk ?_ ?_
         · rfl)
      | (with_reducible refine PW.regionS ttOk mixed ?_ ?_ ?_ ?_
         · rfl
         · rfl
         · rfl)
      | (with_reducible refine PW.regionD ttOk mixed ?_ ?_ ?_
         · rfl
         · rfl)
      | (with_reducible refine ifW_dec (fun g => ?_) (fun g => ?_) <;> first | (exfalso; omega) | (simp -dsimp only [g, wkI]))
      | (with_reducible refine condE_dec (fun g => ?_) (fun g => ?_) <;> try (exfalso; omega))
      | (with_reducible refine condE_not (fun g => ?_) (fun g => ?_) <;> try (exfalso; omega))
      | (simp -dsimp only [↓opsE_nil, ↓opsE_cons, ↓opsX_nil, ↓opsX_cons, same_self, and_true, true_and, ↓wkA, ↓wkE, ↓wkJ, wkB, ↓tt, Nat.reduceBEq, Nat.reduceEqDiff, ↓reduceIte, Nat.reduceLT, Array.toList, Nat.reduceAdd, Nat.reduceMul, Int.reduceToNat, Int.reducePow, UInt8.reduceToNat])
      | (refine call_by (h1) (views_data rfl) ⟨trivial, trivial, trivial⟩ rfl ?_)
      | (refine call_by (h2) (views_data rfl) ⟨trivial, trivial, trivial⟩ rfl ?_)
      | (refine callD_by (h3) (views_data rfl) ⟨trivial, trivial⟩ rfl ?_)
      | (simp only [ne_eq, Nat.one_ne_zero, not_false_eq_true, true_and])
      | (refine And.intro (callD_by h3 (views_data rfl) ⟨trivial, trivial⟩ rfl ?_) ?_)
      | (simp -dsimp (disch := first | assumption | omega) only [dec_t, dec_f])
      | (refine andI ?_)
      | (simp (disch := omega) only [wkW, Int.reduceToNat, Int.reducePow])
      | fail
  all_goals exact Nat.le_refl _
def AllD (s : List Int) : Prop := ∀ j, j < s.length → isDig (s.getD j 0)
def InR (x : Int) : Prop := -1152921504606846976 ≤ x ∧ x ≤ 1152921504606846976
theorem scan_norm_loop (neg : Bool) (s : List Int) (x : Int) (hs : s ≠ []) (hx : InR x) (hsl : s.length ≤ 281474976710656) (u : List Int) (e : Int) (hn : AllD s → Meets Tryz.prog 63 [.agg [.bool neg, .str s, .int .i64 x]] (.agg [.bool neg, .str u, .int .i64 e])) (res : PV)
    (hr1 : ¬ AllD s → res = .tup [.agg [.bool false, .str [], .int .i64 0], .int .i64 80]) (hr2 : AllD s → 1152921504606846976 < e → res = .tup [.agg [.bool false, .str [], .int .i64 0], .int .i64 80]) (hr3 : AllD s → ¬ 1152921504606846976 < e → res = .tup [.agg [.bool neg, .str u, .int .i64 e], .int .i64 0]) :
    Meets Tryz.prog 29 [.agg [.bool neg, .str s, .int .i64 x]] res := by
  have d1 : decide (s = []) = false := decide_eq_false hs
  have d2 : decide (x < -1152921504606846976) = false := decide_eq_false (by have := hx.1; omega)
  have d3 : decide (1152921504606846976 < x) = false := decide_eq_false (by have := hx.2; omega)
  refine meets_by ttOk Tryz.func29 Tryz.ntmps29 Tryz.results29 (by kernel_rfl) (c := _) rfl rfl rfl fun E => ?_
  simp only [argsFrame]
  have W := cj d1 (cj d2 (cj d3 (cj Bool.or_false Bool.or_self)))
  refine walk1 ?_
  refine PW.loopA (fun m F H => ∃ i : Nat, i + m = s.length ∧ (∀ j, j < i → isDig (s.getD j 0)) ∧ F = [(23, .int .i64 (i : Int)), (22, .int .i64 (s.length : Int)), (3, .int .i64 0), (2, .ptr 1 0 0), (1, .ptr 0 0 0)] ∧ H = ⟨2, [(0, .var [.bool neg, .str s, .int .i64 x]), (1, .var [.bool false, .str [], .int .i64 0])], [], [(1, 31), (0, 31)]⟩) s.length [(23, .int .i64 ((0 : Nat) : Int)), (22, .int .i64 (s.length : Int)), (3, .int .i64 0), (2, .ptr 1 0 0), (1, .ptr 0 0 0)] ⟨2, [(0, .var [.bool neg, .str s, .int .i64 x]), (1, .var [.bool false, .str [], .int .i64 0])], [], [(1, 31), (0, 31)]⟩ (Sub.norm ⟨rfl, rfl, rfl, rfl, rfl, trivial⟩ ⟨rfl, rfl, trivial⟩ (Nat.le_refl _) rfl rfl rfl rfl (tyOk_spec rfl)) ⟨0, by omega, fun j hj => by omega, rfl, rfl⟩ ?_
  rintro m F H ⟨i, hi, hd, rfl, rfl⟩
  cases m with
  | zero =>
    have e0 : i = s.length := by omega
    have hA : AllD s := fun j hj => hd j (by omega)
    have d4 : decide ((i : Int) < (s.length : Int)) = false := decide_eq_false (by omega)
    replace hn := hn hA
    replace hr2 := hr2 hA
    replace hr3 := hr3 hA
    by_cases h5 : 1152921504606846976 < e
    case' pos => replace hr2 := hr2 h5; subst hr2; have d5 : decide (1152921504606846976 < e) = true := decide_eq_true h5
    case' neg => replace hr3 := hr3 h5; subst hr3; have d5 : decide (1152921504606846976 < e) = false := decide_eq_false h5
    all_goals clear hd hi h5
    all_goals
      repeat' first
        | (with_reducible first | refine PW.seq ?_ | refine PW.block ?_ | refine PW.fork ?_ | refine PW.skip ?_ | refine PW.exit ?_ | refine PW.ret ?_ | refine PW.scope ?_ | refine PW.label ?_ | refine PW.goto ?_)
        | (simp only [d4, d5])
        | (with_reducible refine PW.region ttOk ?_ ?_
           · rfl)
        | (refine PW.regionA ttOk mixed rfl rfl rfl rfl rfl rfl rfl ?_)
        | (with_reducible refine PW.regionD ttOk mixed ?_ ?_ ?_
           · rfl
           · rfl)
        | (with_reducible refine ifW_dec (fun g => ?_) (fun g => ?_) <;> first | (exfalso; omega) | (simp -dsimp only [g, wkI]))
        | (with_reducible refine condE_dec (fun g => ?_) (fun g => ?_) <;> try (exfalso; omega))
        | (with_reducible refine condE_not (fun g => ?_) (fun g => ?_) <;> try (exfalso; omega))
        | (simp -dsimp only [↓opsA_nil, ↓opsA_cons, same_self, and_true, true_and, ↓wkA, ↓wkE, ↓wkJ, wkB, ↓tt, Nat.reduceBEq, Nat.reduceEqDiff, ↓reduceIte, Nat.reduceLT, Array.toList, Nat.reduceAdd, Nat.reduceMul, Int.reduceToNat, Int.reducePow, UInt8.reduceToNat])
        | (refine call_by (hn) (views_data rfl) (by simp only [okViews, okView, okViews0, okView0, and_self]) rfl ?_)
        | (simp -dsimp (disch := first | assumption | omega) only [dec_t, dec_f])
        | (refine andI ?_)
        | (simp (disch := omega) only [wkW, Int.reduceToNat, Int.reducePow])
        | fail
  | succ m =>
    have d4 : decide ((i : Int) < (s.length : Int)) = true := decide_eq_true (by omega)
    have hg := digit_at s i (by omega) hsl
    have w1 : IntKind.wrap .i64 ((i : Int) + 1) = ((i + 1 : Nat) : Int) := wrap_i64 (by omega)
    by_cases h5 : isDig (s.getD i 0)
    case' pos => rw [decide_eq_true h5] at hg
    case' neg => rw [decide_eq_false h5] at hg; have h6 := hr1 fun h => h5 (h i (by omega)); subst h6
    all_goals
      repeat' first
        | (with_reducible first | refine PW.seq ?_ | refine PW.block ?_ | refine PW.fork ?_ | refine PW.skip ?_ | refine PW.exit ?_ | refine PW.ret ?_ | refine PW.scope ?_ | refine PW.label ?_ | refine PW.goto ?_)
        | (simp only [d4, w1, Bool.not_true, Bool.not_false])
        | (with_reducible refine PW.region ttOk ?_ ?_
           · rfl)
        | (with_reducible refine PW.regionD ttOk mixed ?_ ?_ ?_
           · rfl
           · rfl)
        | (with_reducible refine ifW_dec (fun g => ?_) (fun g => ?_) <;> first | (exfalso; omega) | (simp -dsimp only [g, wkI]))
        | (with_reducible refine condE_dec (fun g => ?_) (fun g => ?_) <;> try (exfalso; omega))
        | (with_reducible refine condE_not (fun g => ?_) (fun g => ?_) <;> try (exfalso; omega))
        | (simp -dsimp only [↓wkA, ↓wkE, ↓wkJ, wkB, ↓tt, Nat.reduceBEq, Nat.reduceEqDiff, ↓reduceIte, Nat.reduceLT, Array.toList, Nat.reduceAdd, Nat.reduceMul, Int.reduceToNat, Int.reducePow, UInt8.reduceToNat])
        | (refine call_by (hg) (views_data rfl) ⟨trivial, trivial, trivial⟩ rfl ?_)
        | (simp -dsimp (disch := first | assumption | omega) only [dec_t, dec_f])
        | (refine andI ?_)
        | (simp (disch := omega) only [wkW, Int.reduceToNat, Int.reducePow])
        | fail
    exact Again.mk m [(23, .int .i64 ((i + 1 : Nat) : Int)), (22, .int .i64 (s.length : Int)), (3, .int .i64 0), (2, .ptr 1 0 0), (1, .ptr 0 0 0)] ⟨2, [(0, .var [.bool neg, .str s, .int .i64 x]), (1, .var [.bool false, .str [], .int .i64 0])], [], [(1, 31), (0, 31)]⟩ (by omega) (Sub.norm ⟨rfl, rfl, rfl, rfl, rfl, trivial⟩ ⟨rfl, rfl, trivial⟩ (Nat.le_refl _) rfl rfl rfl rfl (tyOk_spec rfl)) ⟨i + 1, by omega, fun j hj => by
      rcases Nat.lt_succ_iff_lt_or_eq.1 hj with h | rfl
      · exact hd j h
      · exact h5, rfl, rfl⟩
theorem scan_norm_none (neg : Bool) (s : List Int) (x : Int) (h : s = [] ∨ x < -1152921504606846976 ∨ 1152921504606846976 < x) (hsl : s.length ≤ 281474976710656) : Meets Tryz.prog 29 [.agg [.bool neg, .str s, .int .i64 x]] (.tup [.agg [.bool false, .str [], .int .i64 0], .int .i64 80]) := by
  have hh : (decide (s = []) = true ∧ decide (s = []) = true ∧ decide (s = []) = true) ∨ (decide (s = []) = false ∧ decide (x < -1152921504606846976) = true ∧ decide (x < -1152921504606846976) = true) ∨ (decide (s = []) = false ∧ decide (x < -1152921504606846976) = false ∧ decide (1152921504606846976 < x) = true) := by
    by_cases h1 : s = []
    · have := decide_eq_true h1; exact .inl ⟨this, this, this⟩
    · by_cases h2 : x < -1152921504606846976
      · have := decide_eq_true h2; exact .inr (.inl ⟨decide_eq_false h1, this, this⟩)
      · refine .inr (.inr ⟨decide_eq_false h1, decide_eq_false h2, decide_eq_true ?_⟩)
        rcases h with h | h | h
        · exact absurd h h1
        · exact absurd h h2
        · exact h
  clear h
  rcases hh with ⟨d1, d2, d3⟩ | ⟨d1, d2, d3⟩ | ⟨d1, d2, d3⟩
  all_goals (refine meets_by ttOk Tryz.func29 Tryz.ntmps29 Tryz.results29 (by kernel_rfl) (c := _) rfl rfl rfl fun E => ?_; simp only [argsFrame])
  all_goals
    have W := cj d1 (cj d2 (cj d3 (cj Bool.or_false (cj Bool.or_self (cj Bool.true_or Bool.or_true)))))
    exact walk
def NormOk (s : List Int) (x : Int) : Prop := s ≠ [] ∧ InR x ∧ AllD s ∧ normX s x ≤ 1152921504606846976
theorem scan_norm_ok (neg : Bool) {s : List Int} {x : Int} (h : NormOk s x) (hsl : s.length ≤ 281474976710656) : Meets Tryz.prog 29 [.agg [.bool neg, .str s, .int .i64 x]] (.tup [.agg [.bool neg, .str (normS s), .int .i64 (normX s x)], .int .i64 0]) :=
  scan_norm_loop neg s x h.1 h.2.1 hsl (normS s) (normX s x) (fun _ => scan_normal neg s x h.2.1 hsl) _ (fun hn => absurd h.2.2.1 hn) (fun _ hn => by have := h.2.2.2; omega) (fun _ _ => rfl)
theorem scan_norm_bad (neg : Bool) {s : List Int} {x : Int} (h : ¬ NormOk s x) (hsl : s.length ≤ 281474976710656) : Meets Tryz.prog 29 [.agg [.bool neg, .str s, .int .i64 x]] (.tup [.agg [.bool false, .str [], .int .i64 0], .int .i64 80]) := by
  by_cases h1 : s ≠ [] ∧ InR x
  · exact scan_norm_loop neg s x h1.1 h1.2 hsl (normS s) (normX s x) (fun _ => scan_normal neg s x h1.2 hsl) _ (fun _ => rfl) (fun _ _ => rfl) (fun hA hn => absurd ⟨h1.1, h1.2, hA, by omega⟩ h)
  · refine scan_norm_none neg s x ?_ hsl
    by_cases h2 : s = []
    · exact .inl h2
    · refine .inr ?_
      by_cases h3 : x < -1152921504606846976
      · exact .inl h3
      · refine .inr ?_
        by_cases h4 : 1152921504606846976 < x
        · exact h4
        · exact absurd ⟨h2, by omega, by omega⟩ h1
theorem short_leading (d : Nat) (hd : d < 18446744073709551616) (hf : finD d) (h0 : absD d ≠ 0) (k : Int) (hk : -400 ≤ k ∧ k < 400) (hT : Ten (4 * mantD d) (spE d) k) : Meets Tryz.prog 27 [.int .u64 (d : Int)] (.int .i64 k) := by
  have hdc := ieee_decode d hd
  obtain ⟨p1, p2⟩ := parts_fin hf h0
  unfold partsP at hdc
  rw [p1, p2] at hdc
  have hm0 : mantD d ≠ 0 := fun e => h0 (mantD_zero.1 e)
  have hml := mantD_lt d
  have he1 := expD_ge d
  have he2 := expD_le hf
  have hbl := nat_bitlen (mantD d) (nmax_of (k := 53) (by simpa using hml) (by decide))
  rw [natL_one (mantD d) ⟨by omega, by omega⟩] at hbl
  have hb53 : bitlen (mantD d) ≤ 53 := bitlen_le (by simpa using hml)
  obtain ⟨b, hb1, _, _⟩ := bitlen_spec hm0
  obtain ⟨z, hz⟩ : ∃ z, (bitlen (mantD d) : Int) + expD d - 1 = z := ⟨_, rfl⟩
  have hz2 : -1074 ≤ z ∧ z < 1026 := by omega
  have hge : GeT (4 * mantD d) (spE d) (startS z) := start_ge hm0 hz hz2
  have hs340 := (start_at hz2).2
  have hsk : startS z ≤ k := by
    refine Int.not_lt.1 fun h => ?_
    exact hT.hi (ge_le hge (by omega))
  have hsc := fun i (hi : -420 ≤ i ∧ i ≤ 420) => short_scaled d hd hf h0 i hi
  have he : -1100 ≤ spE d ∧ spE d ≤ 1000 := by unfold spE; omega
  have hm100 : 4 * mantD d < 2 ^ 100 := Nat.lt_of_lt_of_le (show 4 * mantD d < 1152921504606846976 by omega) (by decide)
  have hcmp := fun i (hi : -420 ≤ i ∧ i ≤ 420) => cmp_natU (u := 4 * mantD d * upS (spE d) i) (v := beS (spE d) i) (nmax_mul hm100 (upS_lt he.2 hi.1)) (nmax_of (beS_lt he.1 hi.2) (by decide))
  have hlow : ∀ i, i < k → ¬ cmpU (4 * mantD d * upS (spE d) (i + 1)) (beS (spE d) (i + 1)) < 0 := fun i hi => by
    have h := ge_le hT.lo (show i + 1 ≤ k by omega)
    unfold GeT at h
    rcases cmpU_cases (4 * mantD d * upS (spE d) (i + 1)) (beS (spE d) (i + 1)) with ⟨_, h2⟩ | ⟨h1, _⟩ | ⟨h1, _⟩
    · omega
    · rw [h1]; decide
    · rw [h1]; decide
  have hhigh : cmpU (4 * mantD d * upS (spE d) (k + 1)) (beS (spE d) (k + 1)) < 0 := by
    have h := hT.hi
    unfold GeT at h
    rcases cmpU_cases (4 * mantD d * upS (spE d) (k + 1)) (beS (spE d) (k + 1)) with ⟨h1, _⟩ | ⟨_, h2⟩ | ⟨_, h2⟩
    · rw [h1]; decide
    · omega
    · omega
  have w1 : IntKind.wrap .i64 ((bitlen (mantD d) : Int) + expD d) = z + 1 := by rw [wrap_i64 (by omega)]; omega
  have w2 : IntKind.wrap .i64 (z + 1 - 1) = z := by rw [wrap_i64 (by omega)]; omega
  have w3 : IntKind.wrap .i64 (z * 30103) = z * 30103 := wrap_i64 (by omega)
  have hss : startS z = (z * 30103).tdiv 100000 - 2 := rfl
  have w4 : IntKind.wrap .i64 ((z * 30103).tdiv 100000) = (z * 30103).tdiv 100000 := wrap_i64 (by omega)
  have w5 : IntKind.wrap .i64 ((z * 30103).tdiv 100000 - 2) = startS z := by rw [hss]; exact wrap_i64 (by omega)
  generalize startS z = s0 at *
  obtain ⟨q0, hq0⟩ : ∃ q0, (z * 30103).tdiv 100000 = q0 := ⟨_, rfl⟩
  rw [hq0] at w4 w5
  clear hT hge hss hz
  generalize spE d = sp at *
  generalize lowM d = lw at *
  generalize mantD d = M at *
  generalize expD d = E at *
  generalize classD d = cl at *
  refine meets_by ttOk Tryz.func27 Tryz.ntmps27 Tryz.results27 (by kernel_rfl) (c := _) rfl rfl rfl fun E => ?_
  simp only [argsFrame]
  have W := cj w1 (cj w2 (cj w3 (cj w4 (cj w5 hq0))))
  refine walk1 ?_
  refine PW.loopA (fun m F H => ∃ i : Int, i + (m : Int) = k ∧ s0 ≤ i ∧ F = [(5, .int .i64 i), (0, .int .u64 (d : Int))] ∧ H = ⟨0, [], [], []⟩) (k - s0).toNat [(5, .int .i64 s0), (0, .int .u64 (d : Int))] ⟨0, [], [], []⟩ (Sub.norm ⟨rfl, rfl, trivial⟩ trivial (by simp) rfl rfl rfl rfl) ⟨s0, by omega, by omega, rfl, rfl⟩ ?_
  rintro m F H ⟨i, hi, hi2, rfl, rfl⟩
  have w6 : IntKind.wrap .i64 (i + 1) = i + 1 := wrap_i64 (by omega)
  have h1 := hsc (i + 1) (by omega)
  have h2 := hcmp (i + 1) (by omega)
  cases m with
  | zero =>
    obtain rfl : i = k := by omega
    have d1 : decide (cmpU (4 * M * upS sp (i + 1)) (beS sp (i + 1)) < 0) = true := decide_eq_true hhigh
    clear hsc hcmp hlow hhigh
    generalize cmpU (4 * M * upS sp (i + 1)) (beS sp (i + 1)) = c at *
    generalize natL (lw * upS sp (i + 1)) = L1 at *
    generalize natL (4 * M * upS sp (i + 1)) = L2 at *
    generalize natL ((4 * M + 2) * upS sp (i + 1)) = L3 at *
    generalize natL (beS sp (i + 1)) = L4 at *
    have W := cj w6 d1
    exact walk
  | succ m =>
    have d1 : decide (cmpU (4 * M * upS sp (i + 1)) (beS sp (i + 1)) < 0) = false := decide_eq_false (hlow i (by omega))
    clear hsc hcmp hlow hhigh
    generalize cmpU (4 * M * upS sp (i + 1)) (beS sp (i + 1)) = c at *
    generalize natL (lw * upS sp (i + 1)) = L1 at *
    generalize natL (4 * M * upS sp (i + 1)) = L2 at *
    generalize natL ((4 * M + 2) * upS sp (i + 1)) = L3 at *
    generalize natL (beS sp (i + 1)) = L4 at *
    have W := cj w6 d1
    refine walk1 ?_
    exact Again.mk m [(5, .int .i64 (i + 1)), (0, .int .u64 (d : Int))] ⟨0, [], [], []⟩ (by omega) (Sub.norm ⟨rfl, rfl, trivial⟩ trivial (by simp) rfl rfl rfl rfl) ⟨i + 1, by omega, by omega, rfl, rfl⟩
theorem within_walk (d n lead j : Int) (neg : Bool) (L1 V L3 B K R N T2 Best : List Int) (cl u o : Bool) (c odd : Int) (s t : List Int) (y : Int) (res : PV)
    (hj1 : IntKind.wrap .i64 (lead + 1) = lead + 1) (hj : IntKind.wrap .i64 (lead + 1 - n) = j) (hneg : decide (9223372036854775808 ≤ d) = neg)
    (h1 : Meets Tryz.prog 54 [.int .u64 d, .int .i64 j] (.agg [.ints .u64 L1, .ints .u64 V, .ints .u64 L3, .ints .u64 B, .bool cl]))
    (h2 : Meets Tryz.prog 56 [.ints .u64 V, .ints .u64 B] (.tup [.ints .u64 K, .ints .u64 R, .int .i64 0]))
    (h3 : Meets Tryz.prog 57 [.ints .u64 K, .ints .u64 [1]] (.tup [.ints .u64 N, .int .i64 0]))
    (h4 : Meets Tryz.prog 58 [.agg [.ints .u64 L1, .ints .u64 V, .ints .u64 L3, .ints .u64 B, .bool cl], .ints .u64 K] (.bool u))
    (h5 : Meets Tryz.prog 58 [.agg [.ints .u64 L1, .ints .u64 V, .ints .u64 L3, .ints .u64 B, .bool cl], .ints .u64 N] (.bool o))
    (h6 : Meets Tryz.prog 59 [.ints .u64 R, .int .i64 1] (.ints .u64 T2)) (h7 : Meets Tryz.prog 55 [.ints .u64 T2, .ints .u64 B] (.int .i64 c)) (h8 : Meets Tryz.prog 60 [.ints .u64 K, .int .i64 0] (.int .i64 odd))
    (hb : (u = false ∧ o = false ∧ res = .tup [.agg [.bool false, .str [], .int .i64 0], .bool false]) ∨ (u = false ∧ o = true ∧ N = Best ∧ res = .tup [.agg [.bool neg, .str t, .int .i64 y], .bool true]) ∨ (u = true ∧ o = false ∧ K = Best ∧ res = .tup [.agg [.bool neg, .str t, .int .i64 y], .bool true]) ∨
      (u = true ∧ o = true ∧ c = 1 ∧ N = Best ∧ res = .tup [.agg [.bool neg, .str t, .int .i64 y], .bool true]) ∨ (u = true ∧ o = true ∧ c = 0 ∧ odd = 1 ∧ N = Best ∧ res = .tup [.agg [.bool neg, .str t, .int .i64 y], .bool true]) ∨ (u = true ∧ o = true ∧ c = 0 ∧ odd = 0 ∧ K = Best ∧ res = .tup [.agg [.bool neg, .str t, .int .i64 y], .bool true]) ∨ (u = true ∧ o = true ∧ c = -1 ∧ K = Best ∧ res = .tup [.agg [.bool neg, .str t, .int .i64 y], .bool true]))
    (h9 : Meets Tryz.prog 61 [.ints .u64 Best] (.tup [.str s, .int .i64 0])) (h10 : Meets Tryz.prog 29 [.agg [.bool neg, .str s, .int .i64 j]] (.tup [.agg [.bool neg, .str t, .int .i64 y], .int .i64 0])) :
    Meets Tryz.prog 28 [.int .u64 d, .int .i64 n, .int .i64 lead] res := by
  rcases hb with ⟨rfl, rfl, rfl⟩ | ⟨rfl, rfl, rfl, rfl⟩ | ⟨rfl, rfl, rfl, rfl⟩ | ⟨rfl, rfl, rfl, rfl, rfl⟩ | ⟨rfl, rfl, rfl, rfl, rfl, rfl⟩ | ⟨rfl, rfl, rfl, rfl, rfl, rfl⟩ | ⟨rfl, rfl, rfl, rfl, rfl⟩
  all_goals (refine meets_by ttOk Tryz.func28 Tryz.ntmps28 Tryz.results28 (by kernel_rfl) (c := _) rfl rfl rfl fun E => ?_; simp only [argsFrame])
  all_goals
    repeat' first
      | (with_reducible first | refine PW.seq ?_ | refine PW.block ?_ | refine PW.fork ?_ | refine PW.skip ?_ | refine PW.exit ?_ | refine PW.ret ?_ | refine PW.scope ?_ | refine PW.label ?_ | refine PW.goto ?_)
      | (simp only [hj1, hj, hneg])
      | (with_reducible refine PW.region ttOk ?_ ?_
         · rfl)
      | (with_reducible refine PW.regionD ttOk mixed ?_ ?_ ?_
         · rfl
         · rfl)
      | (with_reducible refine ifW_dec (fun g => ?_) (fun g => ?_) <;> first | (exfalso; omega) | (simp -dsimp only [g, wkI]))
      | (with_reducible refine condE_dec (fun g => ?_) (fun g => ?_) <;> try (exfalso; omega))
      | (with_reducible refine condE_not (fun g => ?_) (fun g => ?_) <;> try (exfalso; omega))
      | (simp -dsimp only [↓wkA, ↓wkE, ↓wkJ, wkB, ↓tt, Nat.reduceBEq, Nat.reduceEqDiff, ↓reduceIte, Nat.reduceLT, Array.toList, Nat.reduceAdd, Nat.reduceMul, Int.reduceToNat, Int.reducePow, UInt8.reduceToNat])
      | (refine call_by (h1) (views_data rfl) ⟨trivial, trivial, trivial⟩ rfl ?_)
      | (refine call_by (h2) (views_data rfl) ⟨trivial, trivial, trivial⟩ rfl ?_)
      | (refine call_drop (args' := [.ints .u64 K, .ints .u64 [1]]) rfl h3 ⟨trivial, Nat.le_refl _, trivial⟩ rfl ?_; simp only [wkD, Nat.reduceBEq])
      | (refine callD_by (h4) (views_data rfl) (by simp only [okViews, okView, okViews0, okView0, and_self]) rfl ?_)
      | (refine callD_by (h5) (views_data rfl) (by simp only [okViews, okView, okViews0, okView0, and_self]) rfl ?_)
      | (refine call_by (h6) (views_data rfl) ⟨trivial, trivial, trivial⟩ rfl ?_)
      | (refine call_by (h7) (views_data rfl) ⟨trivial, trivial, trivial⟩ rfl ?_)
      | (refine call_by (h8) (views_data rfl) ⟨trivial, trivial, trivial⟩ rfl ?_)
      | (refine call_by (h9) (views_data rfl) ⟨trivial, trivial⟩ rfl ?_)
      | (refine call_by (h10) (views_data rfl) (by simp only [okViews, okView, okViews0, okView0, and_self]) rfl ?_)
      | (simp -dsimp (disch := first | assumption | omega) only [dec_t, dec_f])
      | (refine andI ?_)
      | (simp (disch := omega) only [wkW, Int.reduceToNat, Int.reducePow])
      | fail
  all_goals trace_state
end Go.Proofs.YtmoilbeomnapfaaGreatDoor

/- Contracts and laws that the row leans on, part 9: texts that were built one by one, laid together. -/
import Derived.Test.YtmoilbeomnapfaaGreatDoorPart4
import Derived.Test.YtmoilbeomnapfaaGreatDoorPart8
import Derived.Test.YtmoilbeomnapfaaGreatDoorPart5
import Derived.Test.YtmoilbeomnapfaaGreatDoorPart7
set_option maxHeartbeats 4000000
set_option maxRecDepth 4000
set_option exponentiation.threshold 300000
set_option linter.unusedVariables false
set_option linter.unusedSimpArgs false
namespace Go.Proofs.YtmoilbeomnapfaaGreatDoor
open Go Go.PV
theorem ref02_divide {u v : Nat} (hu : u < 2 ^ 2700) (hv0 : v ≠ 0) (hvu : v ≤ u) : Meets Tryz.prog 68 [.ints .u64 (natL u), .ints .u64 (natL v)] (.tup [.ints .u64 (natL (u / v)), .ints .u64 (natL (u % v))]) := by
  have e43 : 2 ^ 2700 ≤ 18446744073709551616 ^ 43 := by decide +kernel
  have l1 : (natL u).length ≤ 43 := natL_len_le (Nat.lt_of_lt_of_le hu e43)
  obtain ⟨p1, p2⟩ := natL_ge hv0
  have hcm : cmpN (natL u) (natL v) = cmpU u v := cmpU_nat (val_natL u) (val_natL v)
  have hge : ¬ cmpN (natL u) (natL v) < 0 := by
    rw [hcm]
    rcases cmpU_cases u v with ⟨h1, h2⟩ | ⟨h1, h2⟩ | ⟨h1, h2⟩ <;> rw [h1] <;> omega
  have hlu : (natL v).length ≤ (natL u).length := by
    refine Nat.le_of_not_lt fun h => hge ?_
    rw [cmpN_short (natL_limbs u) (natL_limbs v) (by rw [size_natL, size_natL]; exact h)]
    decide
  have h1 := ref02_short (natL u) (by omega)
  have h2 := ref02_short (natL v) (by omega)
  rw [trim_natL] at h1 h2
  have h3 := ref02_order (natL u) (natL v) (natL_limbs u) (natL_limbs v) (by omega) (by omega)
  have g1 := fun nx rows gg ty => ref02_short_h (natL u) (by omega) nx rows gg ty
  have g2 := fun nx rows gg ty => ref02_short_h (natL v) (by omega) nx rows gg ty
  rw [size_natL, trim_natL] at g1 g2
  have hlow : B64 ^ ((natL v).length - 1) ≤ (v : Int) := by
    have h := Int.ofNat_le.2 p2
    rw [Int.natCast_pow] at h
    exact h
  exact divide_walk (natL u) (natL v) (natL u) (natL v) (natL u).length (natL v).length ((natL u).length + 1 - (natL v).length) u v h1 h2 h3 hge g1 g2 (natL_limbs u) (natL_limbs v) rfl rfl p1 (by omega) (by omega) (by omega) (val_natL u) (val_natL v) hlow
theorem mantD_par (d : Nat) : mantD d % 2 = d % 2 := by
  unfold mantD fracD
  split <;> omega
theorem ref12_span (d : Nat) (hd : d < 18446744073709551616) (hf : finD d) (h0 : absD d ≠ 0) : Meets Tryz.prog 33 [.int .u64 (d : Int)] (.agg [.int .u64 ((4 * mantD d : Nat) : Int), .int .u64 (lowM d : Int), .int .u64 ((4 * mantD d + 2 : Nat) : Int), .int .i64 (spE d), .bool (decide (d % 2 = 0))]) := by
  have h1 := ref04_decode d hd
  obtain ⟨p1, p2⟩ := parts_fin hf h0
  unfold partsP at h1
  rw [p1, p2] at h1
  have hm0 : mantD d ≠ 0 := fun e => h0 (mantD_zero.1 e)
  have hml := mantD_lt d
  have he1 := expD_ge d
  have he2 := expD_le hf
  have hpar := mantD_par d
  have hp : Int.tmod (mantD d : Int) 2 = ((mantD d % 2 : Nat) : Int) := by rw [tmod_pos (by omega)]; omega
  have dp : decide (((mantD d % 2 : Nat) : Int) = 0) = decide (d % 2 = 0) := decide_eq_decide.2 (by omega)
  unfold lowM spE
  generalize decide (d % 2 = 0) = par at *
  generalize mantD d = M at *
  generalize expD d = E at *
  generalize classD d = cl at *
  generalize negD d = ng at *
  clear hpar
  generalize M % 2 = M2 at *
  have w1 : IntKind.wrap .u64 (4 * (M : Int)) = ((4 * M : Nat) : Int) := by rw [wrap_u64 (by omega)]; omega
  have w2 : IntKind.wrap .u64 (((4 * M : Nat) : Int) - 2) = ((4 * M - 2 : Nat) : Int) := by rw [wrap_u64 (by omega)]; omega
  have w3 : IntKind.wrap .u64 (((4 * M : Nat) : Int) - 1) = ((4 * M - 1 : Nat) : Int) := by rw [wrap_u64 (by omega)]; omega
  have w4 : IntKind.wrap .u64 (((4 * M : Nat) : Int) + 2) = ((4 * M + 2 : Nat) : Int) := wrap_u64 (by omega)
  have w5 : IntKind.wrap .i64 (E - 2) = E - 2 := wrap_i64 (by omega)
  have hc : (decide ((M : Int) = 4503599627370496) = true ∧ decide (-1074 < E) = true ∧ (M = 4503599627370496 ∧ -1074 < E)) ∨ (decide ((M : Int) = 4503599627370496) = true ∧ decide (-1074 < E) = false ∧ ¬ (M = 4503599627370496 ∧ -1074 < E)) ∨ (decide ((M : Int) = 4503599627370496) = false ∧ decide ((M : Int) = 4503599627370496) = false ∧ ¬ (M = 4503599627370496 ∧ -1074 < E)) := by
    by_cases c1 : M = 4503599627370496
    · by_cases c2 : -1074 < E
      · exact .inl ⟨decide_eq_true (by omega), decide_eq_true c2, c1, c2⟩
      · exact .inr (.inl ⟨decide_eq_true (by omega), decide_eq_false c2, fun h => c2 h.2⟩)
    · have := decide_eq_false (show ¬ (M : Int) = 4503599627370496 by omega)
      exact .inr (.inr ⟨this, this, fun h => c1 h.1⟩)
  rcases hc with ⟨d1, d2, hc⟩ | ⟨d1, d2, hc⟩ | ⟨d1, d2, hc⟩
  case' inl => rw [if_pos hc]
  case' inr.inl => rw [if_neg hc]
  case' inr.inr => rw [if_neg hc]
  all_goals (refine meets_by ttOk Tryz.func33 Tryz.ntmps33 Tryz.results33 (by kernel_rfl) (c := _) rfl rfl rfl fun E => ?_; simp only [argsFrame])
  all_goals
    have W := cj w1 (cj w2 (cj w3 (cj w4 (cj w5 (cj hp (cj dp (cj d1 d2)))))))
    exact walk
abbrev spanP (mid lo hi e : Int) (cl : Bool) : PV := .agg [.int .u64 mid, .int .u64 lo, .int .u64 hi, .int .i64 e, .bool cl]
theorem inside_walk (mid lo hi e j : Int) (cl : Bool) (K Lo Hi D X : List Int) (x y : Int) (b : Bool) (h1 : Meets Tryz.prog 67 [.int .u64 lo, .int .i64 e, .int .i64 j] (.tup [.ints .u64 Lo, .ints .u64 D])) (h2 : Meets Tryz.prog 67 [.int .u64 hi, .int .i64 e, .int .i64 j] (.tup [.ints .u64 Hi, .ints .u64 D]))
    (h3 : Meets Tryz.prog 80 [.ints .u64 K, .ints .u64 D] (.ints .u64 X)) (h4 : Meets Tryz.prog 72 [.ints .u64 Lo, .ints .u64 X] (.int .i64 x)) (h5 : Meets Tryz.prog 72 [.ints .u64 X, .ints .u64 Hi] (.int .i64 y))
    (hx : x = -1 ∨ x = 0 ∨ x = 1) (hy : y = -1 ∨ y = 0 ∨ y = 1) (hb : b = (decide (x < 0) && decide (y < 0) || (cl && decide (x ≤ 0) && decide (y ≤ 0)))) :
    Meets Tryz.prog 71 [spanP mid lo hi e cl, .ints .u64 K, .int .i64 j] (.bool b) := by
  subst hb
  rcases hx with rfl | rfl | rfl
  all_goals rcases hy with rfl | rfl | rfl
  all_goals cases cl
  all_goals (refine meets_by ttOk Tryz.func71 Tryz.ntmps71 Tryz.results71 (by kernel_rfl) (c := _) rfl rfl rfl fun E => ?_; simp only [argsFrame])
  all_goals
    refine walk1 ?_
  all_goals rfl
theorem ref12_inside (mid lo hi k : Nat) (e j : Int) (cl : Bool) (hlo : lo < 2 ^ 60) (hhi : hi < 2 ^ 60) (he : -1100 ≤ e ∧ e ≤ 1000) (hj : -420 ≤ j ∧ j ≤ 420) (hk : k < 2 ^ 2700) (hkB : k * beS e j < 2 ^ 2700) :
    Meets Tryz.prog 71 [spanP (mid : Int) (lo : Int) (hi : Int) e cl, .ints .u64 (natL k), .int .i64 j] (.bool (hdB (lo * upS e j) (hi * upS e j) (k * beS e j) cl)) := by
  obtain ⟨b1, b2⟩ := up_small hlo he hj
  obtain ⟨b3, _⟩ := up_small hhi he hj
  have ht := ref01_times (natL_limbs k) (natL_limbs (beS e j)) (big_len hk) (big_len b2) (val_natL _) (val_natL _)
  refine inside_walk _ _ _ _ _ _ _ _ _ _ _ _ _ _ (ref12_scaled lo e j hlo he hj) (ref12_scaled hi e j hhi he hj) ht (ref_cmpU b1 hkB) (ref_cmpU hkB b3) ?_ ?_ rfl
  · rcases cmpU_cases (lo * upS e j) (k * beS e j) with h | h | h
    · exact .inl h.1
    · exact .inr (.inl h.1)
    · exact .inr (.inr h.1)
  · rcases cmpU_cases (k * beS e j) (hi * upS e j) with h | h | h
    · exact .inl h.1
    · exact .inr (.inl h.1)
    · exact .inr (.inr h.1)
theorem choose_walk (mid lo hi e j : Int) (cl : Bool) (V B F R C T : List Int) (rs : Int) (u o rz : Bool) (sd odd : Int) (res : PV) (hrz : decide (rs = 0) = rz)
    (h1 : Meets Tryz.prog 67 [.int .u64 mid, .int .i64 e, .int .i64 j] (.tup [.ints .u64 V, .ints .u64 B])) (h2 : Meets Tryz.prog 68 [.ints .u64 V, .ints .u64 B] (.tup [.ints .u64 F, .ints .u64 R])) (h3 : Meets Tryz.prog 69 [.ints .u64 R] (.int .i64 rs)) (h4 : Meets Tryz.prog 70 [.ints .u64 F, .ints .u64 [1]] (.ints .u64 C))
    (h5 : Meets Tryz.prog 71 [spanP mid lo hi e cl, .ints .u64 F, .int .i64 j] (.bool u)) (h6 : Meets Tryz.prog 71 [spanP mid lo hi e cl, .ints .u64 C, .int .i64 j] (.bool o)) (h7 : Meets Tryz.prog 73 [.ints .u64 B, .ints .u64 R] (.ints .u64 T)) (h8 : Meets Tryz.prog 72 [.ints .u64 R, .ints .u64 T] (.int .i64 sd)) (h9 : Meets Tryz.prog 74 [.ints .u64 F, .int .i64 0] (.int .i64 odd))
    (hb : (rz = true ∧ res = .tup [.ints .u64 F, .bool true]) ∨ (rz = false ∧ u = false ∧ res = .tup [.ints .u64 C, .bool o]) ∨ (rz = false ∧ u = true ∧ o = false ∧ res = .tup [.ints .u64 F, .bool true]) ∨ (rz = false ∧ u = true ∧ o = true ∧ sd = 1 ∧ res = .tup [.ints .u64 C, .bool true]) ∨
      (rz = false ∧ u = true ∧ o = true ∧ sd = 0 ∧ odd = 1 ∧ res = .tup [.ints .u64 C, .bool true]) ∨ (rz = false ∧ u = true ∧ o = true ∧ sd = 0 ∧ odd = 0 ∧ res = .tup [.ints .u64 F, .bool true]) ∨ (rz = false ∧ u = true ∧ o = true ∧ sd = -1 ∧ res = .tup [.ints .u64 F, .bool true])) :
    Meets Tryz.prog 35 [spanP mid lo hi e cl, .int .i64 j] res := by
  rcases hb with ⟨rfl, rfl⟩ | ⟨rfl, rfl, rfl⟩ | ⟨rfl, rfl, rfl, rfl⟩ | ⟨rfl, rfl, rfl, rfl, rfl⟩ | ⟨rfl, rfl, rfl, rfl, rfl, rfl⟩ | ⟨rfl, rfl, rfl, rfl, rfl, rfl⟩ | ⟨rfl, rfl, rfl, rfl, rfl⟩
  all_goals (refine meets_by ttOk Tryz.func35 Tryz.ntmps35 Tryz.results35 (by kernel_rfl) (c := _) rfl rfl rfl fun E => ?_; simp only [argsFrame])
  all_goals
    repeat' first
      | (with_reducible first | refine PW.seq ?_ | refine PW.block ?_ | refine PW.fork ?_ | refine PW.skip ?_ | refine PW.exit ?_ | refine PW.ret ?_ | refine PW.scope ?_ | refine PW.label ?_ | refine PW.goto ?_)
      | (simp only [hrz])
      | (with_reducible refine PW.region ttOk ?_ ?_
         · rfl)
      | (with_reducible refine PW.regionD ttOk mixed ?_ ?_ ?_
         · rfl
         · rfl)
      | (with_reducible refine ifW_dec (fun g => ?_) (fun g => ?_) <;> first | (exfalso; omega) | (simp -dsimp only [g, wkI]))
      | (with_reducible refine condE_dec (fun g => ?_) (fun g => ?_) <;> try (exfalso; omega))
      | (with_reducible refine condE_not (fun g => ?_) (fun g => ?_) <;> try (exfalso; omega))
      | (simp -dsimp only [↓wkA, ↓wkE, ↓wkJ, wkB, ↓tt, Nat.reduceBEq, Nat.reduceEqDiff, ↓reduceIte, Nat.reduceLT, Array.toList, Nat.reduceAdd, Nat.reduceMul, Int.reduceToNat, Int.reducePow, UInt8.reduceToNat])
      | (refine call_by (h1) (views_data rfl) ⟨trivial, trivial, trivial, trivial⟩ rfl ?_)
      | (refine call_by (h2) (views_data rfl) ⟨trivial, trivial, trivial⟩ rfl ?_)
      | (refine call_by (h3) (views_data rfl) ⟨trivial, trivial⟩ rfl ?_)
      | (refine call_drop (args' := [.ints .u64 F, .ints .u64 [1]]) rfl h4 ⟨trivial, Nat.le_refl _, trivial⟩ rfl ?_; simp only [wkD, Nat.reduceBEq])
      | (refine call_by (h5) (views_data rfl) (by simp only [okViews, okView, okViews0, okView0, and_self]) rfl ?_)
      | (refine call_by (h6) (views_data rfl) (by simp only [okViews, okView, okViews0, okView0, and_self]) rfl ?_)
      | (refine call_by (h7) (views_data rfl) ⟨trivial, trivial, trivial⟩ rfl ?_)
      | (refine call_by (h8) (views_data rfl) ⟨trivial, trivial, trivial⟩ rfl ?_)
      | (refine call_by (h9) (views_data rfl) ⟨trivial, trivial, trivial⟩ rfl ?_)
      | (simp -dsimp (disch := first | assumption | omega) only [dec_t, dec_f])
      | (refine andI ?_)
      | (simp (disch := omega) only [wkW, Int.reduceToNat, Int.reducePow])
      | fail
theorem ref12_normal (neg : Bool) (K s : List Int) (j : Int) (hj : -100000 ≤ j ∧ j ≤ 100000) (h1 : Meets Tryz.prog 75 [.ints .u64 K] (.tup [.str s, .int .i64 0])) (hs : s ≠ []) (hh : s.getD 0 0 ≠ 48) (hsl : s.length ≤ 100000) :
    Meets Tryz.prog 36 [.bool neg, .ints .u64 K, .int .i64 j] (.agg [.bool neg, .str (normS s), .int .i64 (normX s j)]) := by
  have hp := List.length_pos_iff.2 hs
  have hhl : headL 48 s = s := by
    cases s with
    | nil => rfl
    | cons y r => rw [headL, if_neg (show ¬ y = 48 from hh)]
  have hE1 : endN s 48 s.length ≠ 0 := fun e => hh ((endN_zero _).1 e 0 hp)
  have hE2 := endN_le s 48 s.length
  have hE3 := endN_last s.length hE1
  unfold normS normX
  rw [hhl, if_neg hs, if_neg hs]
  obtain ⟨eN, hE⟩ : ∃ eN, endN s 48 s.length = eN := ⟨_, rfl⟩
  rw [hE] at hE1 hE2 hE3 ⊢
  refine meets_by ttOk Tryz.func36 Tryz.ntmps36 Tryz.results36 (by kernel_rfl) (c := _) rfl rfl rfl fun E => ?_
  simp only [argsFrame]
  refine walk1 ?_
  refine PW.loopA (fun m F H => ∃ k : Nat, k + 1 = eN + m ∧ k + 1 ≤ s.length ∧ endN s 48 (k + 1) = eN ∧ F = [(9, .int .i64 ((k + 1 : Nat) : Int)), (7, .str s), (0, .bool neg), (2, .int .i64 (j + (s.length - ((k + 1 : Nat) : Int)))), (6, .ptr 0 0 0)] ∧ H = ⟨1, [(0, .var [.bool false, .str [], .int .i64 0])], [], []⟩) (s.length - eN) [(9, .int .i64 (s.length : Int)), (7, .str s), (0, .bool neg), (2, .int .i64 j), (6, .ptr 0 0 0)] ⟨1, [(0, .var [.bool false, .str [], .int .i64 0])], [], []⟩ (Sub.norm ⟨rfl, rfl, rfl, rfl, rfl, trivial⟩ ⟨rfl, trivial⟩ (Nat.le_refl _) rfl rfl rfl rfl) ⟨s.length - 1, by omega, by omega, by rw [show s.length - 1 + 1 = s.length by omega]; exact hE, by rw [show s.length - 1 + 1 = s.length by omega, Int.sub_self, Int.add_zero], rfl⟩ ?_
  rintro m F H ⟨k, hk, hkl, hek, rfl, rfl⟩
  have w1 : IntKind.wrap .i64 (((k + 1 : Nat) : Int) - 1) = (k : Int) := by rw [wrap_i64 (by omega)]; omega
  have d3 : decide ((k : Int) < (s.length : Int)) = true := decide_eq_true (by omega)
  cases m with
  | zero =>
    obtain rfl : k + 1 = eN := by omega
    have hd : s.getD k 0 ≠ 48 := hE3
    have d2 : decide (s.getD k 0 = 48) = false := decide_eq_false hd
    have hres : j + ((s.length : Int) - ((k + 1 : Nat) : Int)) = j + s.length - ((k + 1 : Nat) : Int) := by omega
    by_cases h2 : k = 0
    case' pos => have d1 : decide ((1 : Int) < ((k + 1 : Nat) : Int)) = false := decide_eq_false (by omega)
    case' neg => have d1 : decide ((1 : Int) < ((k + 1 : Nat) : Int)) = true := decide_eq_true (by omega)
    all_goals
      have W := cj w1 (cj d1 (cj d2 (cj d3 (cj hres Int.toNat_natCast))))
      exact walk
  | succ m =>
    have d1 : decide ((1 : Int) < ((k + 1 : Nat) : Int)) = true := decide_eq_true (by omega)
    have hd : s.getD k 0 = 48 := by
      refine Classical.byContradiction fun h => ?_
      rw [endN, if_neg h] at hek
      omega
    have hek2 : endN s 48 k = eN := by rw [endN, if_pos hd] at hek; exact hek
    have d2 : decide (s.getD k 0 = 48) = true := decide_eq_true hd
    obtain ⟨k', rfl⟩ : ∃ k', k = k' + 1 := ⟨k - 1, by omega⟩
    have w2 : IntKind.wrap .i64 (j + ((s.length : Int) - ((k' + 1 + 1 : Nat) : Int)) + 1) = j + (s.length - ((k' + 1 : Nat) : Int)) := by rw [wrap_i64 (by omega)]; omega
    have W := cj w1 (cj w2 (cj d1 (cj d2 (cj d3 Int.toNat_natCast))))
    refine walk1 ?_
    exact Again.mk m [(9, .int .i64 ((k' + 1 : Nat) : Int)), (7, .str s), (0, .bool neg), (2, .int .i64 (j + (s.length - ((k' + 1 : Nat) : Int)))), (6, .ptr 0 0 0)] ⟨1, [(0, .var [.bool false, .str [], .int .i64 0])], [], []⟩ (by omega) (Sub.norm ⟨rfl, rfl, rfl, rfl, rfl, trivial⟩ ⟨rfl, trivial⟩ (by simp) rfl rfl rfl rfl) ⟨k', by omega, by omega, hek2, rfl, rfl⟩
def bestW (lo V hi B : Nat) (cl : Bool) : Option Nat :=
  if hdB lo hi (V / B * B) cl then (if hdB lo hi ((V / B + 1) * B) cl then (if B < 2 * (V % B) ∨ (B = 2 * (V % B) ∧ V / B % 2 = 1) then some (V / B + 1) else some (V / B)) else some (V / B))
  else if hdB lo hi ((V / B + 1) * B) cl then some (V / B + 1) else none
def bestD (d : Nat) (j : Int) : Option Nat := bestW (lowM d * upS (spE d) j) (4 * mantD d * upS (spE d) j) ((4 * mantD d + 2) * upS (spE d) j) (beS (spE d) j) (decide (d % 2 = 0))
theorem bestW_cases (lo V hi B : Nat) (cl : Bool) : bestW lo V hi B cl = none ∨ bestW lo V hi B cl = some (V / B) ∨ bestW lo V hi B cl = some (V / B + 1) := by
  unfold bestW
  repeat' split
  all_goals simp
def decR (neg : Bool) (j : Int) : Option Nat → PV
  | none => .agg [.bool false, .str [], .int .i64 0]
  | some b => .agg [.bool neg, .str (normS (written 10 false b)), .int .i64 (normX (written 10 false b) j)]
theorem written_le {v : Nat} (h0 : v ≠ 0) (h : v < 2 ^ 2700) : (written 10 false v).length ≤ 900 := by
  unfold written
  rw [if_neg h0]
  refine Nat.le_of_not_lt fun hlt => ?_
  have h1 := text_ge (b := 10) (by decide) false v h0
  have h2 : 2 ^ 2700 ≤ 10 ^ ((text 10 false v).length - 1) := Nat.le_trans (show 2 ^ 2700 ≤ 10 ^ 900 by decide +kernel) (Nat.pow_le_pow_right (by decide) (by omega))
  omega
theorem written_all_d {v : Nat} (h0 : v ≠ 0) : AllD (written 10 false v) := by
  unfold written
  rw [if_neg h0]
  exact fun i hi => digs_get text_digs hi
theorem written_head {v : Nat} (h0 : v ≠ 0) : (written 10 false v).getD 0 0 ≠ 48 := by
  unfold written
  rw [if_neg h0]
  exact text_head (by decide) false v h0
theorem normX_in {s : List Int} {x : Int} (hs : s.length ≤ 900) (hx : -1000 ≤ x ∧ x ≤ 1000) : -2000 ≤ normX s x ∧ normX s x ≤ 2000 := by
  have h1 := headL_le 48 s
  have h2 := endN_le (headL 48 s) 48 (headL 48 s).length
  unfold normX
  split <;> omega
theorem normS_le {s : List Int} (h : s ≠ []) : (normS s).length ≤ s.length := by
  have h1 := headL_le 48 s
  have hp := List.length_pos_iff.2 h
  unfold normS
  split
  · exact hp
  · rw [List.length_take]; omega
theorem normS_ne (s : List Int) : normS s ≠ [] := by
  unfold normS
  split
  · simp
  · rename_i h
    intro e
    have h1 := congrArg List.length e
    rw [List.length_take, List.length_nil] at h1
    have hp := List.length_pos_iff.2 h
    have h2 : endN (headL 48 s) 48 (headL 48 s).length ≠ 0 := fun e2 => by
      have h3 := (endN_zero _).1 e2 0 hp
      cases hl : headL 48 s with
      | nil => exact h hl
      | cons y r =>
        rw [hl] at h3
        have h4 : y = 48 := h3
        have h5 : ∀ t : List Int, headL 48 t = y :: r → False := by
          intro t
          induction t with
          | nil => intro h6; simp [headL] at h6
          | cons z t ih =>
            intro h6
            rw [headL] at h6
            split at h6
            · exact ih h6
            · rename_i hz
              injection h6 with h7 _
              exact hz (h7.trans h4)
        exact h5 s hl
    omega
structure LookS (d : Nat) (k j : Int) (lo V hi B : Nat) : Prop where
  hlo : lo < V
  hhi : V < hi
  hB0 : B ≠ 0
  hBV : B ≤ V
  hV : V < 2 ^ 2600
  hhl : hi < 2 ^ 2600
  hBl : B < 2 ^ 2500
theorem look_of {d : Nat} (hf : finD d) (h0 : absD d ≠ 0) {k j : Int} (hT : Ten (4 * mantD d) (spE d) k) (hj : -420 ≤ j ∧ j ≤ 420) (hjk : j ≤ k) : LookS d k j (lowM d * upS (spE d) j) (4 * mantD d * upS (spE d) j) ((4 * mantD d + 2) * upS (spE d) j) (beS (spE d) j) := by
  have hm0 : mantD d ≠ 0 := fun e => h0 (mantD_zero.1 e)
  have hml := mantD_lt d
  have he1 := expD_ge d
  have he2 := expD_le hf
  obtain ⟨l1, l2⟩ := lowM_bounds d hm0
  have he : -1100 ≤ spE d ∧ spE d ≤ 1000 := by unfold spE; omega
  have hup := upS_pos (spE d) j
  have hul := upS_lt he.2 hj.1
  have e100 : (2 : Nat) ^ 100 = 1267650600228229401496703205376 := by decide
  have hl : ∀ x : Nat, x < 2 ^ 100 → x * upS (spE d) j < 2 ^ 2600 := fun x hx => Nat.lt_of_lt_of_le (Nat.mul_lt_mul'' hx hul) (by rw [← Nat.pow_add]; exact Nat.pow_le_pow_right (by decide) (by decide))
  exact ⟨Nat.mul_lt_mul_of_pos_right l2 hup, Nat.mul_lt_mul_of_pos_right (by omega) hup, Nat.ne_of_gt (beS_pos _ _), ge_le hT.lo hjk, hl _ (by rw [e100]; omega), hl _ (by rw [e100]; omega), beS_lt he.1 hj.2⟩
theorem LookS.f0 {d : Nat} {k j : Int} {lo V hi B : Nat} (h : LookS d k j lo V hi B) : 1 ≤ V / B ∧ V / B < 2 ^ 2600 ∧ V / B * B ≤ V ∧ (V / B + 1) * B < 2 ^ 2650 ∧ V % B < B := by
  have hB := h.hBV
  have hV := h.hV
  have hBl := h.hBl
  have hp : 0 < B := Nat.pos_of_ne_zero h.hB0
  have h1 : 1 ≤ V / B := (Nat.one_le_div_iff hp).2 hB
  have h2 := Nat.div_le_self V B
  have h3 := Nat.div_mul_le_self V B
  refine ⟨h1, Nat.lt_of_le_of_lt h2 hV, h3, ?_, Nat.mod_lt _ hp⟩
  rw [Nat.add_mul, Nat.one_mul]
  exact Nat.lt_of_lt_of_le (Nat.add_lt_add (Nat.lt_of_le_of_lt h3 hV) hBl) (by decide +kernel)
theorem mod_self_le {V B : Nat} : V / B * B + V % B = V := by
  rw [Nat.mul_comm]; exact Nat.div_add_mod V B
theorem LookS.whole {d : Nat} {k j : Int} {lo V hi B : Nat} (h : LookS d k j lo V hi B) (cl : Bool) (hr : V % B = 0) : bestW lo V hi B cl = some (V / B) := by
  have h1 := @mod_self_le V B
  have hh : hdB lo hi (V / B * B) cl = true := hdB_iff.2 (.inl ⟨by have := h.hlo; omega, by have := h.hhi; omega⟩)
  have hB := h.hB0
  unfold bestW
  rw [if_pos hh, hr]
  split
  · rw [if_neg (by omega)]
  · rfl
theorem bn_of {x : Nat} (h : x < 2 ^ 2700) : x < NMax := nmax_of h (by decide)
theorem p26 {x : Nat} (h : x < 2 ^ 2600) : x < 2 ^ 2700 := Nat.lt_of_lt_of_le h (Nat.pow_le_pow_right (by decide) (by decide))
theorem p265 {x : Nat} (h : x < 2 ^ 2650) : x < 2 ^ 2700 := Nat.lt_of_lt_of_le h (Nat.pow_le_pow_right (by decide) (by decide))
theorem p261 {x : Nat} (h : x < 2 ^ 2600) : x + 1 < 2 ^ 2700 := Nat.lt_of_le_of_lt h (Nat.pow_lt_pow_right (by decide) (by decide))
theorem p2r {x : Nat} (h : x < 2 ^ 2500) : x * 2 ^ 1 < 2 ^ 2700 := Nat.lt_of_lt_of_le (Nat.mul_lt_mul_of_lt_of_le h (Nat.le_refl _) (by decide)) (by decide +kernel)
theorem bit0_nat {v : Nat} (hv : v < NMax) : Meets Tryz.prog 60 [.ints .u64 (natL v), .int .i64 0] (.int .i64 ((v % 2 : Nat) : Int)) := by
  have h := bit_nat v 0 hv (by decide)
  rw [Nat.pow_zero, Nat.div_one] at h
  exact h
theorem bit0_ref {v : Nat} (hv : v < NMax) : Meets Tryz.prog 74 [.ints .u64 (natL v), .int .i64 0] (.int .i64 ((v % 2 : Nat) : Int)) := by
  have h := ref01_bit v 0 hv (by decide)
  rw [Nat.pow_zero, Nat.div_one] at h
  exact h
theorem short_within (d : Nat) (hd : d < 18446744073709551616) (hf : finD d) (h0 : absD d ≠ 0) (k j : Int) (n : Nat) (hn : 1 ≤ n ∧ n ≤ 17) (hk : -400 ≤ k ∧ k < 400) (hT : Ten (4 * mantD d) (spE d) k) (hj : k + 1 - n = j) :
    Meets Tryz.prog 28 [.int .u64 (d : Int), .int .i64 (n : Int), .int .i64 k] (.tup [decR (negD d) j (bestD d j), .bool (bestD d j).isSome]) := by
  have hj2 : -420 ≤ j ∧ j ≤ 420 := by omega
  have hL := look_of hf h0 hT hj2 (by omega)
  have h1 := short_scaled d hd hf h0 j hj2
  unfold bestD
  generalize lowM d * upS (spE d) j = lo at *
  generalize 4 * mantD d * upS (spE d) j = V at *
  generalize (4 * mantD d + 2) * upS (spE d) j = hi at *
  generalize beS (spE d) j = B at *
  generalize decide (d % 2 = 0) = cl at *
  obtain ⟨f1, f2, f3, f4, f5⟩ := hL.f0
  have hfl : V / B * B < 2 ^ 2600 := Nat.lt_of_le_of_lt f3 hL.hV
  have h2 := div_mod (bn_of (p26 hL.hV)) (bn_of (p26 (Nat.lt_trans hL.hBl (Nat.pow_lt_pow_right (by decide) (by decide))))) hL.hB0
  have h3 := add_nat (u := V / B) (v := 1) (bn_of (p26 f2)) (by decide +kernel) (bn_of (p261 f2))
  rw [natL_oneL] at h3
  have hBn : B < NMax := bn_of (p26 (Nat.lt_trans hL.hBl (Nat.pow_lt_pow_right (by decide) (by decide))))
  have h4 := span_holds lo V hi B (V / B) cl (bn_of (p26 (Nat.lt_trans hL.hlo hL.hV))) (bn_of (p26 hL.hhl)) hBn (bn_of (p26 f2)) (bn_of (p26 hfl))
  have h5 := span_holds lo V hi B (V / B + 1) cl (bn_of (p26 (Nat.lt_trans hL.hlo hL.hV))) (bn_of (p26 hL.hhl)) hBn (bn_of (p261 f2)) (bn_of (p265 f4))
  have h6 := short_shl (u := V % B) (n := 1) (bn_of (p26 (Nat.lt_trans f5 (Nat.lt_trans hL.hBl (Nat.pow_lt_pow_right (by decide) (by decide)))))) (by decide) (bn_of (p2r (Nat.lt_trans f5 hL.hBl)))
  have h7 := cmp_natU (u := V % B * 2 ^ 1) (v := B) (bn_of (p2r (Nat.lt_trans f5 hL.hBl))) hBn
  have h8 := bit0_nat (v := V / B) (bn_of (p26 f2))
  have hdg : ∀ b, b ≠ 0 → b < 2 ^ 2700 → Meets Tryz.prog 61 [.ints .u64 (natL b)] (.tup [.str (written 10 false b), .int .i64 0]) ∧ Meets Tryz.prog 29 [.agg [.bool (negD d), .str (written 10 false b), .int .i64 j]] (.tup [.agg [.bool (negD d), .str (normS (written 10 false b)), .int .i64 (normX (written 10 false b) j)], .int .i64 0]) := fun b hb0 hb => by
    have hwl := written_le hb0 hb
    have hx := normX_in (x := j) hwl (by omega)
    exact ⟨digits_natU (bn_of hb), scan_norm_ok (negD d) ⟨written_ne (by decide) false b, ⟨by omega, by omega⟩, written_all_d hb0, by omega⟩ (by omega)⟩
  have hneg : decide (9223372036854775808 ≤ (d : Int)) = negD d := decide_eq_decide.2 (by omega)
  have hj1 : IntKind.wrap .i64 (k + 1) = k + 1 := wrap_i64 (by omega)
  have hj3 : IntKind.wrap .i64 (k + 1 - (n : Int)) = j := by rw [wrap_i64 (by omega)]; exact hj
  obtain ⟨g1, g2⟩ := hdg (V / B) (by omega) (p26 f2)
  obtain ⟨g3, g4⟩ := hdg (V / B + 1) (by omega) (p261 f2)
  have go := within_walk (d : Int) n k j (negD d) (natL lo) (natL V) (natL hi) (natL B) (natL (V / B)) (natL (V % B)) (natL (V / B + 1)) (natL (V % B * 2 ^ 1))
  have go2 := fun Best s t y res hb h9 h10 => go Best cl _ _ _ _ s t y res hj1 hj3 hneg h1 h2 h3 h4 h5 h6 h7 h8 hb h9 h10
  clear go h1 h2 h3 h4 h5 h6 h7 h8
  have hc := cmpU_cases (V % B * 2 ^ 1) B
  rw [Nat.pow_one] at *
  have hm2 : V / B % 2 = 0 ∨ V / B % 2 = 1 := by omega
  unfold bestW
  by_cases c1 : hdB lo hi (V / B * B) cl = true
  · rw [if_pos c1]
    by_cases c2 : hdB lo hi ((V / B + 1) * B) cl = true
    · rw [if_pos c2]
      rcases hc with ⟨c3, c4⟩ | ⟨c3, c4⟩ | ⟨c3, c4⟩
      · rw [if_neg (by omega)]
        exact go2 _ _ _ _ _ (.inr (.inr (.inr (.inr (.inr (.inr ⟨c1, c2, c3, rfl, rfl⟩)))))) g1 g2
      · rcases hm2 with c5 | c5
        · rw [if_neg (by omega)]
          exact go2 _ _ _ _ _ (.inr (.inr (.inr (.inr (.inr (.inl ⟨c1, c2, c3, by rw [c5]; rfl, rfl, rfl⟩)))))) g1 g2
        · rw [if_pos (by omega)]
          exact go2 _ _ _ _ _ (.inr (.inr (.inr (.inr (.inl ⟨c1, c2, c3, by rw [c5]; rfl, rfl, rfl⟩))))) g3 g4
      · rw [if_pos (by omega)]
        exact go2 _ _ _ _ _ (.inr (.inr (.inr (.inl ⟨c1, c2, c3, rfl, rfl⟩)))) g3 g4
    · rw [if_neg c2]
      exact go2 _ _ _ _ _ (.inr (.inr (.inl ⟨c1, by simpa using c2, rfl, rfl⟩))) g1 g2
  · rw [if_neg c1]
    by_cases c2 : hdB lo hi ((V / B + 1) * B) cl = true
    · rw [if_pos c2]
      exact go2 _ _ _ _ _ (.inr (.inl ⟨by simpa using c1, c2, rfl, rfl⟩)) g3 g4
    · rw [if_neg c2]
      exact go2 _ _ _ _ _ (.inl ⟨by simpa using c1, by simpa using c2, rfl⟩) g1 g2
theorem ref12_choose (d : Nat) (hd : d < 18446744073709551616) (hf : finD d) (h0 : absD d ≠ 0) (k j : Int) (hT : Ten (4 * mantD d) (spE d) k) (hj : -420 ≤ j ∧ j ≤ 420) (hjk : j ≤ k) :
    ∃ K, Meets Tryz.prog 35 [spanP ((4 * mantD d : Nat) : Int) (lowM d : Int) ((4 * mantD d + 2 : Nat) : Int) (spE d) (decide (d % 2 = 0)), .int .i64 j] (.tup [.ints .u64 (natL K), .bool (bestD d j).isSome]) ∧ ∀ b, bestD d j = some b → b = K := by
  have hL := look_of hf h0 hT hj hjk
  have hml := mantD_lt d
  have hm0 : mantD d ≠ 0 := fun e => h0 (mantD_zero.1 e)
  obtain ⟨l1, l2⟩ := lowM_bounds d hm0
  have he1 := expD_ge d
  have he2 := expD_le hf
  have he : -1100 ≤ spE d ∧ spE d ≤ 1000 := by unfold spE; omega
  have e60 : (2 : Nat) ^ 60 = 1152921504606846976 := by decide
  have b1 : 4 * mantD d < 2 ^ 60 := by rw [e60]; omega
  have b2 : lowM d < 2 ^ 60 := by rw [e60]; omega
  have b3 : 4 * mantD d + 2 < 2 ^ 60 := by rw [e60]; omega
  obtain ⟨f1, f2, f3, f4, f5⟩ := hL.f0
  have h1 := ref12_scaled (4 * mantD d) (spE d) j b1 he hj
  have hin := fun x hx hxB => ref12_inside (4 * mantD d) (lowM d) (4 * mantD d + 2) x (spE d) j (decide (d % 2 = 0)) b2 b3 he hj hx hxB
  have hfl : 4 * mantD d * upS (spE d) j / beS (spE d) j * beS (spE d) j < 2 ^ 2600 := Nat.lt_of_le_of_lt f3 hL.hV
  have h5 := hin _ (p26 f2) (p26 hfl)
  have h6 := hin _ (p261 f2) (p265 f4)
  unfold bestD
  clear hin b1 b2 b3
  generalize lowM d * upS (spE d) j = lo at *
  generalize 4 * mantD d * upS (spE d) j = V at *
  generalize (4 * mantD d + 2) * upS (spE d) j = hi at *
  generalize beS (spE d) j = B at *
  generalize decide (d % 2 = 0) = cl at *
  have h2 := ref02_divide (p26 hL.hV) hL.hB0 hL.hBV
  have hBl : B < 2 ^ 2700 := p26 (Nat.lt_trans hL.hBl (Nat.pow_lt_pow_right (by decide) (by decide)))
  have hRl : V % B < 2 ^ 2700 := Nat.lt_trans f5 hBl
  have h3 := ref01_size (natL (V % B)) (by have := big_len hRl; omega)
  have h4 := ref01_plus (natL_limbs (V / B)) (natL_limbs 1) (big_len (p26 f2)) (by rw [natL_oneL]; decide) (val_natL _) (val_natL 1)
  rw [natL_oneL] at h4
  have h7 := ref01_less (natL_limbs B) (natL_limbs (V % B)) (big_len hBl) (big_len hRl) (val_natL _) (val_natL _) (Nat.le_of_lt f5)
  have h8 := ref_cmpU (u := V % B) (v := B - V % B) hRl (Nat.lt_of_le_of_lt (Nat.sub_le _ _) hBl)
  have h9 := bit0_ref (v := V / B) (bn_of (p26 f2))
  have hz : decide (((size (natL (V % B)) : Nat) : Int) = 0) = decide (V % B = 0) := decide_eq_decide.2 (by
    rw [size_natL]
    by_cases e : V % B = 0
    · rw [e, natL_zero]; simp
    · have := (natL_ge e).1
      omega)
  have go := fun res hb => choose_walk ((4 * mantD d : Nat) : Int) (lowM d : Int) ((4 * mantD d + 2 : Nat) : Int) (spE d) j cl (natL V) (natL B) (natL (V / B)) (natL (V % B)) (natL (V / B + 1)) _ _ _ _ _ _ _ res hz h1 h2 h3 h4 h5 h6 h7 h8 h9 hb
  clear h1 h2 h3 h4 h5 h6 h7 h8 h9 hz
  have hc := cmpU_cases (V % B) (B - V % B)
  by_cases hr : V % B = 0
  · rw [hL.whole cl hr]
    exact ⟨V / B, go _ (.inl ⟨decide_eq_true hr, rfl⟩), fun b hb => (Option.some.inj hb).symm⟩
  · have dr : decide (V % B = 0) = false := decide_eq_false hr
    have hm2 : V / B % 2 = 0 ∨ V / B % 2 = 1 := by omega
    unfold bestW
    by_cases c1 : hdB lo hi (V / B * B) cl = true
    · rw [if_pos c1]
      by_cases c2 : hdB lo hi ((V / B + 1) * B) cl = true
      · rw [if_pos c2]
        rcases hc with ⟨c3, c4⟩ | ⟨c3, c4⟩ | ⟨c3, c4⟩
        · rw [if_neg (by omega)]
          exact ⟨V / B, go _ (.inr (.inr (.inr (.inr (.inr (.inr ⟨dr, c1, c2, c3, rfl⟩)))))), fun b hb => (Option.some.inj hb).symm⟩
        · rcases hm2 with c5 | c5
          · rw [if_neg (by omega)]
            exact ⟨V / B, go _ (.inr (.inr (.inr (.inr (.inr (.inl ⟨dr, c1, c2, c3, by rw [c5]; rfl, rfl⟩)))))), fun b hb => (Option.some.inj hb).symm⟩
          · rw [if_pos (by omega)]
            exact ⟨V / B + 1, go _ (.inr (.inr (.inr (.inr (.inl ⟨dr, c1, c2, c3, by rw [c5]; rfl, rfl⟩))))), fun b hb => (Option.some.inj hb).symm⟩
        · rw [if_pos (by omega)]
          exact ⟨V / B + 1, go _ (.inr (.inr (.inr (.inl ⟨dr, c1, c2, c3, rfl⟩)))), fun b hb => (Option.some.inj hb).symm⟩
      · rw [if_neg c2]
        exact ⟨V / B, go _ (.inr (.inr (.inl ⟨dr, c1, by simpa using c2, rfl⟩))), fun b hb => (Option.some.inj hb).symm⟩
    · rw [if_neg c1]
      by_cases c2 : hdB lo hi ((V / B + 1) * B) cl = true
      · rw [if_pos c2]
        exact ⟨V / B + 1, go _ (.inr (.inl ⟨dr, by simpa using c1, by rw [c2]; rfl⟩)), fun b hb => (Option.some.inj hb).symm⟩
      · rw [if_neg c2]
        exact ⟨V / B + 1, go _ (.inr (.inl ⟨dr, by simpa using c1, by rw [show hdB lo hi ((V / B + 1) * B) cl = false by simpa using c2]; rfl⟩)), fun b hb => by cases hb⟩
theorem ref_within_walk (d n a e k j : Int) (neg : Bool) (mid lo hi : Int) (cl fd : Bool) (K : List Int) (dec : PV) (t : List Int) (y : Int) (hn : 1 ≤ n ∧ n ≤ 17) (ha : ¬ a = 0) (hj1 : IntKind.wrap .i64 (k + 1) = k + 1) (hj : IntKind.wrap .i64 (k + 1 - n) = j) (hneg : decide (9223372036854775808 ≤ d) = neg)
    (h1 : Meets Tryz.prog 31 [.int .u64 d] (.bool true)) (h2 : Meets Tryz.prog 32 [.int .u64 d] (.int .u64 a)) (h3 : Meets Tryz.prog 33 [.int .u64 d] (spanP mid lo hi e cl)) (h4 : Meets Tryz.prog 34 [.int .u64 mid, .int .i64 e] (.int .i64 k))
    (h5 : Meets Tryz.prog 35 [spanP mid lo hi e cl, .int .i64 j] (.tup [.ints .u64 K, .bool fd])) (hb : (fd = false ∧ dec = .agg [.bool false, .str [], .int .i64 0]) ∨ (fd = true ∧ dec = .agg [.bool neg, .str t, .int .i64 y] ∧ Meets Tryz.prog 36 [.bool neg, .ints .u64 K, .int .i64 j] (.agg [.bool neg, .str t, .int .i64 y]))) :
    Meets Tryz.prog 17 [.int .u64 d, .int .i64 n] (.tup [dec, .bool fd, .int .i64 0]) := by
  have d1 : decide (n < 1) = false := decide_eq_false (by omega)
  have d2 : decide (17 < n) = false := decide_eq_false (by omega)
  have d3 : decide (a = 0) = false := decide_eq_false ha
  rcases hb with ⟨rfl, rfl⟩ | ⟨rfl, rfl, h6⟩
  · skip
    refine meets_by ttOk Tryz.func17 Tryz.ntmps17 Tryz.results17 (by kernel_rfl) (c := _) rfl rfl rfl fun E => ?_
    simp only [argsFrame]
    have W := cj d1 (cj d2 (cj d3 (cj hj1 (cj hj hneg))))
    exact walk
  · skip
    refine meets_by ttOk Tryz.func17 Tryz.ntmps17 Tryz.results17 (by kernel_rfl) (c := _) rfl rfl rfl fun E => ?_
    simp only [argsFrame]
    have W := cj d1 (cj d2 (cj d3 (cj hj1 (cj hj hneg))))
    exact walk
theorem ref12_within (d : Nat) (hd : d < 18446744073709551616) (hf : finD d) (h0 : absD d ≠ 0) (k j : Int) (n : Nat) (hn : 1 ≤ n ∧ n ≤ 17) (hk : -400 ≤ k ∧ k < 400) (hT : Ten (4 * mantD d) (spE d) k) (hj : k + 1 - n = j) :
    Meets Tryz.prog 17 [.int .u64 (d : Int), .int .i64 (n : Int)] (.tup [decR (negD d) j (bestD d j), .bool (bestD d j).isSome, .int .i64 0]) := by
  have hj2 : -420 ≤ j ∧ j ≤ 420 := by omega
  have h1 := ref04_finite d hd
  rw [decide_eq_true hf] at h1
  have hm0 : mantD d ≠ 0 := fun e => h0 (mantD_zero.1 e)
  have hml := mantD_lt d
  have he1 := expD_ge d
  have he2 := expD_le hf
  have he : -1100 ≤ spE d ∧ spE d ≤ 1000 := by unfold spE; omega
  have e60 : (2 : Nat) ^ 60 = 1152921504606846976 := by decide
  have h4 := ref12_tens (4 * mantD d) (spE d) k (by omega) (by rw [e60]; omega) he hk hT
  obtain ⟨K, h5, hK⟩ := ref12_choose d hd hf h0 k j hT hj2 (by omega)
  have hL := (look_of hf h0 hT hj2 (by omega)).f0
  have hbK : ∀ b, bestD d j = some b → b ≠ 0 ∧ b < 2 ^ 2700 := fun b hb => by
    unfold bestD at hb
    obtain ⟨f1, f2, _, _, _⟩ := hL
    rcases bestW_cases (lowM d * upS (spE d) j) (4 * mantD d * upS (spE d) j) ((4 * mantD d + 2) * upS (spE d) j) (beS (spE d) j) (decide (d % 2 = 0)) with h | h | h
    · rw [h] at hb; cases hb
    · rw [h] at hb
      obtain rfl := Option.some.inj hb
      exact ⟨by omega, p26 f2⟩
    · rw [h] at hb
      obtain rfl := Option.some.inj hb
      exact ⟨by omega, p261 f2⟩
  have hneg : decide (9223372036854775808 ≤ (d : Int)) = negD d := decide_eq_decide.2 (by omega)
  have hj1 : IntKind.wrap .i64 (k + 1) = k + 1 := wrap_i64 (by omega)
  have hj3 : IntKind.wrap .i64 (k + 1 - (n : Int)) = j := by rw [wrap_i64 (by omega)]; exact hj
  generalize bestD d j = o at *
  cases o with
  | none => exact ref_within_walk _ _ _ _ _ _ _ _ _ _ _ _ _ _ [] 0 (by omega) (by omega) hj1 hj3 hneg h1 (ref04_abs d hd) (ref12_span d hd hf h0) h4 h5 (.inl ⟨rfl, rfl⟩)
  | some b =>
    obtain rfl := hK b rfl
    obtain ⟨b1, b2⟩ := hbK b rfl
    have hwl := written_le b1 b2
    exact ref_within_walk _ _ _ _ _ _ _ _ _ _ _ _ _ _ _ _ (by omega) (by omega) hj1 hj3 hneg h1 (ref04_abs d hd) (ref12_span d hd hf h0) h4 h5 (.inr ⟨rfl, rfl, ref12_normal (negD d) (natL b) (written 10 false b) j (by omega) (ref_digits_natU (bn_of b2)) (written_ne (by decide) false b) (written_head b1) (by omega)⟩)
def firstD (d : Nat) (k : Int) : Nat → Nat → PV
  | 0, _ => .agg [.bool false, .str [], .int .i64 0]
  | m + 1, n => if (bestD d (k + 1 - n)).isSome then decR (negD d) (k + 1 - n) (bestD d (k + 1 - n)) else firstD d k m (n + 1)
def shortP (d : Nat) (k : Int) : PV := firstD d k 17 1
theorem decR_none (neg : Bool) (j : Int) {o : Option Nat} (h : ¬ o.isSome = true) : decR neg j o = .agg [.bool false, .str [], .int .i64 0] := by
  cases o with
  | none => rfl
  | some b => exact absurd rfl h
theorem decR_dec (neg : Bool) (j : Int) (o : Option Nat) : ∃ a s x, decR neg j o = .agg [.bool a, .str s, .int .i64 x] := by
  cases o <;> exact ⟨_, _, _, rfl⟩
theorem first_dec (d : Nat) (k : Int) : ∀ m n, ∃ a s x, firstD d k m n = .agg [.bool a, .str s, .int .i64 x]
  | 0, n => ⟨_, _, _, rfl⟩
  | m + 1, n => by
    rw [firstD]
    split
    · exact decR_dec _ _ _
    · exact first_dec d k m (n + 1)
abbrev sdF (d k : Int) (n : Nat) : PV.Frame := [(5, .int .i64 (n : Int)), (4, .int .i64 k), (0, .int .u64 d), (2, .ptr 0 0 0), (3, .int .i64 0)]
abbrev sdH : PV.Heap := ⟨1, [(0, .var [.bool false, .str [], .int .i64 0])], [], []⟩
theorem short_digits (d : Nat) (hd : d < 18446744073709551616) (hf : finD d) (h0 : absD d ≠ 0) (k : Int) (hk : -400 ≤ k ∧ k < 400) (hT : Ten (4 * mantD d) (spE d) k) :
    Meets Tryz.prog 13 [.int .u64 (d : Int)] (.tup [shortP d k, .int .i64 0]) := by
  have h1 := short_finite d hd
  rw [decide_eq_true hf] at h1
  have h2 := ieee_class d hd
  have hc : decide (classD d = 0) = false := decide_eq_false fun e => by unfold classD at e; rw [if_neg h0] at e; (repeat' split at e) <;> omega
  have h3 := short_leading d hd hf h0 k hk hT
  have hw := fun (n : Nat) (hn : 1 ≤ n ∧ n ≤ 17) => short_within d hd hf h0 k _ n hn hk hT rfl
  obtain ⟨ra, rs, rx, hR⟩ := first_dec d k 17 1
  have hR2 := hR
  unfold shortP
  rw [hR]
  have hstep : ∀ m n, firstD d k (m + 1) n = if (bestD d (k + 1 - n)).isSome then decR (negD d) (k + 1 - n) (bestD d (k + 1 - n)) else firstD d k m (n + 1) := fun m n => rfl
  have hlast : ∀ n, firstD d k 0 n = .agg [.bool false, .str [], .int .i64 0] := fun n => rfl
  generalize firstD d k = fD at *
  generalize bestD d = bD at *
  generalize negD d = ng at *
  generalize classD d = cl at *
  clear hT
  refine meets_by ttOk Tryz.func13 Tryz.ntmps13 Tryz.results13 (by kernel_rfl) (c := _) rfl rfl rfl fun E => ?_
  simp only [argsFrame]
  have W := hc
  refine walk1 ?_
  refine PW.loopA (fun m F H => ∃ n : Nat, n + m = 17 ∧ 1 ≤ n ∧ fD (m + 1) n = .agg [.bool ra, .str rs, .int .i64 rx] ∧ F = sdF d k n ∧ H = sdH) 16 (sdF d k 1) sdH (Sub.norm ⟨rfl, rfl, rfl, rfl, rfl, trivial⟩ ⟨rfl, trivial⟩ (Nat.le_refl _) rfl rfl rfl rfl) ⟨1, by omega, by omega, hR2, rfl, rfl⟩ ?_
  clear hR hR2
  rintro m F H ⟨n, hn, hn1, hR, rfl, rfl⟩
  have hW := hw n (by omega)
  rw [hstep] at hR
  obtain ⟨wa, ws, wx, hdr⟩ := decR_dec ng (k + 1 - n) (bD (k + 1 - n))
  have hnone := @decR_none ng (k + 1 - n) (bD (k + 1 - n))
  rw [hdr] at hR hW hnone
  generalize hsm : (bD (k + 1 - n)).isSome = sm at *
  clear hw hsm hdr
  cases sm with
  | true =>
    rw [if_pos rfl] at hR
    rw [hR] at hW
    exact walk
  | false =>
    rw [if_neg (by decide)] at hR
    cases m with
    | zero =>
      obtain rfl : n = 17 := by omega
      rw [hlast] at hR
      rw [hnone (by decide), hR] at hW
      exact walk
    | succ m =>
      have d1 : decide ((n : Int) = 17) = false := decide_eq_false (by omega)
      have w1 : IntKind.wrap .i64 ((n : Int) + 1) = ((n + 1 : Nat) : Int) := wrap_i64 (by omega)
      have W := cj d1 w1
      refine walk1 ?_
      exact Again.mk m (sdF d k (n + 1)) sdH (by omega) (Sub.norm ⟨rfl, rfl, rfl, rfl, rfl, trivial⟩ ⟨rfl, trivial⟩ (by simp) rfl rfl rfl rfl) ⟨n + 1, by omega, by omega, hR, rfl, rfl⟩
abbrev rdF (d : Int) (n : Nat) : PV.Frame := [(4, .int .i64 (n : Int)), (0, .int .u64 d), (2, .ptr 0 0 0), (3, .int .i64 0)]
theorem ref12_digits (d : Nat) (hd : d < 18446744073709551616) (hf : finD d) (h0 : absD d ≠ 0) (k : Int) (hk : -400 ≤ k ∧ k < 400) (hT : Ten (4 * mantD d) (spE d) k) :
    ∃ e : Int, Meets Tryz.prog 16 [.int .u64 (d : Int)] (.tup [shortP d k, .int .i64 e]) ∧ ((∃ n : Nat, 1 ≤ n ∧ n ≤ 17 ∧ (bestD d (k + 1 - n)).isSome = true) → e = 0) := by
  have hw := fun (n : Nat) (hn : 1 ≤ n ∧ n ≤ 17) => ref12_within d hd hf h0 k _ n hn hk hT rfl
  obtain ⟨ra, rs, rx, hR⟩ := first_dec d k 17 1
  have hR2 := hR
  unfold shortP
  rw [hR]
  have hstep : ∀ m n, firstD d k (m + 1) n = if (bestD d (k + 1 - n)).isSome then decR (negD d) (k + 1 - n) (bestD d (k + 1 - n)) else firstD d k m (n + 1) := fun m n => rfl
  have hlast : ∀ n, firstD d k 0 n = .agg [.bool false, .str [], .int .i64 0] := fun n => rfl
  obtain ⟨rest, hrest⟩ : ∃ rest : Bool, rest = true ↔ ∃ n : Nat, 1 ≤ n ∧ n ≤ 17 ∧ (bestD d (k + 1 - n)).isSome = true := by
    by_cases h : ∃ n : Nat, 1 ≤ n ∧ n ≤ 17 ∧ (bestD d (k + 1 - n)).isSome = true
    · exact ⟨true, fun _ => h, fun _ => rfl⟩
    · exact ⟨false, fun h2 => (by cases h2), fun h2 => absurd h2 h⟩
  refine ⟨if rest then 0 else 80, ?_, fun h => by rw [hrest.2 h]; rfl⟩
  have hany : ∀ n : Nat, 1 ≤ n → n ≤ 17 → (bestD d (k + 1 - n)).isSome = true → rest = true := fun n h1 h2 h3 => hrest.2 ⟨n, h1, h2, h3⟩
  have hall : (∀ n : Nat, 1 ≤ n → n ≤ 17 → ¬ (bestD d (k + 1 - n)).isSome = true) → rest = false := fun h => by
    cases hr : rest with
    | false => rfl
    | true =>
      obtain ⟨n, h1, h2, h3⟩ := hrest.1 hr
      exact absurd h3 (h n h1 h2)
  clear hrest
  generalize firstD d k = fD at *
  generalize bestD d = bD at *
  generalize negD d = ng at *
  clear hT
  refine meets_by ttOk Tryz.func16 Tryz.ntmps16 Tryz.results16 (by kernel_rfl) (c := _) rfl rfl rfl fun E => ?_
  simp only [argsFrame]
  refine walk1 ?_
  refine PW.loopA (fun m F H => ∃ n : Nat, n + m = 18 ∧ 1 ≤ n ∧ fD m n = .agg [.bool ra, .str rs, .int .i64 rx] ∧ (∀ i : Nat, 1 ≤ i → i < n → ¬ (bD (k + 1 - i)).isSome = true) ∧ F = rdF d n ∧ H = sdH) 17 (rdF d 1) sdH (Sub.norm ⟨rfl, rfl, rfl, rfl, trivial⟩ ⟨rfl, trivial⟩ (Nat.le_refl _) rfl rfl rfl rfl) ⟨1, by omega, by omega, hR2, fun i h1 h2 => by omega, rfl, rfl⟩ ?_
  clear hR hR2
  rintro m F H ⟨n, hn, hn1, hR, hpast, rfl, rfl⟩
  cases m with
  | zero =>
    obtain rfl : n = 18 := by omega
    rw [hlast] at hR
    injection hR with hR
    injection hR with hR1 hR
    injection hR with hR2 hR
    injection hR with hR3 hR
    injection hR1 with hR1
    injection hR2 with hR2
    injection hR3 with hR3 hR4
    subst hR1 hR2 hR4
    rw [hall fun i h1 h2 => hpast i h1 (by omega), if_neg (by decide)]
    exact walk
  | succ m =>
    have d0 : decide ((n : Int) ≤ 17) = true := decide_eq_true (by omega)
    have hW := hw n (by omega)
    have hny := hany n hn1 (by omega)
    have hpast2 : ¬ (bD (k + 1 - n)).isSome = true → ∀ i : Nat, 1 ≤ i → i < n + 1 → ¬ (bD (k + 1 - i)).isSome = true := fun h i h1 h2 => by
      by_cases e : i = n
      · subst e; exact h
      · exact hpast i h1 (by omega)
    clear hpast
    rw [hstep] at hR
    obtain ⟨wa, ws, wx, hdr⟩ := decR_dec ng (k + 1 - n) (bD (k + 1 - n))
    rw [hdr] at hR hW
    generalize hsm : (bD (k + 1 - n)).isSome = sm at *
    clear hw hdr hany
    cases sm with
    | true =>
      rw [if_pos rfl] at hR
      rw [hR] at hW
      rw [hny rfl, if_pos rfl]
      have W := d0
      exact walk
    | false =>
      rw [if_neg (by decide)] at hR
      have w1 : IntKind.wrap .i64 ((n : Int) + 1) = ((n + 1 : Nat) : Int) := wrap_i64 (by omega)
      have W := cj d0 w1
      refine walk1 ?_
      exact Again.mk m (rdF d (n + 1)) sdH (by omega) (Sub.norm ⟨rfl, rfl, rfl, rfl, trivial⟩ ⟨rfl, trivial⟩ (by simp) rfl rfl rfl rfl) ⟨n + 1, by omega, by omega, hR, hpast2 (by decide), rfl, rfl⟩
theorem meets_lib {f : FuncId} {fn : Func} {c : Code} {args : List PV} {res : PV} (hf : Tryz.prog.funcs[f]? = some fn) (hname : (fn.name == "runtime.NumGoroutine") = false) (hb : fn.body = some c)
    (h : ∀ (w : World) (A : Nat → Prop) (vs : Array Value), args.length = vs.size → (∀ i, i < args.length → RD w A (args.getD i .undef) (vs.getD i undef)) →
      ∃ v, (∀ w' A, RD w' A res v) ∧ Calls Tryz.prog f vs w fun e w' => e = .returned v ∧ Go.RowKit.Below w.heap.size w w') : Meets Tryz.prog f args res := by
  refine ⟨fun w A vs hA hl ha => ?_⟩
  obtain ⟨v, hv, hc⟩ := h w A vs hl ha
  exact .inl ⟨call_enters hf hname hb vs w, hc.mono fun e w' ⟨he, hbel⟩ => ⟨v, he, hbel, hv _ _⟩⟩
theorem two_args {w : World} {A : Nat → Prop} {p q : PV} {vs : Array Value} (hl : [p, q].length = vs.size) (ha : ∀ i, i < [p, q].length → RD w A ([p, q].getD i .undef) (vs.getD i undef)) : ∃ u v, vs = #[u, v] ∧ RD w A p u ∧ RD w A q v := by
  have hs : vs.size = 2 := by simpa using hl.symm
  refine ⟨vs[0], vs[1], Array.ext (by simp [hs]) fun i h1 h2 => ?_, ?_, ?_⟩
  · match i, h1, h2 with
    | 0, _, _ => rfl
    | 1, _, _ => rfl
    | i + 2, h1, _ => omega
  · have := ha 0 (by simp)
    simpa [Array.getD, hs] using this
  · have := ha 1 (by simp)
    simpa [Array.getD, hs] using this
theorem bytes_of {s : ByteArray} {l : List Int} (h : bytesI s = l) : s.data.toList = l.map fun x => x.toNat.toUInt8 := by
  subst h
  unfold bytesI
  rw [List.map_map]
  refine (List.map_id _).symm.trans (List.map_congr_left fun b _ => ?_)
  simp
theorem repeatL_one (y : UInt8) : ∀ c, Lib.repeatL [y] c = List.replicate c y
  | 0 => rfl
  | c + 1 => by rw [Lib.repeatL, repeatL_one y c]; rfl
theorem repeat_byte (x : Int) (hx : 0 ≤ x ∧ x < 256) (c : Nat) (hc : c ≤ 1000000000) : Meets Tryz.prog 22 [.str [x], .int .i64 (c : Int)] (.str (List.replicate c x)) := by
  refine meets_lib Tryz.func22 (by kernel_rfl) (c := _) rfl fun w A vs hl ha => ?_
  obtain ⟨u, v, rfl, h1, h2⟩ := two_args hl ha
  obtain rfl := rd_int h2
  cases h1 with
  | str s _ h =>
    have hb := bytes_of h
    have hsz : s.size = 1 := by
      have := bytesI_length s
      rw [h] at this
      simpa using this.symm
    refine ⟨.string ⟨(Lib.repeatL s.data.toList c).toArray⟩, fun w' A => .str _ _ ?_, Tryz.strings_Repeat s c w (by omega) (by rw [hsz]; omega)⟩
    rw [hb]
    simp only [List.map_cons, List.map_nil, repeatL_one]
    unfold bytesI
    simp only [List.map_replicate]
    congr 1
    simp
    omega
def itoaI (n : Int) : List Int := bytesI ⟨(Lib.itoa n).toArray⟩
theorem heap_grow_old' (w : World) (k : Nat) (os : Array Obj) (j : Nat) (hj : j < w.heap.size) : (Go.Sort.grow (w.drewN k) os).heap[j]? = w.heap[j]? := by
  show (w.heap ++ os)[j]? = _
  rw [Array.getElem?_append_left hj]
theorem itoa_meets (n : Int) (hn : -9223372036854775808 ≤ n ∧ n ≤ 9223372036854775807) : Meets Tryz.prog 23 [.int .i64 n] (.str (itoaI n)) := by
  refine ⟨fun w A vs hA hl ha => .inl ⟨call_enters Tryz.func23 (by kernel_rfl) (c := _) rfl vs w, ?_⟩⟩
  have hs : vs.size = 1 := by simpa using hl.symm
  obtain ⟨v, rfl⟩ : ∃ v, vs = #[v] := ⟨vs[0], Array.ext (by simp [hs]) fun i h1 h2 => by
    have : i = 0 := by omega
    subst this; rfl⟩
  have h0 := ha 0 (by simp)
  simp only [List.getD_cons_zero, Array.getD] at h0
  obtain rfl := rd_int h0
  have htab : Lib.TabIs Tryz.prog w "internal/strconv.uint64pow10" .u64 Lib.pow10Tab := by
    obtain ⟨gl, hg, hn⟩ := Option.map_eq_some_iff.1 (show (Tryz.prog.globals[1]?).map (·.name) = some "internal/strconv.uint64pow10" by kernel_rfl)
    obtain ⟨el, fr, h1⟩ := hA.1 1 gl (.u64, (List.range 20).map fun i => ((10 ^ i : Nat) : Int)) hg (by rw [hn]; rfl)
    unfold Lib.TabIs World.var?
    rw [show Tryz.prog.globalNamed "internal/strconv.uint64pow10" = some 1 by kernel_rfl]
    simp only [Option.bind_some]
    rw [h1]
    rfl
  refine (Tryz.strconv_Itoa n hn.1 hn.2 w htab).mono fun e w' ⟨he, k, os, hw⟩ => ⟨_, he, ?_, .str _ _ rfl⟩
  rw [hw]
  exact ⟨rfl, rfl, rfl, by show w.heap.size ≤ (w.heap ++ os).size; rw [Array.size_append]; omega, fun j hj => heap_grow_old' w k os j hj⟩
theorem ref_zeros (n : Nat) (hn : n ≤ 100000) : Meets Tryz.prog 51 [.int .i64 (n : Int)] (.str (List.replicate n 48)) := by
  refine meets_by ttOk Tryz.func51 Tryz.ntmps51 Tryz.results51 (by kernel_rfl) (c := _) rfl rfl rfl fun E => ?_
  simp only [argsFrame]
  refine walk1 ?_
  refine PW.loopA (fun m F H => ∃ i s, i + m = n ∧ s = List.replicate i (48 : Int) ∧ F = [(4, .int .i64 (i : Int)), (3, .str s), (0, .int .i64 (n : Int))] ∧ H = ⟨0, [], [], []⟩) n [(4, .int .i64 ((0 : Nat) : Int)), (3, .str []), (0, .int .i64 (n : Int))] ⟨0, [], [], []⟩ (Sub.norm ⟨rfl, rfl, rfl, trivial⟩ trivial (by simp) rfl rfl rfl rfl) ⟨0, [], by omega, rfl, rfl, rfl⟩ ?_
  rintro m F H ⟨i, s, hi, hs, rfl, rfl⟩
  have hsl : s.length = i := by rw [hs, List.length_replicate]
  cases m with
  | zero =>
    obtain rfl : i = n := by omega
    rw [← hs]
    have d1 : decide ((i : Int) < (i : Int)) = false := decide_eq_false (by omega)
    have W := d1
    exact walk
  | succ m =>
    have d1 : decide ((i : Int) < (n : Int)) = true := decide_eq_true (by omega)
    have w1 : IntKind.wrap .i64 ((i : Int) + 1) = ((i + 1 : Nat) : Int) := wrap_i64 (by omega)
    have hs2 : s ++ [48] = List.replicate (i + 1) 48 := by rw [hs, List.replicate_succ']
    have W := cj d1 w1
    refine walk1 ?_
    exact Again.mk m [(4, .int .i64 ((i + 1 : Nat) : Int)), (3, .str (s ++ [48])), (0, .int .i64 (n : Int))] ⟨0, [], [], []⟩ (by omega) (Sub.norm ⟨rfl, rfl, rfl, trivial⟩ trivial (by simp) rfl rfl rfl rfl) ⟨i + 1, _, by omega, hs2, rfl, rfl⟩
def Lay (s : List Int) (p : Int) (q : Nat) (T res : List Int) : Prop :=
  (0 < p ∧ p ≤ 21 ∧ (s.length : Int) ≤ p ∧ p - s.length = q ∧ res = s ++ List.replicate q 48) ∨
  (0 < p ∧ p ≤ 21 ∧ ¬ (s.length : Int) ≤ p ∧ p = q ∧ res = s.take q ++ 46 :: s.drop q) ∨
  (-6 < p ∧ p ≤ 0 ∧ 0 - p = q ∧ res = 48 :: 46 :: (List.replicate q 48 ++ s)) ∨
  (21 < p ∧ 1 < s.length ∧ p - 1 = q ∧ res = s.take 1 ++ 46 :: (s.drop 1 ++ 101 :: 43 :: T)) ∨
  (21 < p ∧ s.length = 1 ∧ p - 1 = q ∧ res = s.take 1 ++ 101 :: 43 :: T) ∨
  (p ≤ -6 ∧ 1 < s.length ∧ 0 - (p - 1) = q ∧ q < 10 ∧ res = s.take 1 ++ 46 :: (s.drop 1 ++ 101 :: 45 :: 48 :: T)) ∨
  (p ≤ -6 ∧ s.length = 1 ∧ 0 - (p - 1) = q ∧ q < 10 ∧ res = s.take 1 ++ 101 :: 45 :: 48 :: T) ∨
  (p ≤ -6 ∧ 1 < s.length ∧ 0 - (p - 1) = q ∧ ¬ q < 10 ∧ res = s.take 1 ++ 46 :: (s.drop 1 ++ 101 :: 45 :: T)) ∨
  (p ≤ -6 ∧ s.length = 1 ∧ 0 - (p - 1) = q ∧ ¬ q < 10 ∧ res = s.take 1 ++ 101 :: 45 :: T)
theorem lay_ex (s : List Int) (p : Int) (hs : s = [] → p = 0) (T : Nat → List Int) : ∃ q res, Lay s p q (T q) res := by
  have hp : s.length = 0 → p = 0 := fun h => hs (List.eq_nil_of_length_eq_zero h)
  unfold Lay
  by_cases h1 : 21 < p
  · by_cases h2 : 1 < s.length
    · exact ⟨(p - 1).toNat, _, .inr (.inr (.inr (.inl ⟨h1, h2, by omega, rfl⟩)))⟩
    · exact ⟨(p - 1).toNat, _, .inr (.inr (.inr (.inr (.inl ⟨h1, by omega, by omega, rfl⟩))))⟩
  · by_cases h2 : 0 < p
    · by_cases h3 : (s.length : Int) ≤ p
      · exact ⟨(p - s.length).toNat, _, .inl ⟨h2, by omega, h3, by omega, rfl⟩⟩
      · exact ⟨p.toNat, _, .inr (.inl ⟨h2, by omega, h3, by omega, rfl⟩)⟩
    · by_cases h3 : -6 < p
      · exact ⟨(0 - p).toNat, _, .inr (.inr (.inl ⟨h3, by omega, by omega, rfl⟩))⟩
      · by_cases h4 : 1 < s.length
        · by_cases h5 : (0 - (p - 1)).toNat < 10
          · exact ⟨(0 - (p - 1)).toNat, _, .inr (.inr (.inr (.inr (.inr (.inl ⟨by omega, h4, by omega, h5, rfl⟩)))))⟩
          · exact ⟨(0 - (p - 1)).toNat, _, .inr (.inr (.inr (.inr (.inr (.inr (.inr (.inl ⟨by omega, h4, by omega, h5, rfl⟩)))))))⟩
        · by_cases h5 : (0 - (p - 1)).toNat < 10
          · exact ⟨(0 - (p - 1)).toNat, _, .inr (.inr (.inr (.inr (.inr (.inr (.inl ⟨by omega, by omega, by omega, h5, rfl⟩))))))⟩
          · exact ⟨(0 - (p - 1)).toNat, _, .inr (.inr (.inr (.inr (.inr (.inr (.inr (.inr ⟨by omega, by omega, by omega, h5, rfl⟩)))))))⟩
theorem layout_walk (s : List Int) (p : Int) (q : Nat) (T res : List Int) (hsl : s.length ≤ 1000) (hp : -5000 ≤ p ∧ p ≤ 5000) (h : Lay s p q T res) (h1 : Meets Tryz.prog 51 [.int .i64 (q : Int)] (.str (List.replicate q 48))) (h2 : Meets Tryz.prog 23 [.int .i64 (q : Int)] (.str T)) (hT : T.length ≤ 1000) :
    Meets Tryz.prog 25 [.str s, .int .i64 p] (.str res) := by
  have w1 : IntKind.wrap .i64 (p - 1) = p - 1 := wrap_i64 (by omega)
  have w2 : IntKind.wrap .i64 (0 - p) = 0 - p := wrap_i64 (by omega)
  have w3 : IntKind.wrap .i64 (0 - (p - 1)) = 0 - (p - 1) := wrap_i64 (by omega)
  have w4 : IntKind.wrap .i64 (p - (s.length : Int)) = p - s.length := wrap_i64 (by omega)
  have e1 : ∀ x : List Int, 1 + x.length = x.length + 1 := fun x => Nat.add_comm _ _
  rcases h with ⟨c1, c2, c3, c4, rfl⟩ | ⟨c1, c2, c3, c4, rfl⟩ | ⟨c1, c2, c4, rfl⟩ | ⟨c1, c3, c4, rfl⟩ | ⟨c1, c3, c4, rfl⟩ | ⟨c1, c3, c4, c5, rfl⟩ | ⟨c1, c3, c4, c5, rfl⟩ | ⟨c1, c3, c4, c5, rfl⟩ | ⟨c1, c3, c4, c5, rfl⟩
  case' inl =>
    have d1 : decide (0 < p) = true := decide_eq_true c1
    have d2 : decide (p ≤ 21) = true := decide_eq_true c2
    have d3 : decide ((s.length : Int) ≤ p) = true := decide_eq_true c3
    have d4 : decide (-6 < p) = true := decide_eq_true (by omega)
    have d5 : decide (p ≤ 0) = false := decide_eq_false (by omega)
    have d6 : True := trivial
    have d7 : True := trivial
    have d8 : True := trivial
  case' inr.inl =>
    have d1 : decide (0 < p) = true := decide_eq_true c1
    have d2 : decide (p ≤ 21) = true := decide_eq_true c2
    have d3 : decide ((s.length : Int) ≤ p) = false := decide_eq_false c3
    have d4 : decide (-6 < p) = true := decide_eq_true (by omega)
    have d5 : decide (p ≤ 0) = false := decide_eq_false (by omega)
    have d6 : True := trivial
    have d7 : True := trivial
    have d8 : True := trivial
  case' inr.inr.inl =>
    have d1 : decide (0 < p) = false := decide_eq_false (by omega)
    have d2 : decide (p ≤ 21) = true := decide_eq_true (by omega)
    have d3 : True := trivial
    have d4 : decide (-6 < p) = true := decide_eq_true (by omega)
    have d5 : decide (p ≤ 0) = true := decide_eq_true c2
    have d6 : True := trivial
    have d7 : True := trivial
    have d8 : True := trivial
  case' inr.inr.inr.inl =>
    have d1 : decide (0 < p) = true := decide_eq_true (by omega)
    have d2 : decide (p ≤ 21) = false := decide_eq_false (by omega)
    have d3 : True := trivial
    have d4 : decide (-6 < p) = true := decide_eq_true (by omega)
    have d5 : decide (p ≤ 0) = false := decide_eq_false (by omega)
    have d6 : decide ((1 : Int) < (s.length : Int)) = true := decide_eq_true (by omega)
    have d7 : decide ((q : Int) < 0) = false := decide_eq_false (by omega)
    have d8 : decide ((q : Int) < 10) = false := decide_eq_false (by omega)
  case' inr.inr.inr.inr.inl =>
    have d1 : decide (0 < p) = true := decide_eq_true (by omega)
    have d2 : decide (p ≤ 21) = false := decide_eq_false (by omega)
    have d3 : True := trivial
    have d4 : decide (-6 < p) = true := decide_eq_true (by omega)
    have d5 : decide (p ≤ 0) = false := decide_eq_false (by omega)
    have d6 : decide ((1 : Int) < (s.length : Int)) = false := decide_eq_false (by omega)
    have d7 : decide ((q : Int) < 0) = false := decide_eq_false (by omega)
    have d8 : decide ((q : Int) < 10) = false := decide_eq_false (by omega)
  case' inr.inr.inr.inr.inr.inl =>
    have d1 : decide (0 < p) = false := decide_eq_false (by omega)
    have d2 : decide (p ≤ 21) = true := decide_eq_true (by omega)
    have d3 : True := trivial
    have d4 : decide (-6 < p) = false := decide_eq_false (by omega)
    have d5 : decide (p ≤ 0) = true := decide_eq_true (by omega)
    have d6 : decide ((1 : Int) < (s.length : Int)) = true := decide_eq_true (by omega)
    have d7 : decide (p - 1 < 0) = true := decide_eq_true (by omega)
    have d8 : decide ((q : Int) < 10) = true := decide_eq_true (by omega)
  case' inr.inr.inr.inr.inr.inr.inl =>
    have d1 : decide (0 < p) = false := decide_eq_false (by omega)
    have d2 : decide (p ≤ 21) = true := decide_eq_true (by omega)
    have d3 : True := trivial
    have d4 : decide (-6 < p) = false := decide_eq_false (by omega)
    have d5 : decide (p ≤ 0) = true := decide_eq_true (by omega)
    have d6 : decide ((1 : Int) < (s.length : Int)) = false := decide_eq_false (by omega)
    have d7 : decide (p - 1 < 0) = true := decide_eq_true (by omega)
    have d8 : decide ((q : Int) < 10) = true := decide_eq_true (by omega)
  case' inr.inr.inr.inr.inr.inr.inr.inl =>
    have d1 : decide (0 < p) = false := decide_eq_false (by omega)
    have d2 : decide (p ≤ 21) = true := decide_eq_true (by omega)
    have d3 : True := trivial
    have d4 : decide (-6 < p) = false := decide_eq_false (by omega)
    have d5 : decide (p ≤ 0) = true := decide_eq_true (by omega)
    have d6 : decide ((1 : Int) < (s.length : Int)) = true := decide_eq_true (by omega)
    have d7 : decide (p - 1 < 0) = true := decide_eq_true (by omega)
    have d8 : decide ((q : Int) < 10) = false := decide_eq_false (by omega)
  case' inr.inr.inr.inr.inr.inr.inr.inr =>
    have d1 : decide (0 < p) = false := decide_eq_false (by omega)
    have d2 : decide (p ≤ 21) = true := decide_eq_true (by omega)
    have d3 : True := trivial
    have d4 : decide (-6 < p) = false := decide_eq_false (by omega)
    have d5 : decide (p ≤ 0) = true := decide_eq_true (by omega)
    have d6 : decide ((1 : Int) < (s.length : Int)) = false := decide_eq_false (by omega)
    have d7 : decide (p - 1 < 0) = true := decide_eq_true (by omega)
    have d8 : decide ((q : Int) < 10) = false := decide_eq_false (by omega)
  all_goals have wq : IntKind.wrap .i64 (q : Int) = (q : Int) := wrap_i64 (by omega)
  all_goals (refine meets_by ttOk Tryz.func25 Tryz.ntmps25 Tryz.results25 (by kernel_rfl) (c := _) rfl rfl rfl fun E => ?_; simp only [argsFrame])
  all_goals
    have W := cj w1 (cj w2 (cj w3 (cj w4 (cj wq (cj c4 (cj d1 (cj d2 (cj d3 (cj d4 (cj d5 (cj d6 (cj d7 (cj d8 Int.toNat_natCast)))))))))))))
    exact walk
def sgL (ng : Bool) : List Int := if ng then [45] else []
theorem ref_text_odd (d c : Int) (ng : Bool) (w : List Int) (hneg : decide (9223372036854775808 ≤ d) = ng) (h1 : Meets Tryz.prog 24 [.int .u64 d] (.int .i64 c)) (hc : (c = 4 ∧ w = [110, 97, 110]) ∨ (c = 3 ∧ w = [105, 110, 102]) ∨ (c = 0 ∧ w = [48])) : Meets Tryz.prog 12 [.int .u64 d] (.str (sgL ng ++ w)) := by
  cases ng
  all_goals rcases hc with ⟨rfl, rfl⟩ | ⟨rfl, rfl⟩ | ⟨rfl, rfl⟩
  all_goals (refine meets_by ttOk Tryz.func12 Tryz.ntmps12 Tryz.results12 (by kernel_rfl) (c := _) rfl rfl rfl fun E => ?_; simp only [argsFrame])
  all_goals
    have W := hneg
    refine walk1 ?_
  all_goals rfl
theorem ref_text_walk (d c e : Int) (ng a : Bool) (s res : List Int) (x p : Int) (hneg : decide (9223372036854775808 ≤ d) = ng) (hc : decide (c = 4) = false ∧ decide (c = 3) = false ∧ decide (c = 0) = false) (hp : IntKind.wrap .i64 (x + (s.length : Int)) = p) (h1 : Meets Tryz.prog 24 [.int .u64 d] (.int .i64 c)) (h2 : Meets Tryz.prog 16 [.int .u64 d] (.tup [.agg [.bool a, .str s, .int .i64 x], .int .i64 e]))
    (h3 : Meets Tryz.prog 25 [.str s, .int .i64 p] (.str res)) (hr : res.length ≤ 100000) : Meets Tryz.prog 12 [.int .u64 d] (.str (sgL ng ++ res)) := by
  obtain ⟨c1, c2, c3⟩ := hc
  cases ng
  all_goals (refine meets_by ttOk Tryz.func12 Tryz.ntmps12 Tryz.results12 (by kernel_rfl) (c := _) rfl rfl rfl fun E => ?_; simp only [argsFrame])
  all_goals
    have W := cj hneg (cj hp (cj c1 (cj c2 c3)))
    refine walk1 ?_
  all_goals rfl
theorem text_odd (d c : Int) (ng : Bool) (w : List Int) (hneg : decide (9223372036854775808 ≤ d) = ng) (h1 : Meets Tryz.prog 21 [.int .u64 d] (.int .i64 c)) (hc : (c = 4 ∧ w = [110, 97, 110]) ∨ (c = 3 ∧ w = [105, 110, 102]) ∨ (c = 0 ∧ w = [48])) : Meets Tryz.prog 11 [.int .u64 d] (.str (sgL ng ++ w)) := by
  cases ng
  all_goals rcases hc with ⟨rfl, rfl⟩ | ⟨rfl, rfl⟩ | ⟨rfl, rfl⟩
  all_goals (refine meets_by ttOk Tryz.func11 Tryz.ntmps11 Tryz.results11 (by kernel_rfl) (c := _) rfl rfl rfl fun E => ?_; simp only [argsFrame])
  all_goals
    have W := hneg
    refine walk1 ?_
  all_goals rfl
theorem text_walk (d c e : Int) (ng a : Bool) (s res T : List Int) (x p : Int) (q : Nat) (hneg : decide (9223372036854775808 ≤ d) = ng) (hc : decide (c = 4) = false ∧ decide (c = 3) = false ∧ decide (c = 0) = false) (hx : IntKind.wrap .i64 ((s.length : Int) + x) = p) (hsl : s.length ≤ 1000) (hp : -5000 ≤ p ∧ p ≤ 5000) (h : Lay s p q T res) (hT : T.length ≤ 1000)
    (h1 : Meets Tryz.prog 21 [.int .u64 d] (.int .i64 c)) (h2 : Meets Tryz.prog 13 [.int .u64 d] (.tup [.agg [.bool a, .str s, .int .i64 x], .int .i64 e]))
    (h3 : Meets Tryz.prog 22 [.str [48], .int .i64 (q : Int)] (.str (List.replicate q 48))) (h4 : Meets Tryz.prog 23 [.int .i64 (q : Int)] (.str T)) :
    Meets Tryz.prog 11 [.int .u64 d] (.str (sgL ng ++ res)) := by
  obtain ⟨k1, k2, k3⟩ := hc
  have w1 : IntKind.wrap .i64 (p - 1) = p - 1 := wrap_i64 (by omega)
  have w2 : IntKind.wrap .i64 (0 - p) = 0 - p := wrap_i64 (by omega)
  have w3 : IntKind.wrap .i64 (0 - (p - 1)) = 0 - (p - 1) := wrap_i64 (by omega)
  have w4 : IntKind.wrap .i64 (p - (s.length : Int)) = p - s.length := wrap_i64 (by omega)
  rcases h with ⟨c1, c2, c3, c4, rfl⟩ | ⟨c1, c2, c3, c4, rfl⟩ | ⟨c1, c2, c4, rfl⟩ | ⟨c1, c3, c4, rfl⟩ | ⟨c1, c3, c4, rfl⟩ | ⟨c1, c3, c4, c5, rfl⟩ | ⟨c1, c3, c4, c5, rfl⟩ | ⟨c1, c3, c4, c5, rfl⟩ | ⟨c1, c3, c4, c5, rfl⟩
  case' inl =>
    have d1 : decide (0 < p) = true := decide_eq_true c1
    have d2 : decide (p ≤ 21) = true := decide_eq_true c2
    have d3 : decide ((s.length : Int) ≤ p) = true := decide_eq_true c3
    have d4 : decide (-6 < p) = true := decide_eq_true (by omega)
    have d5 : decide (p ≤ 0) = false := decide_eq_false (by omega)
    have d6 : True := trivial
    have d7 : True := trivial
    have d8 : True := trivial
  case' inr.inl =>
    have d1 : decide (0 < p) = true := decide_eq_true c1
    have d2 : decide (p ≤ 21) = true := decide_eq_true c2
    have d3 : decide ((s.length : Int) ≤ p) = false := decide_eq_false c3
    have d4 : decide (-6 < p) = true := decide_eq_true (by omega)
    have d5 : decide (p ≤ 0) = false := decide_eq_false (by omega)
    have d6 : True := trivial
    have d7 : True := trivial
    have d8 : True := trivial
  case' inr.inr.inl =>
    have d1 : decide (0 < p) = false := decide_eq_false (by omega)
    have d2 : decide (p ≤ 21) = true := decide_eq_true (by omega)
    have d3 : True := trivial
    have d4 : decide (-6 < p) = true := decide_eq_true (by omega)
    have d5 : decide (p ≤ 0) = true := decide_eq_true c2
    have d6 : True := trivial
    have d7 : True := trivial
    have d8 : True := trivial
  case' inr.inr.inr.inl =>
    have d1 : decide (0 < p) = true := decide_eq_true (by omega)
    have d2 : decide (p ≤ 21) = false := decide_eq_false (by omega)
    have d3 : True := trivial
    have d4 : decide (-6 < p) = true := decide_eq_true (by omega)
    have d5 : decide (p ≤ 0) = false := decide_eq_false (by omega)
    have d6 : decide ((1 : Int) < (s.length : Int)) = true := decide_eq_true (by omega)
    have d7 : decide ((q : Int) < 0) = false := decide_eq_false (by omega)
    have d8 : decide ((q : Int) < 10) = false := decide_eq_false (by omega)
  case' inr.inr.inr.inr.inl =>
    have d1 : decide (0 < p) = true := decide_eq_true (by omega)
    have d2 : decide (p ≤ 21) = false := decide_eq_false (by omega)
    have d3 : True := trivial
    have d4 : decide (-6 < p) = true := decide_eq_true (by omega)
    have d5 : decide (p ≤ 0) = false := decide_eq_false (by omega)
    have d6 : decide ((1 : Int) < (s.length : Int)) = false := decide_eq_false (by omega)
    have d7 : decide ((q : Int) < 0) = false := decide_eq_false (by omega)
    have d8 : decide ((q : Int) < 10) = false := decide_eq_false (by omega)
  case' inr.inr.inr.inr.inr.inl =>
    have d1 : decide (0 < p) = false := decide_eq_false (by omega)
    have d2 : decide (p ≤ 21) = true := decide_eq_true (by omega)
    have d3 : True := trivial
    have d4 : decide (-6 < p) = false := decide_eq_false (by omega)
    have d5 : decide (p ≤ 0) = true := decide_eq_true (by omega)
    have d6 : decide ((1 : Int) < (s.length : Int)) = true := decide_eq_true (by omega)
    have d7 : decide (p - 1 < 0) = true := decide_eq_true (by omega)
    have d8 : decide ((q : Int) < 10) = true := decide_eq_true (by omega)
  case' inr.inr.inr.inr.inr.inr.inl =>
    have d1 : decide (0 < p) = false := decide_eq_false (by omega)
    have d2 : decide (p ≤ 21) = true := decide_eq_true (by omega)
    have d3 : True := trivial
    have d4 : decide (-6 < p) = false := decide_eq_false (by omega)
    have d5 : decide (p ≤ 0) = true := decide_eq_true (by omega)
    have d6 : decide ((1 : Int) < (s.length : Int)) = false := decide_eq_false (by omega)
    have d7 : decide (p - 1 < 0) = true := decide_eq_true (by omega)
    have d8 : decide ((q : Int) < 10) = true := decide_eq_true (by omega)
  case' inr.inr.inr.inr.inr.inr.inr.inl =>
    have d1 : decide (0 < p) = false := decide_eq_false (by omega)
    have d2 : decide (p ≤ 21) = true := decide_eq_true (by omega)
    have d3 : True := trivial
    have d4 : decide (-6 < p) = false := decide_eq_false (by omega)
    have d5 : decide (p ≤ 0) = true := decide_eq_true (by omega)
    have d6 : decide ((1 : Int) < (s.length : Int)) = true := decide_eq_true (by omega)
    have d7 : decide (p - 1 < 0) = true := decide_eq_true (by omega)
    have d8 : decide ((q : Int) < 10) = false := decide_eq_false (by omega)
  case' inr.inr.inr.inr.inr.inr.inr.inr =>
    have d1 : decide (0 < p) = false := decide_eq_false (by omega)
    have d2 : decide (p ≤ 21) = true := decide_eq_true (by omega)
    have d3 : True := trivial
    have d4 : decide (-6 < p) = false := decide_eq_false (by omega)
    have d5 : decide (p ≤ 0) = true := decide_eq_true (by omega)
    have d6 : decide ((1 : Int) < (s.length : Int)) = false := decide_eq_false (by omega)
    have d7 : decide (p - 1 < 0) = true := decide_eq_true (by omega)
    have d8 : decide ((q : Int) < 10) = false := decide_eq_false (by omega)
  all_goals have wq : IntKind.wrap .i64 (q : Int) = (q : Int) := wrap_i64 (by omega)
  all_goals cases ng
  all_goals (refine meets_by ttOk Tryz.func11 Tryz.ntmps11 Tryz.results11 (by kernel_rfl) (c := _) rfl rfl rfl fun E => ?_; simp only [argsFrame])
  all_goals
    have W := cj hneg (cj hx (cj k1 (cj k2 (cj k3 (cj w1 (cj w2 (cj w3 (cj w4 (cj wq (cj c4 (cj d1 (cj d2 (cj d3 (cj d4 (cj d5 (cj d6 (cj d7 (cj d8 Int.toNat_natCast))))))))))))))))))
    refine walk1 ?_
  all_goals rfl
theorem best_bounds {d : Nat} (hf : finD d) (h0 : absD d ≠ 0) {k j : Int} (hT : Ten (4 * mantD d) (spE d) k) (hj : -420 ≤ j ∧ j ≤ 420) (hjk : j ≤ k) {b : Nat} (hb : bestD d j = some b) : b ≠ 0 ∧ b < 2 ^ 2700 := by
  obtain ⟨f1, f2, _, _, _⟩ := (look_of hf h0 hT hj hjk).f0
  unfold bestD at hb
  rcases bestW_cases (lowM d * upS (spE d) j) (4 * mantD d * upS (spE d) j) ((4 * mantD d + 2) * upS (spE d) j) (beS (spE d) j) (decide (d % 2 = 0)) with h | h | h
  · rw [h] at hb; cases hb
  · rw [h] at hb
    obtain rfl := Option.some.inj hb
    exact ⟨by omega, p26 f2⟩
  · rw [h] at hb
    obtain rfl := Option.some.inj hb
    exact ⟨by omega, p261 f2⟩
theorem first_ok {d : Nat} (hf : finD d) (h0 : absD d ≠ 0) {k : Int} (hk : -400 ≤ k ∧ k < 400) (hT : Ten (4 * mantD d) (spE d) k) : ∀ m n : Nat, 1 ≤ n → n + m ≤ 18 → ∃ a s x, firstD d k m n = .agg [.bool a, .str s, .int .i64 x] ∧ s.length ≤ 900 ∧ -2000 ≤ x ∧ x ≤ 2000 ∧ (s = [] → x = 0)
  | 0, n, _, _ => ⟨_, _, _, rfl, by decide, by decide, by decide, fun _ => rfl⟩
  | m + 1, n, hn, hm => by
    rw [firstD]
    split
    · rename_i h
      cases hb : bestD d (k + 1 - n) with
      | none => rw [hb] at h; cases h
      | some b =>
        obtain ⟨b1, b2⟩ := best_bounds hf h0 hT (by omega) (by omega) hb
        have hwl := written_le b1 b2
        have hx := normX_in (s := written 10 false b) (x := k + 1 - n) hwl (by omega)
        exact ⟨_, _, _, rfl, Nat.le_trans (normS_le (written_ne (by decide) false b)) hwl, hx.1, hx.2, fun e => absurd e (normS_ne _)⟩
    · exact first_ok hf h0 hk hT m (n + 1) (by omega) (by omega)
theorem lay_len {s : List Int} {p : Int} {q : Nat} {T res : List Int} (h : Lay s p q T res) (hs : s.length ≤ 1000) (hp : -5000 ≤ p ∧ p ≤ 5000) (hT : T.length ≤ 1000) : res.length ≤ 100000 := by
  rcases h with ⟨c1, c2, c3, c4, rfl⟩ | ⟨c1, c2, c3, c4, rfl⟩ | ⟨c1, c2, c4, rfl⟩ | ⟨c1, c3, c4, rfl⟩ | ⟨c1, c3, c4, rfl⟩ | ⟨c1, c3, c4, c5, rfl⟩ | ⟨c1, c3, c4, c5, rfl⟩ | ⟨c1, c3, c4, c5, rfl⟩ | ⟨c1, c3, c4, c5, rfl⟩
  all_goals simp only [List.length_append, List.length_replicate, List.length_cons, List.length_take, List.length_drop]
  all_goals omega
theorem lay_q {s : List Int} {p : Int} {q : Nat} {T res : List Int} (h : Lay s p q T res) (hs : s.length ≤ 1000) (hp : -5000 ≤ p ∧ p ≤ 5000) : q ≤ 6000 := by
  rcases h with ⟨c1, c2, c3, c4, rfl⟩ | ⟨c1, c2, c3, c4, rfl⟩ | ⟨c1, c2, c4, rfl⟩ | ⟨c1, c3, c4, rfl⟩ | ⟨c1, c3, c4, rfl⟩ | ⟨c1, c3, c4, c5, rfl⟩ | ⟨c1, c3, c4, c5, rfl⟩ | ⟨c1, c3, c4, c5, rfl⟩ | ⟨c1, c3, c4, c5, rfl⟩
  all_goals omega
theorem texts (d : Nat) (hd : d < 18446744073709551616) : ∃ t, Meets Tryz.prog 11 [.int .u64 (d : Int)] (.str t) ∧ Meets Tryz.prog 12 [.int .u64 (d : Int)] (.str t) := by
  have h1 := ieee_class d hd
  have h2 := ref04_class d hd
  have hneg : decide (9223372036854775808 ≤ (d : Int)) = negD d := decide_eq_decide.2 (by omega)
  by_cases hf : finD d
  · by_cases h0 : absD d = 0
    · have hc : classD d = 0 := by unfold classD; rw [if_pos h0]
      rw [hc] at h1 h2
      exact ⟨_, text_odd _ _ _ _ hneg h1 (.inr (.inr ⟨rfl, rfl⟩)), ref_text_odd _ _ _ _ hneg h2 (.inr (.inr ⟨rfl, rfl⟩))⟩
    · have hm0 : mantD d ≠ 0 := fun e => h0 (mantD_zero.1 e)
      have hml := mantD_lt d
      have he1 := expD_ge d
      have he2 := expD_le hf
      have e60 : (2 : Nat) ^ 60 = 1152921504606846976 := by decide
      obtain ⟨k, k1, k2, hT⟩ := ten_of (m := 4 * mantD d) (e := spE d) (by omega) (by rw [e60]; omega) (by unfold spE; omega)
      obtain ⟨a, s, x, hR, hsl, hx1, hx2, hsx⟩ := first_ok hf h0 ⟨k1, k2⟩ hT 17 1 (by decide) (by decide)
      have g1 := short_digits d hd hf h0 k ⟨k1, k2⟩ hT
      obtain ⟨e, g2, -⟩ := ref12_digits d hd hf h0 k ⟨k1, k2⟩ hT
      unfold shortP at g1 g2
      rw [hR] at g1 g2
      have hc : decide (classD d = 4) = false ∧ decide (classD d = 3) = false ∧ decide (classD d = 0) = false := by
        unfold finD at hf
        refine ⟨decide_eq_false fun h => ?_, decide_eq_false fun h => ?_, decide_eq_false fun h => ?_⟩ <;> unfold classD at h <;> rw [if_neg h0] at h <;> (repeat' split at h) <;> omega
      obtain ⟨q, res, hL⟩ := lay_ex s (s.length + x) (fun e => by subst e; have := hsx rfl; simp; omega) fun q => itoaI (q : Int)
      have hq := lay_q hL (by omega) (by omega)
      have hT2 : (itoaI (q : Int)).length ≤ 1000 := by
        have hall : ((List.range 6001).all fun i => decide ((Lib.itoa ((i : Nat) : Int)).length ≤ 1000)) = true := by decide +kernel
        have := List.all_eq_true.1 hall q (List.mem_range.2 (by omega))
        have h5 : (itoaI (q : Int)).length = (Lib.itoa (q : Int)).length := by unfold itoaI bytesI; simp
        rw [h5]
        exact of_decide_eq_true this
      have hlay := layout_walk s (s.length + x) q (itoaI q) res (by omega) (by omega) hL (ref_zeros q (by omega)) (itoa_meets q (by omega)) hT2
      exact ⟨_, text_walk _ _ _ _ _ _ _ _ _ _ _ hneg hc (wrap_i64 (by omega)) (by omega) (by omega) hL hT2 h1 g1 (repeat_byte 48 (by decide) q (by omega)) (itoa_meets q (by omega)), ref_text_walk _ _ _ _ _ _ _ _ _ hneg hc (by rw [wrap_i64 (by omega), Int.add_comm]) h2 g2 hlay (lay_len hL (by omega) (by omega) hT2)⟩
  · have hb := field_lt d
    have hnz : absD d ≠ 0 := fun e => hf (by unfold finD fieldD; rw [e]; decide)
    have hc : classD d = 3 ∨ classD d = 4 := by
      unfold finD at hf
      unfold classD
      rw [if_neg hnz]
      repeat' split
      all_goals omega
    rcases hc with hc | hc
    · rw [hc] at h1 h2
      exact ⟨_, text_odd _ _ _ _ hneg h1 (.inr (.inl ⟨rfl, rfl⟩)), ref_text_odd _ _ _ _ hneg h2 (.inr (.inl ⟨rfl, rfl⟩))⟩
    · rw [hc] at h1 h2
      exact ⟨_, text_odd _ _ _ _ hneg h1 (.inl ⟨rfl, rfl⟩), ref_text_odd _ _ _ _ hneg h2 (.inl ⟨rfl, rfl⟩)⟩
theorem number_walk (d : Int) (big : Bool) (t u : List Int) (hb : decide (9218868437227405312 ≤ d) = big) (h : Meets Tryz.prog 11 [.int .u64 d] (.str t)) (hu : (big = true ∧ u = []) ∨ (big = false ∧ u = t)) : Meets Tryz.prog 6 [.int .u64 d] (.tup [.str u, .bool (!big)]) := by
  rcases hu with ⟨rfl, rfl⟩ | ⟨rfl, rfl⟩
  all_goals (refine meets_by ttOk Tryz.func6 Tryz.ntmps6 Tryz.results6 (by kernel_rfl) (c := _) rfl rfl rfl fun E => ?_; simp only [argsFrame])
  all_goals
    repeat' first
      | (with_reducible first | refine PW.seq ?_ | refine PW.block ?_ | refine PW.fork ?_ | refine PW.skip ?_ | refine PW.exit ?_ | refine PW.ret ?_ | refine PW.scope ?_ | refine PW.label ?_ | refine PW.goto ?_)
      | (simp only [hb])
      | (with_reducible refine PW.region ttOk ?_ ?_
         · rfl)
      | (with_reducible refine PW.regionD ttOk mixed ?_ ?_ ?_
         · rfl
         · rfl)
      | (with_reducible refine ifW_dec (fun g => ?_) (fun g => ?_) <;> first | (exfalso; omega) | (simp -dsimp only [g, wkI]))
      | (with_reducible refine condE_dec (fun g => ?_) (fun g => ?_) <;> try (exfalso; omega))
      | (with_reducible refine condE_not (fun g => ?_) (fun g => ?_) <;> try (exfalso; omega))
      | (simp -dsimp only [↓wkA, ↓wkE, ↓wkJ, wkB, ↓tt, Nat.reduceBEq, Nat.reduceEqDiff, ↓reduceIte, Nat.reduceLT, Array.toList, Nat.reduceAdd, Nat.reduceMul, Int.reduceToNat, Int.reducePow, UInt8.reduceToNat])
      | (refine call_by (h) (views_data rfl) ⟨trivial, trivial⟩ rfl ?_)
      | (simp -dsimp (disch := first | assumption | omega) only [dec_t, dec_f])
      | (refine andI ?_)
      | (simp (disch := omega) only [wkW, Int.reduceToNat, Int.reducePow])
      | fail
  all_goals rfl
theorem ref_number_walk (d : Int) (big : Bool) (t u : List Int) (hb : decide (9218868437227405312 ≤ d) = big) (h : Meets Tryz.prog 12 [.int .u64 d] (.str t)) (hu : (big = true ∧ u = []) ∨ (big = false ∧ u = t)) : Meets Tryz.prog 7 [.int .u64 d] (.tup [.str u, .bool (!big)]) := by
  rcases hu with ⟨rfl, rfl⟩ | ⟨rfl, rfl⟩
  all_goals (refine meets_by ttOk Tryz.func7 Tryz.ntmps7 Tryz.results7 (by kernel_rfl) (c := _) rfl rfl rfl fun E => ?_; simp only [argsFrame])
  all_goals
    repeat' first
      | (with_reducible first | refine PW.seq ?_ | refine PW.block ?_ | refine PW.fork ?_ | refine PW.skip ?_ | refine PW.exit ?_ | refine PW.ret ?_ | refine PW.scope ?_ | refine PW.label ?_ | refine PW.goto ?_)
      | (simp only [hb])
      | (with_reducible refine PW.region ttOk ?_ ?_
         · rfl)
      | (with_reducible refine PW.regionD ttOk mixed ?_ ?_ ?_
         · rfl
         · rfl)
      | (with_reducible refine ifW_dec (fun g => ?_) (fun g => ?_) <;> first | (exfalso; omega) | (simp -dsimp only [g, wkI]))
      | (with_reducible refine condE_dec (fun g => ?_) (fun g => ?_) <;> try (exfalso; omega))
      | (with_reducible refine condE_not (fun g => ?_) (fun g => ?_) <;> try (exfalso; omega))
      | (simp -dsimp only [↓wkA, ↓wkE, ↓wkJ, wkB, ↓tt, Nat.reduceBEq, Nat.reduceEqDiff, ↓reduceIte, Nat.reduceLT, Array.toList, Nat.reduceAdd, Nat.reduceMul, Int.reduceToNat, Int.reducePow, UInt8.reduceToNat])
      | (refine call_by (h) (views_data rfl) ⟨trivial, trivial⟩ rfl ?_)
      | (simp -dsimp (disch := first | assumption | omega) only [dec_t, dec_f])
      | (refine andI ?_)
      | (simp (disch := omega) only [wkW, Int.reduceToNat, Int.reducePow])
      | fail
  all_goals rfl
theorem numbers (d : Nat) (hd : d < 18446744073709551616) : ∃ t b, Meets Tryz.prog 6 [.int .u64 (d : Int)] (.tup [.str t, .bool b]) ∧ Meets Tryz.prog 7 [.int .u64 (d : Int)] (.tup [.str t, .bool b]) := by
  obtain ⟨t, h1, h2⟩ := texts d hd
  by_cases h : 9218868437227405312 ≤ (d : Int)
  · exact ⟨[], _, number_walk _ true t [] (decide_eq_true h) h1 (.inl ⟨rfl, rfl⟩), ref_number_walk _ true t [] (decide_eq_true h) h2 (.inl ⟨rfl, rfl⟩)⟩
  · exact ⟨t, _, number_walk _ false t t (decide_eq_false h) h1 (.inr ⟨rfl, rfl⟩), ref_number_walk _ false t t (decide_eq_false h) h2 (.inr ⟨rfl, rfl⟩)⟩
abbrev dec0 : PV := .agg [.bool false, .str [], .int .i64 0]
theorem within_cases (d n k c : Int) (fin ok : Bool) (ng : Bool) (dec res : PV) (a : Bool) (s : List Int) (x : Int) (hd : dec = .agg [.bool a, .str s, .int .i64 x]) (hneg : decide (9223372036854775808 ≤ d) = ng)
    (h1 : Meets Tryz.prog 26 [.int .u64 d] (.bool fin))
    (h : (fin = false ∧ res = .tup [dec0, .bool false, .int .i64 5]) ∨ (fin = true ∧ n < 1 ∧ res = .tup [dec0, .bool false, .int .i64 1]) ∨ (fin = true ∧ ¬ n < 1 ∧ 17 < n ∧ res = .tup [dec0, .bool false, .int .i64 1]) ∨
      (fin = true ∧ 1 ≤ n ∧ n ≤ 17 ∧ c = 0 ∧ Meets Tryz.prog 21 [.int .u64 d] (.int .i64 c) ∧ res = .tup [.agg [.bool ng, .str [48], .int .i64 0], .bool true, .int .i64 0]) ∨
      (fin = true ∧ 1 ≤ n ∧ n ≤ 17 ∧ ¬ c = 0 ∧ Meets Tryz.prog 21 [.int .u64 d] (.int .i64 c) ∧ Meets Tryz.prog 27 [.int .u64 d] (.int .i64 k) ∧ Meets Tryz.prog 28 [.int .u64 d, .int .i64 n, .int .i64 k] (.tup [dec, .bool ok]) ∧ res = .tup [dec, .bool ok, .int .i64 0])) :
    Meets Tryz.prog 14 [.int .u64 d, .int .i64 n] res := by
  subst hd
  rcases h with ⟨rfl, rfl⟩ | ⟨rfl, c1, rfl⟩ | ⟨rfl, c1, c2, rfl⟩ | ⟨rfl, c1, c2, rfl, h2, rfl⟩ | ⟨rfl, c1, c2, c3, h2, h3, h4, rfl⟩
  · skip
    refine meets_by ttOk Tryz.func14 Tryz.ntmps14 Tryz.results14 (by kernel_rfl) (c := _) rfl rfl rfl fun E => ?_
    simp only [argsFrame]
    exact walk
  · have d1 : decide (n < 1) = true := decide_eq_true c1
    refine meets_by ttOk Tryz.func14 Tryz.ntmps14 Tryz.results14 (by kernel_rfl) (c := _) rfl rfl rfl fun E => ?_
    simp only [argsFrame]
    have W := d1
    exact walk
  · have d1 : decide (n < 1) = false := decide_eq_false c1
    have d2 : decide (17 < n) = true := decide_eq_true c2
    refine meets_by ttOk Tryz.func14 Tryz.ntmps14 Tryz.results14 (by kernel_rfl) (c := _) rfl rfl rfl fun E => ?_
    simp only [argsFrame]
    have W := cj d1 d2
    exact walk
  · have d1 : decide (n < 1) = false := decide_eq_false (by omega)
    have d2 : decide (17 < n) = false := decide_eq_false (by omega)
    refine meets_by ttOk Tryz.func14 Tryz.ntmps14 Tryz.results14 (by kernel_rfl) (c := _) rfl rfl rfl fun E => ?_
    simp only [argsFrame]
    have W := cj d1 (cj d2 hneg)
    exact walk
  · have d1 : decide (n < 1) = false := decide_eq_false (by omega)
    have d2 : decide (17 < n) = false := decide_eq_false (by omega)
    have d3 : decide (c = 0) = false := decide_eq_false c3
    refine meets_by ttOk Tryz.func14 Tryz.ntmps14 Tryz.results14 (by kernel_rfl) (c := _) rfl rfl rfl fun E => ?_
    simp only [argsFrame]
    have W := cj d1 (cj d2 d3)
    exact walk
theorem ref_within_cases (d n a : Int) (fin : Bool) (ng : Bool) (res : PV) (hneg : decide (d = 9223372036854775808) = ng)
    (h1 : Meets Tryz.prog 31 [.int .u64 d] (.bool fin))
    (h : (fin = false ∧ res = .tup [dec0, .bool false, .int .i64 5]) ∨ (fin = true ∧ n < 1 ∧ res = .tup [dec0, .bool false, .int .i64 1]) ∨ (fin = true ∧ ¬ n < 1 ∧ 17 < n ∧ res = .tup [dec0, .bool false, .int .i64 1]) ∨
      (fin = true ∧ 1 ≤ n ∧ n ≤ 17 ∧ a = 0 ∧ Meets Tryz.prog 32 [.int .u64 d] (.int .u64 a) ∧ res = .tup [.agg [.bool ng, .str [48], .int .i64 0], .bool true, .int .i64 0])) :
    Meets Tryz.prog 17 [.int .u64 d, .int .i64 n] res := by
  rcases h with ⟨rfl, rfl⟩ | ⟨rfl, c1, rfl⟩ | ⟨rfl, c1, c2, rfl⟩ | ⟨rfl, c1, c2, rfl, h2, rfl⟩
  · skip
    refine meets_by ttOk Tryz.func17 Tryz.ntmps17 Tryz.results17 (by kernel_rfl) (c := _) rfl rfl rfl fun E => ?_
    simp only [argsFrame]
    exact walk
  · have d1 : decide (n < 1) = true := decide_eq_true c1
    refine meets_by ttOk Tryz.func17 Tryz.ntmps17 Tryz.results17 (by kernel_rfl) (c := _) rfl rfl rfl fun E => ?_
    simp only [argsFrame]
    have W := d1
    exact walk
  · have d1 : decide (n < 1) = false := decide_eq_false c1
    have d2 : decide (17 < n) = true := decide_eq_true c2
    refine meets_by ttOk Tryz.func17 Tryz.ntmps17 Tryz.results17 (by kernel_rfl) (c := _) rfl rfl rfl fun E => ?_
    simp only [argsFrame]
    have W := cj d1 d2
    exact walk
  · have d1 : decide (n < 1) = false := decide_eq_false (by omega)
    have d2 : decide (17 < n) = false := decide_eq_false (by omega)
    refine meets_by ttOk Tryz.func17 Tryz.ntmps17 Tryz.results17 (by kernel_rfl) (c := _) rfl rfl rfl fun E => ?_
    simp only [argsFrame]
    have W := cj d1 (cj d2 hneg)
    exact walk
theorem class_zeroU {d : Nat} : classD d = 0 ↔ absD d = 0 := by
  unfold classD
  constructor
  · intro h
    by_cases h0 : absD d = 0
    · exact h0
    · rw [if_neg h0] at h
      repeat' split at h
      all_goals omega
  · intro h; rw [if_pos h]
theorem neg_zero {d : Nat} (hd : d < 18446744073709551616) (h0 : absD d = 0) : decide ((d : Int) = 9223372036854775808) = negD d := decide_eq_decide.2 (by unfold absD at h0; omega)
theorem lead_ex {d : Nat} (hf : finD d) (h0 : absD d ≠ 0) : ∃ k, -400 ≤ k ∧ k < 400 ∧ Ten (4 * mantD d) (spE d) k := by
  have hm0 : mantD d ≠ 0 := fun e => h0 (mantD_zero.1 e)
  have hml := mantD_lt d
  have he1 := expD_ge d
  have he2 := expD_le hf
  have e60 : (2 : Nat) ^ 60 = 1152921504606846976 := by decide
  exact ten_of (m := 4 * mantD d) (e := spE d) (by omega) (by rw [e60]; omega) (by unfold spE; omega)
theorem withins (d : Nat) (hd : d < 18446744073709551616) (n : Int) : ∃ a s x ok e, Meets Tryz.prog 14 [.int .u64 (d : Int), .int .i64 n] (.tup [.agg [.bool a, .str s, .int .i64 x], .bool ok, .int .i64 e]) ∧ Meets Tryz.prog 17 [.int .u64 (d : Int), .int .i64 n] (.tup [.agg [.bool a, .str s, .int .i64 x], .bool ok, .int .i64 e]) := by
  have h1 := short_finite d hd
  have g1 := ref04_finite d hd
  have h2 := ieee_class d hd
  have g2 := ref04_abs d hd
  have hneg : decide (9223372036854775808 ≤ (d : Int)) = negD d := decide_eq_decide.2 (by omega)
  by_cases hf : finD d
  · rw [decide_eq_true hf] at h1 g1
    by_cases c1 : n < 1
    · exact ⟨_, _, _, _, _, within_cases _ n 0 0 _ true (negD d) dec0 _ _ _ _ rfl hneg h1 (.inr (.inl ⟨rfl, c1, rfl⟩)), ref_within_cases _ n 0 _ _ _ rfl g1 (.inr (.inl ⟨rfl, c1, rfl⟩))⟩
    · by_cases c2 : 17 < n
      · exact ⟨_, _, _, _, _, within_cases _ n 0 0 _ true (negD d) dec0 _ _ _ _ rfl hneg h1 (.inr (.inr (.inl ⟨rfl, c1, c2, rfl⟩))), ref_within_cases _ n 0 _ _ _ rfl g1 (.inr (.inr (.inl ⟨rfl, c1, c2, rfl⟩)))⟩
      · by_cases h0 : absD d = 0
        · exact ⟨_, _, _, _, _, within_cases _ n 0 _ _ true (negD d) dec0 _ _ _ _ rfl hneg h1 (.inr (.inr (.inr (.inl ⟨rfl, by omega, by omega, class_zeroU.2 h0, h2, rfl⟩)))), ref_within_cases _ n _ _ _ _ (neg_zero hd h0) g1 (.inr (.inr (.inr ⟨rfl, by omega, by omega, by omega, g2, rfl⟩)))⟩
        · obtain ⟨k, k1, k2, hT⟩ := lead_ex hf h0
          obtain ⟨m, rfl⟩ : ∃ m : Nat, n = (m : Int) := ⟨n.toNat, by omega⟩
          have h4 := short_within d hd hf h0 k _ m (by omega) ⟨k1, k2⟩ hT rfl
          have g4 := ref12_within d hd hf h0 k _ m (by omega) ⟨k1, k2⟩ hT rfl
          obtain ⟨a, s, x, hdr⟩ := decR_dec (negD d) (k + 1 - (m : Int)) (bestD d (k + 1 - (m : Int)))
          rw [hdr] at h4 g4
          exact ⟨_, _, _, _, _, within_cases _ m k _ _ _ (negD d) _ _ _ _ _ rfl hneg h1 (.inr (.inr (.inr (.inr ⟨rfl, by omega, by omega, fun e => h0 (class_zeroU.1 e), h2, short_leading d hd hf h0 k ⟨k1, k2⟩ hT, h4, rfl⟩)))), g4⟩
  · rw [decide_eq_false hf] at h1 g1
    exact ⟨_, _, _, _, _, within_cases _ n 0 0 _ true (negD d) dec0 _ _ _ _ rfl hneg h1 (.inl ⟨rfl, rfl⟩), ref_within_cases _ n 0 _ _ _ rfl g1 (.inl ⟨rfl, rfl⟩)⟩
theorem best_17 {d : Nat} (hf : finD d) (h0 : absD d ≠ 0) {k : Int} (hk : -400 ≤ k ∧ k < 400) (hT : Ten (4 * mantD d) (spE d) k) : (bestD d (k + 1 - (17 : Nat))).isSome = true := by
  obtain ⟨j, hj⟩ : ∃ j, k + 1 - ((17 : Nat) : Int) = j := ⟨_, rfl⟩
  rw [hj]
  have hm0 : mantD d ≠ 0 := fun e => h0 (mantD_zero.1 e)
  have hml := mantD_lt d
  obtain ⟨l1, l2⟩ := lowM_bounds d hm0
  have hL := look_of hf h0 hT (j := j) (by omega) (by omega)
  have hup := upS_pos (spE d) j
  -- 10^16 units are at most the number
  have h16 : beS (spE d) j * 10 ^ 16 ≤ 4 * mantD d * upS (spE d) j := by
    have hlo := hT.lo
    unfold GeT at hlo
    refine Nat.le_of_mul_le_mul_right (c := upS (spE d) k) ?_ (upS_pos _ _)
    have e1 : beS (spE d) j * 10 ^ 16 * upS (spE d) k = beS (spE d) k * upS (spE d) j := by
      unfold beS upS
      have e2 : 10 ^ j.toNat * 10 ^ 16 * 10 ^ (-k).toNat = 10 ^ k.toNat * 10 ^ (-j).toNat := by
        rw [← Nat.pow_add, ← Nat.pow_add, ← Nat.pow_add]
        congr 1
        omega
      calc 2 ^ (-spE d).toNat * 10 ^ j.toNat * 10 ^ 16 * (2 ^ (spE d).toNat * 10 ^ (-k).toNat) = 2 ^ (-spE d).toNat * 2 ^ (spE d).toNat * (10 ^ j.toNat * 10 ^ 16 * 10 ^ (-k).toNat) := by ac_rfl
        _ = 2 ^ (-spE d).toNat * 2 ^ (spE d).toNat * (10 ^ k.toNat * 10 ^ (-j).toNat) := by rw [e2]
        _ = _ := by ac_rfl
    rw [e1]
    calc beS (spE d) k * upS (spE d) j ≤ 4 * mantD d * upS (spE d) k * upS (spE d) j := Nat.mul_le_mul_right _ hlo
      _ = 4 * mantD d * upS (spE d) j * upS (spE d) k := by ac_rfl
  -- so a unit is less than what lies between the bounds
  have hw : beS (spE d) j + lowM d * upS (spE d) j < (4 * mantD d + 2) * upS (spE d) j := by
    obtain ⟨w, hw1, hw2⟩ : ∃ w, 4 * mantD d + 2 = lowM d + w ∧ 4 * mantD d < w * 10 ^ 16 := by
      unfold lowM
      split
      · exact ⟨3, by omega, by omega⟩
      · exact ⟨4, by omega, by omega⟩
    rw [hw1, Nat.add_mul, Nat.add_comm]
    refine Nat.add_lt_add_left ?_ _
    refine Nat.lt_of_mul_lt_mul_right (a := 10 ^ 16) (Nat.lt_of_le_of_lt h16 ?_)
    rw [Nat.mul_right_comm w]
    exact Nat.mul_lt_mul_of_pos_right hw2 hup
  unfold bestD bestW
  obtain ⟨f1, f2, f3, f4, f5⟩ := hL.f0
  have hlo := hL.hlo
  have hhi := hL.hhi
  have hmod := @mod_self_le (4 * mantD d * upS (spE d) j) (beS (spE d) j)
  generalize lowM d * upS (spE d) j = lo at *
  generalize 4 * mantD d * upS (spE d) j = V at *
  generalize (4 * mantD d + 2) * upS (spE d) j = hi at *
  generalize beS (spE d) j = B at *
  generalize decide (d % 2 = 0) = cl at *
  by_cases c1 : hdB lo hi (V / B * B) cl = true
  · rw [if_pos c1]
    repeat' split
    all_goals rfl
  · rw [if_neg c1]
    have n1 : ¬ (lo < V / B * B) := fun h => c1 (hdB_iff.2 (.inl ⟨h, by omega⟩))
    have c2 : hdB lo hi ((V / B + 1) * B) cl = true := hdB_iff.2 (.inl (by rw [Nat.add_mul, Nat.one_mul]; omega))
    rw [if_pos c2]
    rfl
theorem digits_cases (d : Int) (ng fin : Bool) (c : Int) (res : PV) (hneg : decide (9223372036854775808 ≤ d) = ng) (h1 : Meets Tryz.prog 26 [.int .u64 d] (.bool fin))
    (h : (fin = false ∧ res = .tup [dec0, .int .i64 5]) ∨ (fin = true ∧ c = 0 ∧ Meets Tryz.prog 21 [.int .u64 d] (.int .i64 c) ∧ res = .tup [.agg [.bool ng, .str [48], .int .i64 0], .int .i64 0])) : Meets Tryz.prog 13 [.int .u64 d] res := by
  rcases h with ⟨rfl, rfl⟩ | ⟨rfl, rfl, h2, rfl⟩
  · skip
    refine meets_by ttOk Tryz.func13 Tryz.ntmps13 Tryz.results13 (by kernel_rfl) (c := _) rfl rfl rfl fun E => ?_
    simp only [argsFrame]
    exact walk
  · skip
    refine meets_by ttOk Tryz.func13 Tryz.ntmps13 Tryz.results13 (by kernel_rfl) (c := _) rfl rfl rfl fun E => ?_
    simp only [argsFrame]
    have W := hneg
    exact walk
theorem ref_digits_cases (d : Int) (a : Bool) (s : List Int) (x e : Int) (ok : Bool) (hstop : e ≠ 0 ∨ ok = true) (h : Meets Tryz.prog 17 [.int .u64 d, .int .i64 1] (.tup [.agg [.bool a, .str s, .int .i64 x], .bool ok, .int .i64 e])) : Meets Tryz.prog 16 [.int .u64 d] (.tup [.agg [.bool a, .str s, .int .i64 x], .int .i64 e]) := by
  have hfork : (decide (e = 0) = false) ∨ (e = 0 ∧ ok = true) := by
    by_cases he : e = 0
    · exact .inr ⟨he, hstop.resolve_left fun h => h he⟩
    · exact .inl (decide_eq_false he)
  rcases hfork with d1 | ⟨rfl, rfl⟩
  case' inr => have d1 := True.intro
  all_goals (refine meets_by ttOk Tryz.func16 Tryz.ntmps16 Tryz.results16 (by kernel_rfl) (c := _) rfl rfl rfl fun E => ?_; simp only [argsFrame])
  all_goals
    have W := d1
    refine walk1 ?_
  all_goals refine PW.loopA (fun m F H => F = rdF d 1 ∧ H = sdH) 0 (rdF d 1) sdH (Sub.norm ⟨rfl, rfl, rfl, rfl, trivial⟩ ⟨rfl, trivial⟩ (Nat.le_refl _) rfl rfl rfl rfl) ⟨rfl, rfl⟩ ?_
  all_goals rintro m F H ⟨rfl, rfl⟩
  all_goals
    have W := d1
    exact walk
def exV (m : Nat) (e : Int) : Nat := if 0 ≤ e then m * 2 ^ e.toNat else m * 5 ^ (-e).toNat
def exS (m : Nat) (e : Int) : List Int := normS (written 10 false (exV m e))
def exX (m : Nat) (e : Int) : Int := normX (written 10 false (exV m e)) (if 0 ≤ e then 0 else e)
abbrev exP (m : Nat) (e : Int) : PV := .agg [.bool false, .str (exS m e), .int .i64 (exX m e)]
theorem exactS_walk (m e x ne : Int) (P5 N s t : List Int) (y : Int)
    (h : (0 ≤ e ∧ x = 0 ∧ Meets Tryz.prog 59 [.ints .u64 [m], .int .i64 e] (.ints .u64 N)) ∨ (¬ 0 ≤ e ∧ x = e ∧ IntKind.wrap .i64 (0 - e) = ne ∧ Meets Tryz.prog 76 [.int .i64 ne] (.tup [.ints .u64 P5, .int .i64 0]) ∧ Meets Tryz.prog 77 [.ints .u64 [m], .ints .u64 P5] (.ints .u64 N)))
    (h3 : Meets Tryz.prog 61 [.ints .u64 N] (.tup [.str s, .int .i64 0])) (h4 : Meets Tryz.prog 29 [.agg [.bool false, .str s, .int .i64 x]] (.tup [.agg [.bool false, .str t, .int .i64 y], .int .i64 0])) :
    Meets Tryz.prog 37 [.int .u64 m, .int .i64 e] (.agg [.bool false, .str t, .int .i64 y]) := by
  rcases h with ⟨c, rfl, h1⟩ | ⟨c, rfl, w1, h1, h2⟩
  · have d1 : decide (0 ≤ e) = true := decide_eq_true c
    refine meets_by ttOk Tryz.func37 Tryz.ntmps37 Tryz.results37 (by kernel_rfl) (c := _) rfl rfl rfl fun E => ?_
    simp only [argsFrame]
    repeat' first
      | (with_reducible first | refine PW.seq ?_ | refine PW.block ?_ | refine PW.fork ?_ | refine PW.skip ?_ | refine PW.exit ?_ | refine PW.ret ?_ | refine PW.scope ?_ | refine PW.label ?_ | refine PW.goto ?_)
      | (simp only [d1])
      | (with_reducible refine PW.region ttOk ?_ ?_
         · rfl)
      | (with_reducible refine PW.regionD ttOk mixed ?_ ?_ ?_
         · rfl
         · rfl)
      | (with_reducible refine ifW_dec (fun g => ?_) (fun g => ?_) <;> first | (exfalso; omega) | (simp -dsimp only [g, wkI]))
      | (with_reducible refine condE_dec (fun g => ?_) (fun g => ?_) <;> try (exfalso; omega))
      | (with_reducible refine condE_not (fun g => ?_) (fun g => ?_) <;> try (exfalso; omega))
      | (simp -dsimp only [↓wkA, ↓wkE, ↓wkJ, wkB, ↓tt, Nat.reduceBEq, Nat.reduceEqDiff, ↓reduceIte, Nat.reduceLT, Array.toList, Nat.reduceAdd, Nat.reduceMul, Int.reduceToNat, Int.reducePow, UInt8.reduceToNat])
      | (refine call_drop (args' := [.ints .u64 [m], .int .i64 e]) rfl h1 ⟨Nat.le_refl _, trivial, trivial⟩ rfl ?_; simp only [wkD, Nat.reduceBEq])
      | (refine call_by (h3) (views_data rfl) ⟨trivial, trivial⟩ rfl ?_)
      | (refine call_by (h4) (views_data rfl) (by simp only [okViews, okView, okViews0, okView0, and_self]) rfl ?_)
      | (simp -dsimp (disch := first | assumption | omega) only [dec_t, dec_f])
      | (refine andI ?_)
      | (simp (disch := omega) only [wkW, Int.reduceToNat, Int.reducePow])
      | fail
  · have d1 : decide (0 ≤ x) = false := decide_eq_false c
    refine meets_by ttOk Tryz.func37 Tryz.ntmps37 Tryz.results37 (by kernel_rfl) (c := _) rfl rfl rfl fun E => ?_
    simp only [argsFrame]
    repeat' first
      | (with_reducible first | refine PW.seq ?_ | refine PW.block ?_ | refine PW.fork ?_ | refine PW.skip ?_ | refine PW.exit ?_ | refine PW.ret ?_ | refine PW.scope ?_ | refine PW.label ?_ | refine PW.goto ?_)
      | (simp only [d1, w1])
      | (with_reducible refine PW.region ttOk ?_ ?_
         · rfl)
      | (with_reducible refine PW.regionD ttOk mixed ?_ ?_ ?_
         · rfl
         · rfl)
      | (with_reducible refine ifW_dec (fun g => ?_) (fun g => ?_) <;> first | (exfalso; omega) | (simp -dsimp only [g, wkI]))
      | (with_reducible refine condE_dec (fun g => ?_) (fun g => ?_) <;> try (exfalso; omega))
      | (with_reducible refine condE_not (fun g => ?_) (fun g => ?_) <;> try (exfalso; omega))
      | (simp -dsimp only [↓wkA, ↓wkE, ↓wkJ, wkB, ↓tt, Nat.reduceBEq, Nat.reduceEqDiff, ↓reduceIte, Nat.reduceLT, Array.toList, Nat.reduceAdd, Nat.reduceMul, Int.reduceToNat, Int.reducePow, UInt8.reduceToNat])
      | (refine call_by (h1) (views_data rfl) ⟨trivial, trivial⟩ rfl ?_)
      | (refine call_drop (args' := [.ints .u64 [m], .ints .u64 P5]) rfl h2 ⟨Nat.le_refl _, trivial, trivial⟩ rfl ?_; simp only [wkD, Nat.reduceBEq])
      | (refine call_by (h3) (views_data rfl) ⟨trivial, trivial⟩ rfl ?_)
      | (refine call_by (h4) (views_data rfl) (by simp only [okViews, okView, okViews0, okView0, and_self]) rfl ?_)
      | (simp -dsimp (disch := first | assumption | omega) only [dec_t, dec_f])
      | (refine andI ?_)
      | (simp (disch := omega) only [wkW, Int.reduceToNat, Int.reducePow])
      | fail
theorem ref_exact_walk (m e x ne : Int) (P5 N t : List Int) (y : Int)
    (h : (0 ≤ e ∧ x = 0 ∧ Meets Tryz.prog 78 [.ints .u64 [m], .int .i64 e] (.ints .u64 N)) ∨ (¬ 0 ≤ e ∧ x = e ∧ IntKind.wrap .i64 (0 - e) = ne ∧ Meets Tryz.prog 79 [.int .i64 ne] (.tup [.ints .u64 P5, .int .i64 0]) ∧ Meets Tryz.prog 80 [.ints .u64 [m], .ints .u64 P5] (.ints .u64 N)))
    (h3 : Meets Tryz.prog 36 [.bool false, .ints .u64 N, .int .i64 x] (.agg [.bool false, .str t, .int .i64 y])) :
    Meets Tryz.prog 39 [.int .u64 m, .int .i64 e] (.agg [.bool false, .str t, .int .i64 y]) := by
  rcases h with ⟨c, rfl, h1⟩ | ⟨c, rfl, w1, h1, h2⟩
  · have d1 : decide (0 ≤ e) = true := decide_eq_true c
    refine meets_by ttOk Tryz.func39 Tryz.ntmps39 Tryz.results39 (by kernel_rfl) (c := _) rfl rfl rfl fun E => ?_
    simp only [argsFrame]
    repeat' first
      | (with_reducible first | refine PW.seq ?_ | refine PW.block ?_ | refine PW.fork ?_ | refine PW.skip ?_ | refine PW.exit ?_ | refine PW.ret ?_ | refine PW.scope ?_ | refine PW.label ?_ | refine PW.goto ?_)
      | (simp only [d1])
      | (with_reducible refine PW.region ttOk ?_ ?_
         · rfl)
      | (with_reducible refine PW.regionD ttOk mixed ?_ ?_ ?_
         · rfl
         · rfl)
      | (with_reducible refine ifW_dec (fun g => ?_) (fun g => ?_) <;> first | (exfalso; omega) | (simp -dsimp only [g, wkI]))
      | (with_reducible refine condE_dec (fun g => ?_) (fun g => ?_) <;> try (exfalso; omega))
      | (with_reducible refine condE_not (fun g => ?_) (fun g => ?_) <;> try (exfalso; omega))
      | (simp -dsimp only [↓wkA, ↓wkE, ↓wkJ, wkB, ↓tt, Nat.reduceBEq, Nat.reduceEqDiff, ↓reduceIte, Nat.reduceLT, Array.toList, Nat.reduceAdd, Nat.reduceMul, Int.reduceToNat, Int.reducePow, UInt8.reduceToNat])
      | (refine call_drop (args' := [.ints .u64 [m], .int .i64 e]) rfl h1 ⟨Nat.le_refl _, trivial, trivial⟩ rfl ?_; simp only [wkD, Nat.reduceBEq])
      | (refine call_by (h3) (views_data rfl) ⟨trivial, trivial, trivial, trivial⟩ rfl ?_)
      | (simp -dsimp (disch := first | assumption | omega) only [dec_t, dec_f])
      | (refine andI ?_)
      | (simp (disch := omega) only [wkW, Int.reduceToNat, Int.reducePow])
      | fail
  · have d1 : decide (0 ≤ x) = false := decide_eq_false c
    refine meets_by ttOk Tryz.func39 Tryz.ntmps39 Tryz.results39 (by kernel_rfl) (c := _) rfl rfl rfl fun E => ?_
    simp only [argsFrame]
    repeat' first
      | (with_reducible first | refine PW.seq ?_ | refine PW.block ?_ | refine PW.fork ?_ | refine PW.skip ?_ | refine PW.exit ?_ | refine PW.ret ?_ | refine PW.scope ?_ | refine PW.label ?_ | refine PW.goto ?_)
      | (simp only [d1, w1])
      | (with_reducible refine PW.region ttOk ?_ ?_
         · rfl)
      | (with_reducible refine PW.regionD ttOk mixed ?_ ?_ ?_
         · rfl
         · rfl)
      | (with_reducible refine ifW_dec (fun g => ?_) (fun g => ?_) <;> first | (exfalso; omega) | (simp -dsimp only [g, wkI]))
      | (with_reducible refine condE_dec (fun g => ?_) (fun g => ?_) <;> try (exfalso; omega))
      | (with_reducible refine condE_not (fun g => ?_) (fun g => ?_) <;> try (exfalso; omega))
      | (simp -dsimp only [↓wkA, ↓wkE, ↓wkJ, wkB, ↓tt, Nat.reduceBEq, Nat.reduceEqDiff, ↓reduceIte, Nat.reduceLT, Array.toList, Nat.reduceAdd, Nat.reduceMul, Int.reduceToNat, Int.reducePow, UInt8.reduceToNat])
      | (refine call_by (h1) (views_data rfl) ⟨trivial, trivial⟩ rfl ?_)
      | (refine call_drop (args' := [.ints .u64 [m], .ints .u64 P5]) rfl h2 ⟨Nat.le_refl _, trivial, trivial⟩ rfl ?_; simp only [wkD, Nat.reduceBEq])
      | (refine call_by (h3) (views_data rfl) ⟨trivial, trivial, trivial, trivial⟩ rfl ?_)
      | (simp -dsimp (disch := first | assumption | omega) only [dec_t, dec_f])
      | (refine andI ?_)
      | (simp (disch := omega) only [wkW, Int.reduceToNat, Int.reducePow])
      | fail
theorem five_lt {n : Nat} (h : n ≤ 1100) : 5 ^ n < 2 ^ 2600 := Nat.lt_of_le_of_lt (Nat.pow_le_pow_right (by decide) h) (by decide +kernel)
theorem two_lt {n : Nat} (h : n ≤ 1100) : 2 ^ n < 2 ^ 2600 := Nat.pow_lt_pow_right (by decide) (by omega)
theorem p60 {m u : Nat} (hm : m < 2 ^ 60) (hu : u < 2 ^ 2600) : m * u < 2 ^ 2700 := Nat.lt_of_lt_of_le (Nat.mul_lt_mul'' hm hu) (by rw [← Nat.pow_add]; exact Nat.pow_le_pow_right (by decide) (by decide))
theorem exV_ok {m : Nat} {e : Int} (hm0 : m ≠ 0) (hm : m < 2 ^ 60) (he : -1100 ≤ e ∧ e ≤ 1000) : exV m e ≠ 0 ∧ exV m e < 2 ^ 2700 := by
  unfold exV
  split
  · exact ⟨Nat.mul_ne_zero hm0 (Nat.ne_of_gt (Nat.two_pow_pos _)), p60 hm (two_lt (by omega))⟩
  · exact ⟨Nat.mul_ne_zero hm0 (Nat.ne_of_gt (Nat.pow_pos (by decide))), p60 hm (five_lt (by omega))⟩
theorem short_exact {m : Nat} {e : Int} (hm0 : m ≠ 0) (hm : m < 2 ^ 60) (he : -1100 ≤ e ∧ e ≤ 1000) : Meets Tryz.prog 37 [.int .u64 (m : Int), .int .i64 e] (exP m e) := by
  obtain ⟨v0, v1⟩ := exV_ok hm0 hm he
  have hm64 : m < 18446744073709551616 := Nat.lt_trans hm (by decide)
  have hone := natL_one m ⟨by omega, hm64⟩
  have hwl := written_le v0 v1
  have hxb : -1100 ≤ (if 0 ≤ e then 0 else e) ∧ (if 0 ≤ e then 0 else e) ≤ 0 := by split <;> omega
  have hx : -2100 ≤ normX (written 10 false (exV m e)) (if 0 ≤ e then 0 else e) ∧ normX (written 10 false (exV m e)) (if 0 ≤ e then 0 else e) ≤ 2100 := by
    have h1 := headL_le 48 (written 10 false (exV m e))
    have h2 := endN_le (headL 48 (written 10 false (exV m e))) 48 (headL 48 (written 10 false (exV m e))).length
    unfold normX
    split <;> omega
  have h4 := scan_norm_ok false (s := written 10 false (exV m e)) (x := if 0 ≤ e then 0 else e) ⟨written_ne (by decide) false _, ⟨by omega, by omega⟩, written_all_d v0, by omega⟩ (by omega)
  have h3 := digits_natU (bn_of v1)
  refine exactS_walk (m : Int) e _ (0 - e) (natL (5 ^ (-e).toNat)) (natL (exV m e)) _ _ _ ?_ h3 h4
  unfold exV
  by_cases h : 0 ≤ e
  · refine .inl ⟨h, if_pos h, ?_⟩
    have hs := short_shl (u := m) (n := e.toNat) (bn_of (Nat.lt_trans hm (Nat.pow_lt_pow_right (by decide) (by decide)))) (by omega) (bn_of (p60 hm (two_lt (by omega))))
    rw [hone, Int.toNat_of_nonneg h] at hs
    rw [if_pos h]
    exact hs
  · refine .inr ⟨h, if_neg h, wrap_i64 (by omega), ?_, ?_⟩
    · have hp := pow5_ok (-e).toNat (by omega) (bn_of (p26 (five_lt (by omega))))
      rw [show (((-e).toNat : Nat) : Int) = 0 - e by omega] at hp
      exact hp
    · have hs := short_mul (u := m) (v := 5 ^ (-e).toNat) (bn_of (Nat.lt_trans hm (Nat.pow_lt_pow_right (by decide) (by decide)))) (bn_of (p26 (five_lt (by omega)))) (bn_of (p60 hm (five_lt (by omega))))
      rw [hone] at hs
      rw [if_neg h]
      exact hs
theorem ref12_exact {m : Nat} {e : Int} (hm0 : m ≠ 0) (hm : m < 2 ^ 60) (he : -1100 ≤ e ∧ e ≤ 1000) : Meets Tryz.prog 39 [.int .u64 (m : Int), .int .i64 e] (exP m e) := by
  obtain ⟨v0, v1⟩ := exV_ok hm0 hm he
  have hm64 : m < 18446744073709551616 := Nat.lt_trans hm (by decide)
  have one := limbs_one hm64
  have hwl := written_le v0 v1
  have h3 := ref12_normal false (natL (exV m e)) (written 10 false (exV m e)) (if 0 ≤ e then 0 else e) (by split <;> omega) (ref_digits_natU (bn_of v1)) (written_ne (by decide) false _) (written_head v0) (by omega)
  refine ref_exact_walk (m : Int) e _ (0 - e) (natL (5 ^ (-e).toNat)) (natL (exV m e)) _ _ ?_ h3
  unfold exV
  by_cases h : 0 ≤ e
  · refine .inl ⟨h, if_pos h, ?_⟩
    have hs := ref01_lift (n := e.toNat) one.1 (by simp) one.2 (by omega)
    rw [Int.toNat_of_nonneg h] at hs
    rw [if_pos h]
    exact hs
  · refine .inr ⟨h, if_neg h, wrap_i64 (by omega), ?_, ?_⟩
    · have hp := ref02_pow5 (-e).toNat (by omega)
      rw [show (((-e).toNat : Nat) : Int) = 0 - e by omega] at hp
      exact hp
    · have hs := ref01_times one.1 (natL_limbs (5 ^ (-e).toNat)) (by simp) (big_len (p26 (five_lt (by omega)))) one.2 (val_natL _)
      rw [if_neg h]
      exact hs
def bndP (d : Nat) : PV := if ¬ finD d then .tup [dec0, dec0, .bool false, .int .i64 5] else if absD d = 0 then .tup [.agg [.bool false, .str [48], .int .i64 0], exP 1 (-1075), .bool true, .int .i64 0] else .tup [exP (lowM d) (spE d), exP (4 * mantD d + 2) (spE d), .bool (decide (d % 2 = 0)), .int .i64 0]
theorem bounds_walk (d c lo mi hi e par : Int) (fin : Bool) (a1 a2 a3 : Bool) (s1 s2 s3 : List Int) (x1 x2 x3 : Int) (res : PV) (h1 : Meets Tryz.prog 26 [.int .u64 d] (.bool fin))
    (h : (fin = false ∧ res = .tup [dec0, dec0, .bool false, .int .i64 5]) ∨ (fin = true ∧ c = 0 ∧ Meets Tryz.prog 21 [.int .u64 d] (.int .i64 c) ∧ Meets Tryz.prog 37 [.int .u64 1, .int .i64 (-1075)] (.agg [.bool a1, .str s1, .int .i64 x1]) ∧ res = .tup [.agg [.bool false, .str [48], .int .i64 0], .agg [.bool a1, .str s1, .int .i64 x1], .bool true, .int .i64 0]) ∨
      (fin = true ∧ ¬ c = 0 ∧ Meets Tryz.prog 21 [.int .u64 d] (.int .i64 c) ∧ Meets Tryz.prog 38 [.int .u64 d] (.tup [.int .u64 lo, .int .u64 mi, .int .u64 hi, .int .i64 e]) ∧ Meets Tryz.prog 37 [.int .u64 lo, .int .i64 e] (.agg [.bool a2, .str s2, .int .i64 x2]) ∧ Meets Tryz.prog 37 [.int .u64 hi, .int .i64 e] (.agg [.bool a3, .str s3, .int .i64 x3]) ∧ Int.tmod d 2 = par ∧
        res = .tup [.agg [.bool a2, .str s2, .int .i64 x2], .agg [.bool a3, .str s3, .int .i64 x3], .bool (decide (par = 0)), .int .i64 0])) : Meets Tryz.prog 18 [.int .u64 d] res := by
  rcases h with ⟨rfl, rfl⟩ | ⟨rfl, rfl, h2, h3, rfl⟩ | ⟨rfl, c3, h2, h3, h4, h5, hp, rfl⟩
  · skip
    refine meets_by ttOk Tryz.func18 Tryz.ntmps18 Tryz.results18 (by kernel_rfl) (c := _) rfl rfl rfl fun E => ?_
    simp only [argsFrame]
    exact walk
  · skip
    refine meets_by ttOk Tryz.func18 Tryz.ntmps18 Tryz.results18 (by kernel_rfl) (c := _) rfl rfl rfl fun E => ?_
    simp only [argsFrame]
    exact walk
  · have d3 : decide (c = 0) = false := decide_eq_false c3
    refine meets_by ttOk Tryz.func18 Tryz.ntmps18 Tryz.results18 (by kernel_rfl) (c := _) rfl rfl rfl fun E => ?_
    simp only [argsFrame]
    have W := cj d3 hp
    exact walk
end Go.Proofs.YtmoilbeomnapfaaGreatDoor
namespace Go.PV
open Go Go.RowKit
def ordS : List Oper → Nat → Nat
  | [], _ => 0
  | _ :: _, 0 => 0
  | o :: rest, k + 1 => (bif (storeOf o.op).isSome then 1 else 0) + ordS rest k
def opsM (P : Program) (tt : Tab) (all : List Oper) (ds : Nat → Bool) : List Oper → Nat → Frame → Heap → (Nat → Heap) → (Frame → (Nat → Heap) → Prop) → Prop
  | [], n, F, H, hf, K => K F hf
  | o :: rest, n, F, H, hf, K => match storeOf o.op with
    | some x => bif ds n then storeW tt x.1 (ev F.get x.2.1) (ev F.get x.2.2) H (fun H' => opsM P tt all ds rest (n + 1) (F.put o.dst (.tup [])) H (fun m => bif m == n then H' else hf m) K) else opsM P tt all ds rest (n + 1) (F.put o.dst (.tup [])) H hf K
    | none => wantW all F o (stepD P tt o (ev F.get) H fun q => opsM P tt all ds rest n (F.put o.dst q) H hf K) (opsM P tt all ds rest n (F.put o.dst (.tup [])) H hf K)
def idx1 (ops : List Oper) : Nat := ops.findIdx fun o => (storeOf o.op).isSome
def idx2 (ops : List Oper) : Nat := idx1 ops + 1 + (ops.drop (idx1 ops + 1)).findIdx fun o => (storeOf o.op).isSome
def twoAt (ops : List Oper) (j1 j2 : Nat) : Bool :=
  Nat.blt j1 j2 && Nat.blt j2 ops.length && ordS ops j1 == 0 && ordS ops j2 == 1 && (List.range ops.length).all fun k => match ops[k]? with
    | some o => (match storeOf o.op with
      | some _ => (k == j1 || k == j2) && o.guard.isNone && o.dst.isNone
      | none => k != j1 && k != j2 && o.dst.isSome)
    | none => false
section
variable {P : Program} {w w' : World} {nt : Nat} {E : Entry P} {H : Heap} {F : Frame} {a : Act} {tt : Tab}
theorem traceM {all : List Oper} {ds : Nat → Bool} : ∀ (rest : List Oper) (n : Nat) (F : Frame) (hf : Nat → Heap) {K : Frame → (Nat → Heap) → Prop}, opsM P tt all ds rest n F H hf K →
    ∃ (qs : Nat → PV) (hf' : Nat → Heap), (∀ m, m < n → hf' m = hf m) ∧ (∀ k o, rest[k]? = some o → (storeOf o.op = none → yieldsD P tt all o (frameAt F rest qs k) H (qs k)) ∧
      (∀ x, storeOf o.op = some x → qs k = .tup [] ∧ (ds (n + ordS rest k) = true → storeW tt x.1 (ev (frameAt F rest qs k).get x.2.1) (ev (frameAt F rest qs k).get x.2.2) H fun X => X = hf' (n + ordS rest k)))) ∧ K (frameAt F rest qs rest.length) hf'
  | [], n, F, hf, K, h => ⟨fun _ => .undef, hf, fun _ _ => rfl, fun k o ho => by simp at ho, h⟩
  | o :: rest, n, F, hf, K, h => by
    unfold opsM at h
    cases hso : storeOf o.op with
    | none =>
      rw [hso] at h
      simp only at h
      have step : ∃ q, yieldsD P tt all o F H q ∧ opsM P tt all ds rest n (F.put o.dst q) H hf K := by
        rcases wantW_or h with ⟨h1, h2⟩ | ⟨h1, h2⟩
        · obtain ⟨q, hq, hs⟩ := stepD_pt o _ H _ h1
          exact ⟨q, h2 _ _ hs, hq⟩
        · exact ⟨.tup [], h2 _ _ rfl, h1⟩
      obtain ⟨q, hy, hr⟩ := step
      obtain ⟨qs, hf', h0, h3, h4⟩ := traceM rest n _ _ hr
      refine ⟨fun | 0 => q | j + 1 => qs j, hf', h0, fun k o' ho => ?_, h4⟩
      cases k with
      | zero =>
        simp only [List.getElem?_cons_zero, Option.some.injEq] at ho
        subst ho
        exact ⟨fun _ => hy, fun x hx => by rw [hso] at hx; cases hx⟩
      | succ k =>
        simp only [List.getElem?_cons_succ] at ho
        have e : ordS (o :: rest) (k + 1) = ordS rest k := by simp only [ordS, hso, Option.isSome_none, cond_false]; omega
        rw [e]
        exact h3 k o' ho
    | some x =>
      rw [hso] at h
      simp only at h
      have e : ∀ k, n + ordS (o :: rest) (k + 1) = n + 1 + ordS rest k := fun k => by simp only [ordS, hso, Option.isSome_some, cond_true]; omega
      cases hd : ds n with
      | true =>
        rw [hd] at h
        simp only [cond_true] at h
        obtain ⟨H', hr, hst⟩ := storeW_pt h
        obtain ⟨qs, hf', h0, h3, h4⟩ := traceM rest (n + 1) _ _ hr
        refine ⟨fun | 0 => .tup [] | j + 1 => qs j, hf', fun m hm => ?_, fun k o' ho => ?_, h4⟩
        · rw [h0 m (by omega), show (m == n) = false by simp; omega]; rfl
        · cases k with
          | zero =>
            simp only [List.getElem?_cons_zero, Option.some.injEq] at ho
            subst ho
            refine ⟨fun hn => (by rw [hso] at hn; cases hn), fun y hy => ?_⟩
            rw [hso] at hy; cases hy
            refine ⟨rfl, fun _ => ?_⟩
            have e0 : hf' (n + ordS (o :: rest) 0) = H' := by
              rw [show n + ordS (o :: rest) 0 = n from rfl, h0 n (by omega), show (n == n) = true by simp]; rfl
            rw [e0]
            exact hst
          | succ k =>
            simp only [List.getElem?_cons_succ] at ho
            rw [e]
            exact h3 k o' ho
      | false =>
        rw [hd] at h
        simp only [cond_false] at h
        obtain ⟨qs, hf', h0, h3, h4⟩ := traceM rest (n + 1) _ _ h
        refine ⟨fun | 0 => .tup [] | j + 1 => qs j, hf', fun m hm => h0 m (by omega), fun k o' ho => ?_, h4⟩
        cases k with
        | zero =>
          simp only [List.getElem?_cons_zero, Option.some.injEq] at ho
          subst ho
          refine ⟨fun hn => (by rw [hso] at hn; cases hn), fun y hy => ⟨rfl, fun hdn => ?_⟩⟩
          rw [show n + ordS (o :: rest) 0 = n from rfl, hd] at hdn
          cases hdn
        | succ k =>
          simp only [List.getElem?_cons_succ] at ho
          rw [e]
          exact h3 k o' ho
theorem storeW_mono {t : TypeId} {H0 : Heap} {K K' : Heap → Prop} (hKK : ∀ X, K X → K' X) {p q : PV} (h : storeW tt t p q H0 K) : storeW tt t p q H0 K' := by
  obtain ⟨X, hX, hp⟩ := storeW_pt h
  unfold storeW at hp ⊢
  split at hp
  · obtain ⟨a1, a2, a3⟩ := hp
    refine ⟨a1, a2, ?_⟩
    split at a3
    · split at a3
      · exact ⟨a3.1, a3.2.1, a3.2.2.1, by rw [a3.2.2.2]; exact hKK _ hX⟩
      · exact a3.elim
    · obtain ⟨b1, b2, b3⟩ := a3
      refine ⟨b1, b2, ?_⟩
      split at b3
      · rw [b3]; exact hKK _ hX
      · exact ⟨b3.1, by rw [b3.2]; exact hKK _ hX⟩
    · exact ⟨a3.1, a3.2.1, by rw [a3.2.2]; exact hKK _ hX⟩
    · exact a3.elim
  · exact hp.elim
theorem anyT_sound (hT : TabOk P tt) {ops : Array Oper} (hr : RegOk ops.toList) (hd : ops.toList.all (fun o => dstOk nt o.dst) = true) {Q : Exit → Act → World → Prop} {F0 : Frame} {qs : Nat → PV} {hp : Array Bool → Heap}
    (hgd : ∀ (k : Nat) (o : Oper) (x : TypeId × Operand × Operand), ops.toList[k]? = some o → storeOf o.op = some x → o.guard = none ∧ o.dst = none)
    (hp1 : ∀ (k : Nat) (o : Oper) (listed : Array Bool), ops.toList[k]? = some o → storeOf o.op = none → hp (listed.setIfInBounds k true) = hp listed)
    (hy : ∀ (k : Nat) (o : Oper) (listed : Array Bool), ops.toList[k]? = some o → storeOf o.op = none → yieldsD P tt ops.toList o (frameAt F0 ops.toList qs k) (hp listed) (qs k))
    (hst : ∀ (k : Nat) (o : Oper) (x : TypeId × Operand × Operand) (listed : Array Bool), ops.toList[k]? = some o → storeOf o.op = some x → listed.getD k false = false → k < listed.size → storeW tt x.1 (ev (frameAt F0 ops.toList qs k).get x.2.1) (ev (frameAt F0 ops.toList qs k).get x.2.2) (hp listed) fun X => X = hp (listed.setIfInBounds k true))
    (hk : ∀ (listed : Array Bool) a' w', (∀ i, i < ops.toList.length → listed.getD i false = true) → St E nt (frameAt F0 ops.toList qs ops.toList.length) (hp listed) a' w' → Q .normal a' w') :
    ∀ (fuel : Nat) (listed : Array Bool) (F : Frame) (a : Act) (w : World), Inv ops.toList F0 qs listed F → St E nt F (hp listed) a w →
      ((List.range ops.size).filter fun i => listed.getD i false = false).length ≤ fuel → wpAny P .any ops Q fuel listed a w := by
  have fin : ∀ (listed : Array Bool) (F : Frame) (a : Act) (w : World), Inv ops.toList F0 qs listed F → St E nt F (hp listed) a w → (∀ i, i < ops.toList.length → listed.getD i false = true) → Q .normal a w := by
    intro listed F a w hi hs hall
    exact hk listed _ _ hall (hs.get (hi.fin hr hall))
  have readyNil : ∀ (listed : Array Bool) (F : Frame), Inv ops.toList F0 qs listed F → Region.ready .any ops listed = [] → ∀ i, i < ops.toList.length → listed.getD i false = true := by
    intro listed F hi hnil i
    induction i using Nat.strongRecOn with
    | _ i ih =>
      intro hlt
      cases hl : listed.getD i false with
      | true => rfl
      | false =>
        have hlt' : i < ops.size := by simpa using hlt
        have hmem : i ∈ Region.ready .any ops listed := by
          rw [mem_ready]
          refine ⟨?_, ops[i], Array.getElem?_eq_getElem hlt', fun e he hb => ?_⟩
          · have hsz : i < listed.size := by rw [hi.size]; exact hlt
            simp only [Array.getD_eq_getD_getElem?, Array.getElem?_eq_getElem hsz, Option.getD_some] at hl ⊢
            exact hl
          · have hb' := hr.back i ops[i] (by rw [Array.getElem?_toList]; exact Array.getElem?_eq_getElem hlt') e he hb
            exact ih e.on hb' (by omega)
        rw [hnil] at hmem
        cases hmem
  intro fuel
  induction fuel with
  | zero =>
    intro listed F a w hi hst0 hlen
    have hall : ∀ i, i < ops.toList.length → listed.getD i false = true := by
      intro i hlt
      cases hl : listed.getD i false with
      | true => rfl
      | false =>
        have : i ∈ (List.range ops.size).filter fun i => listed.getD i false = false := List.mem_filter.2 ⟨List.mem_range.2 (by simpa using hlt), by simpa using hl⟩
        rw [List.length_eq_zero_iff.1 (Nat.le_zero.1 hlen)] at this
        cases this
    refine ⟨?_, fin _ _ _ _ hi hst0 hall⟩
    cases hready : Region.ready .any ops listed with
    | nil => rfl
    | cons y ys =>
      have hx : y ∈ Region.ready .any ops listed := by rw [hready]; simp
      obtain ⟨hun, o, ho, _⟩ := mem_ready.1 hx
      have hlt : y < ops.toList.length := by have := (Array.getElem?_eq_some_iff.1 ho).1; simpa using this
      have := hall y hlt
      have hsz : y < listed.size := by rw [hi.size]; exact hlt
      simp only [Array.getD_eq_getD_getElem?, Array.getElem?_eq_getElem hsz, Option.getD_some] at this hun
      rw [this] at hun; cases hun
  | succ fuel ih =>
    intro listed F a w hi hst0 hlen
    refine ⟨fun hnil => fin _ _ _ _ hi hst0 (readyNil listed F hi hnil), fun i hmem => ?_⟩
    obtain ⟨hun0, o, ho, hready⟩ := mem_ready.1 hmem
    have ho' : ops.toList[i]? = some o := by rw [Array.getElem?_toList]; exact ho
    have hlt : i < ops.size := (Array.getElem?_eq_some_iff.1 ho).1
    have hsz : i < listed.size := by rw [hi.size]; simpa using hlt
    have hun : listed.getD i false = false := by
      simp only [Array.getD_eq_getD_getElem?, Array.getElem?_eq_getElem hsz, Option.getD_some] at hun0 ⊢
      exact hun0
    have hi' := hi.step hr ho' hun hready
    have hdk : dstOk nt o.dst = true := List.all_eq_true.1 hd o (by exact List.mem_of_getElem? ho')
    have hlen' : ((List.range ops.size).filter fun k => (listed.setIfInBounds i true).getD k false = false).length ≤ fuel := by
      have hsub : ((List.range ops.size).filter fun k => (listed.setIfInBounds i true).getD k false = false).length < ((List.range ops.size).filter fun k => listed.getD k false = false).length := by
        have h1 : ((List.range ops.size).filter fun k => (listed.setIfInBounds i true).getD k false = false) = ((List.range ops.size).filter fun k => listed.getD k false = false).filter fun k => !(k == i) := by
          rw [List.filter_filter]
          refine List.filter_congr fun k hkm => ?_
          by_cases e : k = i
          · subst e
            simp [hsz]
          · rw [getD_set_ne false (Ne.symm e)]
            simp [e]
        rw [h1]
        refine List.length_filter_lt_length_iff_exists.2 ⟨i, List.mem_filter.2 ⟨List.mem_range.2 hlt, by simpa using hun⟩, by simp⟩
      omega
    have hlooks := fun t ht => hi.reads hr ho' hun hready (t := t) ht
    cases hso : storeOf o.op with
    | some x =>
      obtain ⟨hg, hds⟩ := hgd i o x ho' hso
      have hst1 := hst i o x listed ho' hso hun hsz
      obtain ⟨ow, loc, hs, hf, hszt⟩ := hst0
      have hop := storeOf_some hso
      have hev := ev_congr (o := o) hlooks
      have hw : opW P tt o F (hp listed) fun F' H' => F' = F.put o.dst (.tup []) ∧ H' = hp (listed.setIfInBounds i true) := by
        have m1 : x.2.1 ∈ o.op.operands := by rw [hop]; simp [Op.operands]
        have m2 : x.2.2 ∈ o.op.operands := by rw [hop]; simp [Op.operands]
        unfold opW
        rw [hop]
        simp only
        rw [hev _ m1, hev _ m2]
        exact storeW_mono (fun X hX => ⟨by first | rfl | trivial, hX⟩) hst1
      unfold wpOp
      simp only [ho]
      have hwant : wantW ops.toList F o True False := by unfold wantW; rw [hg]; trivial
      rcases wanted_of hf.vals hwant with ⟨hwt, _⟩ | ⟨_, hno⟩
      · rw [if_pos hwt]
        left
        refine op_sound hT hdk hs hf hszt hw fun F' H' a' w' hK hst' => ?_
        obtain ⟨rfl, rfl⟩ := hK
        refine ih _ _ a' w' hi' ?_ hlen'
        rw [hds]
        rw [hds] at hst'
        exact hst'
      · exact hno.elim
    | none =>
      have e1 := hp1 i o listed ho' hso
      have hyi : yieldsD P tt ops.toList o F (hp listed) (qs i) := yields_congr hlooks (hy i o listed ho' hso)
      obtain ⟨ow, loc, hs, hf, hszt⟩ := hst0
      unfold wpOp
      simp only [ho]
      unfold yieldsD at hyi
      rcases wanted_of hf.vals hyi with ⟨hw, hyes⟩ | ⟨hw, hno⟩
      · rw [if_pos hw]
        left
        have hop : opL P tt o F (hp listed) (fun F' H' => F' = F.put o.dst (qs i) ∧ H' = hp listed) := opL_of_stepD (by
          exact hyes _ ⟨rfl, rfl⟩)
        refine opL_sound hT hdk hs hf hszt hop fun F' H' a' w' hK hst' => ?_
        obtain ⟨rfl, rfl⟩ := hK
        exact ih _ _ a' w' hi' (by rw [e1]; exact hst') hlen'
      · rw [if_neg (by rw [hw]; simp)]
        have hst' : St E nt (F.put o.dst (.tup [])) (hp listed) (a.put o.dst undef) w := put_st hs hf hszt hdk undef_ok (.tup [] fun i hi => by simp at hi)
        rw [hno] at hst'
        exact ih _ _ _ w hi' (by rw [e1]; exact hst') hlen'
theorem qs_same {ops : List Oper} (hR : RegOk ops) {F : Frame} {qs qs' : Nat → PV} (hall : ∀ (k : Nat) (o : Oper), ops[k]? = some o → storeOf o.op = none → o.dst.isSome = true) (hs : ∀ (k : Nat) (o : Oper) (x : TypeId × Operand × Operand), ops[k]? = some o → storeOf o.op = some x → qs k = .tup [] ∧ qs' k = .tup [])
    (h : frameAt F ops qs ops.length = frameAt F ops qs' ops.length) : ∀ k, k < ops.length → qs k = qs' k := by
  intro k hk
  have hko : ops[k]? = some (ops[k]'hk) := List.getElem?_eq_getElem _
  cases hso : storeOf (ops[k]'hk).op with
  | some x => rw [(hs k _ x hko hso).1, (hs k _ x hko hso).2]
  | none =>
    obtain ⟨t, ht⟩ := Option.isSome_iff_exists.1 (hall k _ hko hso)
    have hdst : dstAt ops k = some t := by unfold dstAt; rw [hko]; exact ht
    have huniq : ∀ i, i ≠ k → dstAt ops i ≠ some t := fun i hi hit => by
      obtain ⟨oi, hoi, hdi⟩ := dstAt_some hit
      exact hR.one i oi k _ t hoi hko hi ht hdi
    have g1 := frameAt_some ops F qs ops.length t k hk hdst huniq
    have g2 := frameAt_some ops F qs' ops.length t k hk hdst huniq
    rw [← g1, ← g2, h]
def heap4 (p q : Bool) (H0 A B C : Heap) : Heap := bif p then (bif q then C else A) else (bif q then B else H0)
theorem PW.regionT {id : Nat} {ops : Array Oper} {Q : Exit → Frame → Heap → Prop} (hT : TabOk P tt) (hm : P.follows .mixedOrders = true) (h1 : twoAt ops.toList (idx1 ops.toList) (idx2 ops.toList) = true) (hr : regOk ops.toList = true) (hd : ops.toList.all (fun o => dstOk nt o.dst) = true)
    (h : opsM P tt ops.toList (fun _ => true) ops.toList 0 F H (fun _ => H) fun F' hf => opsM P tt ops.toList (fun n => n == 1) ops.toList 0 F (hf 0) (fun _ => H) fun F1 hg => Same F' F1 ∧ opsM P tt ops.toList (fun n => n == 0) ops.toList 0 F (hf 1) (fun _ => H) fun F2 hh => Same F' F2 ∧ hh 0 = hg 1 ∧ opsX P tt ops.toList ops.toList F (hg 1) (Same F') ∧ Q .normal F' (hg 1)) : PW P E nt (.region id ops true) Q F H := fun a w hst => by
  obtain ⟨qs, hf, _, t0, h⟩ := traceM _ _ _ _ h
  obtain ⟨qs1, hg, _, t1, s1, h⟩ := traceM _ _ _ _ h
  obtain ⟨qs2, hh, _, t2, s2, hC, hx, hq⟩ := traceM _ _ _ _ h
  obtain ⟨qs3, t3, s3⟩ := traceX _ _ hx
  generalize idx1 ops.toList = j1 at h1
  generalize idx2 ops.toList = j2 at h1
  unfold twoAt at h1
  simp only [Bool.and_eq_true] at h1
  obtain ⟨⟨⟨⟨k1, k2⟩, k3⟩, k4⟩, k5⟩ := h1
  have k1 : j1 < j2 := by simpa [Nat.blt_eq] using k1
  have k2 : j2 < ops.toList.length := by simpa [Nat.blt_eq] using k2
  have k3 : ordS ops.toList j1 = 0 := by simpa using k3
  have k4 : ordS ops.toList j2 = 1 := by simpa using k4
  have hR := regOk_spec hr
  have hkind : ∀ k o, ops.toList[k]? = some o → (match storeOf o.op with | some _ => (k == j1 || k == j2) && o.guard.isNone && o.dst.isNone | none => k != j1 && k != j2 && o.dst.isSome) = true := fun k o ho => by
    have h := List.all_eq_true.1 k5 k (List.mem_range.2 (List.getElem?_eq_some_iff.1 ho).1)
    simp only [ho] at h
    exact h
  have hnone : ∀ k o, ops.toList[k]? = some o → storeOf o.op = none → k ≠ j1 ∧ k ≠ j2 ∧ o.dst.isSome = true := fun k o ho hn => by
    have h := hkind k o ho
    rw [hn] at h
    simp only [Bool.and_eq_true, bne_iff_ne, ne_eq] at h
    exact ⟨h.1.1, h.1.2, h.2⟩
  have hsome : ∀ k o x, ops.toList[k]? = some o → storeOf o.op = some x → (k = j1 ∨ k = j2) ∧ o.guard = none ∧ o.dst = none := fun k o x ho hn => by
    have h := hkind k o ho
    rw [hn] at h
    simp only [Bool.and_eq_true, Bool.or_eq_true, beq_iff_eq, Option.isNone_iff_eq_none] at h
    exact ⟨h.1.1, h.1.2, h.2⟩
  have q1 := qs_same hR (fun k o ho hn => (hnone k o ho hn).2.2) (fun k o x ho hn => ⟨((t0 k o ho).2 x hn).1, ((t1 k o ho).2 x hn).1⟩) s1
  have q2 := qs_same hR (fun k o ho hn => (hnone k o ho hn).2.2) (fun k o x ho hn => ⟨((t0 k o ho).2 x hn).1, ((t2 k o ho).2 x hn).1⟩) s2
  have q3 := qs_same hR (fun k o ho hn => (hnone k o ho hn).2.2) (fun k o x ho hn => ⟨((t0 k o ho).2 x hn).1, (t3 k o ho).2 x hn⟩) s3
  have f1 : ∀ k, k ≤ ops.toList.length → frameAt F ops.toList qs1 k = frameAt F ops.toList qs k := fun k hk => frameAt_congr _ _ _ _ _ hk fun j hj => (q1 j (by omega)).symm
  have f2 : ∀ k, k ≤ ops.toList.length → frameAt F ops.toList qs2 k = frameAt F ops.toList qs k := fun k hk => frameAt_congr _ _ _ _ _ hk fun j hj => (q2 j (by omega)).symm
  have f3 : ∀ k, k ≤ ops.toList.length → frameAt F ops.toList qs3 k = frameAt F ops.toList qs k := fun k hk => frameAt_congr _ _ _ _ _ hk fun j hj => (q3 j (by omega)).symm
  refine wp_region_any hm ?_
  refine anyT_sound (hp := fun listed => heap4 (listed.getD j1 false) (listed.getD j2 false) H (hf 0) (hf 1) (hg 1)) (qs := qs) (F0 := F) hT hR hd (fun k o x ho hn => (hsome k o x ho hn).2) (fun k o listed ho hn => ?_) (fun k o listed ho hn => ?_) (fun k o x listed ho hn hl hlt => ?_) (fun listed a' w' hall hst' => ⟨_, _, ?_, hst'⟩) ops.size (Array.replicate ops.size false) F a _ ⟨by simp, ?_, fun t _ => rfl, ?_⟩ ?_ (Nat.le_trans (List.length_filter_le _ _) (by simp))
  · obtain ⟨n1, n2, _⟩ := hnone k o ho hn
    rw [getD_set_ne false n1, getD_set_ne false n2]
  · have hk : k < ops.toList.length := (List.getElem?_eq_some_iff.1 ho).1
    have y0 := (t0 k o ho).1 hn
    have y1 := (t1 k o ho).1 hn
    have y2 := (t2 k o ho).1 hn
    have y3 := (t3 k o ho).1 hn
    rw [f1 k (by omega), ← q1 k hk] at y1
    rw [f2 k (by omega), ← q2 k hk] at y2
    rw [f3 k (by omega), ← q3 k hk] at y3
    show yieldsD P tt ops.toList o (frameAt F ops.toList qs k) (heap4 _ _ H (hf 0) (hf 1) (hg 1)) (qs k)
    cases listed.getD j1 false <;> cases listed.getD j2 false
    · exact y0
    · exact y2
    · exact y1
    · exact y3
  · have hk : k < ops.toList.length := (List.getElem?_eq_some_iff.1 ho).1
    have z0 := ((t0 k o ho).2 x hn).2 rfl
    have z1 := ((t1 k o ho).2 x hn).2
    have z2 := ((t2 k o ho).2 x hn).2
    rw [f1 k (by omega)] at z1
    rw [f2 k (by omega)] at z2
    have hset : (listed.setIfInBounds k true).getD k false = true := by simp [hlt]
    rcases (hsome k o x ho hn).1 with rfl | rfl
    · rw [k3] at z0 z1 z2
      have hne : (listed.setIfInBounds k true).getD j2 false = listed.getD j2 false := getD_set_ne false (by omega)
      show storeW tt x.1 _ _ (heap4 (listed.getD k false) (listed.getD j2 false) H (hf 0) (hf 1) (hg 1)) fun X => X = heap4 ((listed.setIfInBounds k true).getD k false) ((listed.setIfInBounds k true).getD j2 false) H (hf 0) (hf 1) (hg 1)
      rw [hl, hset, hne]
      cases listed.getD j2 false
      · exact z0
      · have := z2 rfl
        rw [hC] at this
        exact this
    · rw [k4] at z0 z1 z2
      have hne : (listed.setIfInBounds k true).getD j1 false = listed.getD j1 false := getD_set_ne false (by omega)
      show storeW tt x.1 _ _ (heap4 (listed.getD j1 false) (listed.getD k false) H (hf 0) (hf 1) (hg 1)) fun X => X = heap4 ((listed.setIfInBounds k true).getD j1 false) ((listed.setIfInBounds k true).getD k false) H (hf 0) (hf 1) (hg 1)
      rw [hl, hset, hne]
      cases listed.getD j1 false
      · exact z0
      · exact z1 rfl
  · intro j t _ hl
    rcases Nat.lt_or_ge j ops.size with hj | hj
    · simp [hj] at hl
    · simp [hj] at hl
  · intro j oj _ hl
    rcases Nat.lt_or_ge j ops.size with hj | hj
    · simp [hj] at hl
    · simp [hj] at hl
  · have e : ∀ j, (Array.replicate ops.size false).getD j false = false := fun j => by
      rcases Nat.lt_or_ge j ops.size with hj | hj
      · simp [hj]
      · simp [hj]
    show St E nt F (heap4 _ _ H (hf 0) (hf 1) (hg 1)) a _
    rw [e, e]
    exact hst.drawn
  · show Q .normal _ (heap4 (listed.getD j1 false) (listed.getD j2 false) H (hf 0) (hf 1) (hg 1))
    rw [hall j1 (by omega), hall j2 k2]
    exact hq
def OutA (F : Frame) (hf : Nat → Heap) (F' : Frame) (A B : Heap) : Prop := F' = F ∧ hf 0 = A ∧ hf 1 = B
def OutB (m : Nat) (F : Frame) (hf : Nat → Heap) (F' : Frame) (C : Heap) : Prop := F' = F ∧ hf m = C
theorem OutA.mk (F : Frame) (hf : Nat → Heap) : OutA F hf F (hf 0) (hf 1) := ⟨rfl, rfl, rfl⟩
theorem OutB.mk (m : Nat) (F : Frame) (hf : Nat → Heap) : OutB m F hf F (hf m) := ⟨rfl, rfl⟩
theorem opsM_imp {all : List Oper} {ds : Nat → Bool} : ∀ (rest : List Oper) (n : Nat) (F : Frame) (hf : Nat → Heap) {K K' : Frame → (Nat → Heap) → Prop}, (∀ F hf, K F hf → K' F hf) → opsM P tt all ds rest n F H hf K → opsM P tt all ds rest n F H hf K'
  | [], n, F, hf, K, K', hK, h => hK _ _ h
  | o :: rest, n, F, hf, K, K', hK, h => by
    unfold opsM at h ⊢
    cases hso : storeOf o.op with
    | none =>
      rw [hso] at h
      simp only at h ⊢
      rcases wantW_or h with ⟨h1, h2⟩ | ⟨h1, h2⟩
      · refine h2 _ _ ?_
        obtain ⟨q, hq, hs⟩ := stepD_pt o _ H _ h1
        exact hs _ (opsM_imp rest n _ _ hK hq)
      · exact h2 _ _ (opsM_imp rest n _ _ hK h1)
    | some x =>
      rw [hso] at h
      simp only at h ⊢
      cases hd : ds n with
      | true =>
        rw [hd] at h
        simp only [cond_true] at h ⊢
        exact storeW_mono (fun X hX => opsM_imp rest (n + 1) _ _ hK hX) h
      | false =>
        rw [hd] at h
        simp only [cond_false] at h ⊢
        exact opsM_imp rest (n + 1) _ _ hK h
theorem PW.regionT4 {id : Nat} {ops : Array Oper} {Q : Exit → Frame → Heap → Prop} {F' : Frame} {A B C : Heap} (hT : TabOk P tt) (hm : P.follows .mixedOrders = true) (h1 : twoAt ops.toList (idx1 ops.toList) (idx2 ops.toList) = true) (hr : regOk ops.toList = true) (hd : ops.toList.all (fun o => dstOk nt o.dst) = true)
    (g0 : opsM P tt ops.toList (fun _ => true) ops.toList 0 F H (fun _ => H) fun F1 hf => OutA F1 hf F' A B) (g1 : opsM P tt ops.toList (fun n => n == 1) ops.toList 0 F A (fun _ => H) fun F1 hf => OutB 1 F1 hf F' C) (g2 : opsM P tt ops.toList (fun n => n == 0) ops.toList 0 F B (fun _ => H) fun F1 hf => OutB 0 F1 hf F' C) (g3 : opsX P tt ops.toList ops.toList F C (Same F')) (g4 : Q .normal F' C) : PW P E nt (.region id ops true) Q F H := by
  refine PW.regionT hT hm h1 hr hd (opsM_imp _ _ _ _ (fun F1 hf h => ?_) g0)
  obtain ⟨rfl, rfl, rfl⟩ := h
  refine opsM_imp _ _ _ _ (fun F2 hg h => ?_) g1
  obtain ⟨rfl, rfl⟩ := h
  refine ⟨rfl, opsM_imp _ _ _ _ (fun F3 hh h => ?_) g2⟩
  obtain ⟨rfl, h⟩ := h
  exact ⟨rfl, h, g3, g4⟩
end
end Go.PV
namespace Go.Proofs.YtmoilbeomnapfaaGreatDoor
open Go Go.PV
section
variable {P : Program} {tt : Tab}
theorem opsM_nil {all : List Oper} {ds : Nat → Bool} {n : Nat} {F : PV.Frame} {H : PV.Heap} {hf : Nat → PV.Heap} {K : PV.Frame → (Nat → PV.Heap) → Prop} : opsM P tt all ds [] n F H hf K = K F hf := rfl
theorem opsM_cons {all : List Oper} {ds : Nat → Bool} {n : Nat} {o : Oper} {rest : List Oper} {F : PV.Frame} {H : PV.Heap} {hf : Nat → PV.Heap} {K : PV.Frame → (Nat → PV.Heap) → Prop} : opsM P tt all ds (o :: rest) n F H hf K = match o.op with
    | .store t p v => bif ds n then storeW tt t (ev F.get p) (ev F.get v) H (fun H' => opsM P tt all ds rest (n + 1) (F.put o.dst (.tup [])) H (fun m => bif m == n then H' else hf m) K) else opsM P tt all ds rest (n + 1) (F.put o.dst (.tup [])) H hf K
    | _ => wantW all F o (stepD P tt o (ev F.get) H fun q => opsM P tt all ds rest n (F.put o.dst q) H hf K) (opsM P tt all ds rest n (F.put o.dst (.tup [])) H hf K) := by
  obtain ⟨d, op, _, _, _, _⟩ := o
  cases op <;> rfl
end
theorem short_bounds (d : Nat) (hd : d < 18446744073709551616) : Meets Tryz.prog 18 [.int .u64 (d : Int)] (bndP d) := by
  have h1 := short_finite d hd
  have h2 := ieee_class d hd
  unfold bndP
  by_cases hf : finD d
  · rw [decide_eq_true hf] at h1
    rw [if_neg (fun h => h hf)]
    by_cases h0 : absD d = 0
    · rw [if_pos h0]
      exact bounds_walk _ _ 0 0 0 0 0 true _ false false _ [] [] _ 0 0 _ h1 (.inr (.inl ⟨rfl, class_zeroU.2 h0, h2, short_exact (m := 1) (e := -1075) (by decide) (by decide) (by decide), rfl⟩))
    · rw [if_neg h0]
      have hm0 : mantD d ≠ 0 := fun e => h0 (mantD_zero.1 e)
      have hml := mantD_lt d
      have he1 := expD_ge d
      have he2 := expD_le hf
      have he : -1100 ≤ spE d ∧ spE d ≤ 1000 := by unfold spE; omega
      have e60 : (2 : Nat) ^ 60 = 1152921504606846976 := by decide
      obtain ⟨l1, l2⟩ := lowM_bounds d hm0
      have hpar : Int.tmod (d : Int) 2 = ((d % 2 : Nat) : Int) := by rw [tmod_pos (by omega)]; omega
      have hb := bounds_walk (d : Int) _ _ _ _ _ ((d % 2 : Nat) : Int) true false _ _ [] _ _ 0 _ _ _ h1 (.inr (.inr ⟨rfl, fun e => h0 (class_zeroU.1 e), h2, short_around d hd hf h0, short_exact (m := lowM d) (e := spE d) (by omega) (by rw [e60]; omega) he, short_exact (m := 4 * mantD d + 2) (e := spE d) (by omega) (by rw [e60]; omega) he, hpar, rfl⟩))
      rw [decide_eq_decide.2 (show ((d % 2 : Nat) : Int) = 0 ↔ d % 2 = 0 by omega)] at hb
      exact hb
  · rw [decide_eq_false hf] at h1
    rw [if_pos hf]
    exact bounds_walk _ 0 0 0 0 0 0 false false false false [] [] [] 0 0 0 _ h1 (.inl ⟨rfl, rfl⟩)
theorem ref_bounds_walk (d a mid lo hi e : Int) (cl fin : Bool) (a1 a2 a3 : Bool) (s1 s2 s3 : List Int) (x1 x2 x3 : Int) (res : PV) (h1 : Meets Tryz.prog 31 [.int .u64 d] (.bool fin))
    (h : (fin = false ∧ res = .tup [dec0, dec0, .bool false, .int .i64 5]) ∨ (fin = true ∧ a = 0 ∧ Meets Tryz.prog 32 [.int .u64 d] (.int .u64 a) ∧ Meets Tryz.prog 39 [.int .u64 1, .int .i64 (-1075)] (.agg [.bool a1, .str s1, .int .i64 x1]) ∧ res = .tup [.agg [.bool false, .str [48], .int .i64 0], .agg [.bool a1, .str s1, .int .i64 x1], .bool true, .int .i64 0]) ∨
      (fin = true ∧ ¬ a = 0 ∧ Meets Tryz.prog 32 [.int .u64 d] (.int .u64 a) ∧ Meets Tryz.prog 33 [.int .u64 d] (spanP mid lo hi e cl) ∧ Meets Tryz.prog 39 [.int .u64 lo, .int .i64 e] (.agg [.bool a2, .str s2, .int .i64 x2]) ∧ Meets Tryz.prog 39 [.int .u64 hi, .int .i64 e] (.agg [.bool a3, .str s3, .int .i64 x3]) ∧
        res = .tup [.agg [.bool a2, .str s2, .int .i64 x2], .agg [.bool a3, .str s3, .int .i64 x3], .bool cl, .int .i64 0])) : Meets Tryz.prog 19 [.int .u64 d] res := by
  rcases h with ⟨rfl, rfl⟩ | ⟨rfl, rfl, h2, h3, rfl⟩ | ⟨rfl, c3, h2, h3, h4, h5, rfl⟩
  · skip
    refine meets_by ttOk Tryz.func19 Tryz.ntmps19 Tryz.results19 (by kernel_rfl) (c := _) rfl rfl rfl fun E => ?_
    simp only [argsFrame]
    exact walk
  · skip
    refine meets_by ttOk Tryz.func19 Tryz.ntmps19 Tryz.results19 (by kernel_rfl) (c := _) rfl rfl rfl fun E => ?_
    simp only [argsFrame]
    exact walk
  · have d3 : decide (a = 0) = false := decide_eq_false c3
    refine meets_by ttOk Tryz.func19 Tryz.ntmps19 Tryz.results19 (by kernel_rfl) (c := _) rfl rfl rfl fun E => ?_
    simp only [argsFrame]
    repeat' first
      | (with_reducible first | refine PW.seq ?_ | refine PW.block ?_ | refine PW.fork ?_ | refine PW.skip ?_ | refine PW.exit ?_ | refine PW.ret ?_ | refine PW.scope ?_ | refine PW.label ?_ | refine PW.goto ?_)
      | (simp only [d3])
      | (with_reducible refine PW.region ttOk ?_ ?_
         · rfl)
      | (refine PW.regionT4 (F' := ?_) (A := ?_) (B := ?_) (C := ?_) ttOk mixed rfl rfl rfl ?_ ?_ ?_ ?_ ?_)
      | (exact OutA.mk _ _)
      | (exact OutB.mk _ _ _)
      | (with_reducible refine PW.regionD ttOk mixed ?_ ?_ ?_
         · rfl
         · rfl)
      | (with_reducible refine ifW_dec (fun g => ?_) (fun g => ?_) <;> first | (exfalso; omega) | (simp -dsimp only [g, wkI]))
      | (with_reducible refine condE_dec (fun g => ?_) (fun g => ?_) <;> try (exfalso; omega))
      | (with_reducible refine condE_not (fun g => ?_) (fun g => ?_) <;> try (exfalso; omega))
      | (simp -dsimp only [↓opsM_nil, ↓opsM_cons, ↓opsX_nil, ↓opsX_cons, same_self, and_true, true_and, cond_true, cond_false, ↓wkA, ↓wkE, ↓wkJ, wkB, ↓tt, Nat.reduceBEq, Nat.reduceEqDiff, ↓reduceIte, Nat.reduceLT, Array.toList, Nat.reduceAdd, Nat.reduceMul, Int.reduceToNat, Int.reducePow, UInt8.reduceToNat])
      | (refine call_by (h1) (views_data rfl) ⟨trivial, trivial⟩ rfl ?_)
      | (refine call_by (h2) (views_data rfl) ⟨trivial, trivial⟩ rfl ?_)
      | (refine call_by (h3) (views_data rfl) ⟨trivial, trivial⟩ rfl ?_)
      | (refine callD_by (h4) (views_data rfl) ⟨trivial, trivial, trivial⟩ rfl ?_)
      | (refine callD_by (h5) (views_data rfl) ⟨trivial, trivial, trivial⟩ rfl ?_)
      | (exact Nat.one_ne_zero)
      | (with_reducible_and_instances refine And.intro rfl ?_)
      | (refine And.intro (Eq.refl 1) ?_)
      | (simp -dsimp (disch := first | assumption | omega) only [dec_t, dec_f])
      | (refine andI ?_)
      | (simp (disch := omega) only [wkW, Int.reduceToNat, Int.reducePow])
      | fail
theorem ref12_bounds (d : Nat) (hd : d < 18446744073709551616) : Meets Tryz.prog 19 [.int .u64 (d : Int)] (bndP d) := by
  have h1 := ref04_finite d hd
  have h2 := ref04_abs d hd
  unfold bndP
  by_cases hf : finD d
  · rw [decide_eq_true hf] at h1
    rw [if_neg (fun h => h hf)]
    by_cases h0 : absD d = 0
    · rw [if_pos h0]
      exact ref_bounds_walk _ _ 0 0 0 0 false true _ false false _ [] [] _ 0 0 _ h1 (.inr (.inl ⟨rfl, by omega, h2, ref12_exact (m := 1) (e := -1075) (by decide) (by decide) (by decide), rfl⟩))
    · rw [if_neg h0]
      have hm0 : mantD d ≠ 0 := fun e => h0 (mantD_zero.1 e)
      have hml := mantD_lt d
      have he1 := expD_ge d
      have he2 := expD_le hf
      have he : -1100 ≤ spE d ∧ spE d ≤ 1000 := by unfold spE; omega
      have e60 : (2 : Nat) ^ 60 = 1152921504606846976 := by decide
      obtain ⟨l1, l2⟩ := lowM_bounds d hm0
      exact ref_bounds_walk (d : Int) _ _ _ _ _ _ true false _ _ [] _ _ 0 _ _ _ h1 (.inr (.inr ⟨rfl, by omega, h2, ref12_span d hd hf h0, ref12_exact (m := lowM d) (e := spE d) (by omega) (by rw [e60]; omega) he, ref12_exact (m := 4 * mantD d + 2) (e := spE d) (by omega) (by rw [e60]; omega) he, rfl⟩))
  · rw [decide_eq_false hf] at h1
    rw [if_pos hf]
    exact ref_bounds_walk _ 0 0 0 0 0 false false false false false [] [] [] 0 0 0 _ h1 (.inl ⟨rfl, rfl⟩)
theorem drop_headD (s : List Int) {i : Nat} (h : i < s.length) : s.drop i = s.getD i 0 :: s.drop (i + 1) := by
  rw [List.drop_eq_getElem_cons h, List.getD_eq_getElem?_getD, List.getElem?_eq_getElem h]; rfl
theorem headL_topD {c : Int} : ∀ l : List Int, headL c l ≠ [] → (headL c l).getD 0 0 ≠ c
  | [], h => absurd rfl h
  | x :: r, h => by
    rw [headL] at h ⊢
    by_cases e : x = c
    · rw [if_pos e] at h ⊢; exact headL_topD r h
    · rw [if_neg e]; exact e
abbrev nmF (neg : Bool) (s : List Int) (x : Int) (i : Nat) : PV.Frame := [(7, .int .i64 (i : Int)), (6, .ptr 0 0 0), (0, .bool neg), (1, .str s), (2, .int .i64 x)]
abbrev nmG (neg : Bool) (s : List Int) (x : Int) (i l : Nat) : PV.Frame := [(8, .int .i64 (l : Int)), (7, .int .i64 (i : Int)), (6, .ptr 0 0 0), (0, .bool neg), (1, .str s), (2, .int .i64 x)]
abbrev nmH : PV.Heap := ⟨1, [(0, .var [.bool false, .str [], .int .i64 0])], [], [(0, 31)]⟩
theorem ref08_normal (neg : Bool) (s : List Int) (x : Int) (hx : InR x) (hsl : s.length ≤ 281474976710656) : Meets Tryz.prog 82 [.bool neg, .str s, .int .i64 x] (.agg [.bool neg, .str (normS s), .int .i64 (normX s x)]) := by
  obtain ⟨hx1, hx2⟩ := hx
  refine meets_by ttOk Tryz.func82 Tryz.ntmps82 Tryz.results82 (by kernel_rfl) (c := _) rfl rfl rfl fun E => ?_
  simp only [argsFrame]
  refine walk1 ?_
  refine PW.meetB (fun F H => ∃ i : Nat, i ≤ s.length ∧ s.drop i = headL 48 s ∧ F = nmF neg s x i ∧ H = nmH) ?_ ?_
  · refine PW.loopA (fun m F H => ∃ i : Nat, i + m = s.length ∧ headL 48 (s.drop i) = headL 48 s ∧ F = nmF neg s x i ∧ H = nmH) s.length (nmF neg s x 0) nmH (Sub.norm ⟨rfl, rfl, rfl, rfl, rfl, trivial⟩ ⟨rfl, trivial⟩ (Nat.le_refl _) rfl rfl rfl rfl (tyOk_spec rfl)) ⟨0, by omega, rfl, rfl, rfl⟩ ?_
    rintro m F H ⟨i, hi, he, rfl, rfl⟩
    cases m with
    | zero =>
      have e0 : i = s.length := by omega
      have hd : s.drop i = headL 48 s := by rw [← he, List.drop_of_length_le (by omega)]; rfl
      refine walk1 ?_
      exact Meet.mk (nmF neg s x i) nmH (Sub.norm ⟨rfl, rfl, rfl, rfl, rfl, trivial⟩ ⟨rfl, trivial⟩ (Nat.le_refl _) rfl rfl rfl rfl (tyOk_spec rfl)) ⟨i, by omega, hd, rfl, rfl⟩
    | succ m =>
      have hdr := drop_headD s (show i < s.length by omega)
      have w1 : IntKind.wrap .i64 ((i : Int) + 1) = ((i + 1 : Nat) : Int) := wrap_i64 (by omega)
      have dl : decide ((i : Int) < (s.length : Int)) = true := decide_eq_true (by omega)
      rw [hdr, headL] at he
      by_cases h0 : s.getD i 0 = 48
      · rw [if_pos h0] at he
        have d0 : decide (s.getD i 0 = 48) = true := decide_eq_true h0
        have W := cj w1 (cj dl (cj d0 Int.toNat_natCast))
        refine walk1 ?_
        exact Again.mk m (nmF neg s x (i + 1)) nmH (by omega) (Sub.norm ⟨rfl, rfl, rfl, rfl, rfl, trivial⟩ ⟨rfl, trivial⟩ (Nat.le_refl _) rfl rfl rfl rfl (tyOk_spec rfl)) ⟨i + 1, by omega, he, rfl, rfl⟩
      · rw [if_neg h0, ← hdr] at he
        have d0 : decide (s.getD i 0 = 48) = false := decide_eq_false h0
        have W := cj w1 (cj dl (cj d0 Int.toNat_natCast))
        refine walk1 ?_
        exact Meet.mk (nmF neg s x i) nmH (Sub.norm ⟨rfl, rfl, rfl, rfl, rfl, trivial⟩ ⟨rfl, trivial⟩ (Nat.le_refl _) rfl rfl rfl rfl (tyOk_spec rfl)) ⟨i, by omega, he, rfl, rfl⟩
  rintro F H ⟨i, hi, hd, rfl, rfl⟩
  unfold normS normX
  have hhl := congrArg List.length hd
  rw [List.length_drop] at hhl
  by_cases h0 : headL 48 s = []
  · rw [if_pos h0, if_pos h0]
    rw [h0] at hhl
    have d0 : decide ((i : Int) = (s.length : Int)) = true := decide_eq_true (by simp at hhl; omega)
    clear hd
    have W := d0
    exact walk
  · rw [if_neg h0, if_neg h0]
    have htop := headL_topD s h0
    have hpos := List.length_pos_iff.2 h0
    have d0 : decide ((i : Int) = (s.length : Int)) = false := decide_eq_false (by omega)
    have hend : endN (headL 48 s) 48 (headL 48 s).length ≠ 0 := fun e => htop ((endN_zero _).1 e 0 hpos)
    have hgd : ∀ j, s.getD (i + j) 0 = (headL 48 s).getD j 0 := fun j => by rw [← hd]; exact getD_drop'.symm
    have htk : ∀ k, (s.drop i).take k = (headL 48 s).take k := fun k => by rw [hd]
    generalize headL 48 s = h at *
    clear hd
    have W := d0
    refine walk1 ?_
    refine PW.loopA (fun m F H => m ≤ h.length ∧ endN h 48 m = endN h 48 h.length ∧ F = nmG neg s x i (i + m) ∧ H = nmH) h.length (nmG neg s x i (i + h.length)) nmH (Sub.norm ⟨by rw [show i + h.length = s.length by omega]; rfl, rfl, rfl, rfl, rfl, rfl, trivial⟩ ⟨rfl, trivial⟩ (Nat.le_refl _) rfl rfl rfl rfl (tyOk_spec rfl)) ⟨Nat.le_refl _, rfl, rfl, rfl⟩ ?_
    rintro m F H ⟨hm, he, rfl, rfl⟩
    cases m with
    | zero => exact absurd (he ▸ rfl : endN h 48 h.length = 0) hend
    | succ m =>
      have w1 : IntKind.wrap .i64 (((i + (m + 1) : Nat) : Int) - 1) = ((i + m : Nat) : Int) := by rw [wrap_i64 (by omega)]; omega
      have hg := hgd m
      by_cases h2 : h.getD m 0 = 48
      · have d1 : decide (h.getD m 0 = 48) = true := decide_eq_true h2
        have he2 : endN h 48 m = endN h 48 h.length := by rw [← he, endN, if_pos h2]
        have W := cj w1 (cj hg (cj d1 Int.toNat_natCast))
        refine walk1 ?_
        exact Again.mk m (nmG neg s x i (i + m)) nmH (by omega) (Sub.norm ⟨rfl, rfl, rfl, rfl, rfl, rfl, trivial⟩ ⟨rfl, trivial⟩ (Nat.le_refl _) rfl rfl rfl rfl (tyOk_spec rfl)) ⟨by omega, he2, rfl, rfl⟩
      · have d1 : decide (h.getD m 0 = 48) = false := decide_eq_false h2
        have he2 : endN h 48 h.length = m + 1 := by rw [← he, endN, if_neg h2]
        rw [he2]
        have w2 : IntKind.wrap .i64 (x + (s.length : Int)) = x + (s.length : Int) := wrap_i64 (by omega)
        have w3 : IntKind.wrap .i64 (x + (s.length : Int) - ((i + (m + 1) : Nat) : Int)) = x + (h.length : Int) - ((m + 1 : Nat) : Int) := by rw [wrap_i64 (by omega)]; omega
        have w4 : (((i + (m + 1) : Nat) : Int) - (i : Int)).toNat = m + 1 := by omega
        have ht : List.drop i (List.take (i + (m + 1)) s) = List.take (m + 1) h := by rw [List.drop_take, Nat.add_sub_cancel_left]; exact htk (m + 1)
        have W := cj w1 (cj w2 (cj w3 (cj w4 (cj hg (cj d1 (cj ht Int.toNat_natCast))))))
        exact walk
end Go.Proofs.YtmoilbeomnapfaaGreatDoor

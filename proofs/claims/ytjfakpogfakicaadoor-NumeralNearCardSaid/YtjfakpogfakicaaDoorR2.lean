import Derived.Test.YtjfakpogfakicaaDoorK1
import Derived.Shelf.Spec.BitsCarry
set_option linter.unusedVariables false
set_option linter.unusedSimpArgs false
namespace Go.Proofs.YtjfakpogfakicaaDoor
open Go Go.PV

theorem sub64 {x y c : Int} (hx : 0 ≤ x ∧ x < 18446744073709551616) (hy : 0 ≤ y ∧ y < 18446744073709551616) (hc : 0 ≤ c ∧ c ≤ 1) : Meets Tryd.prog 21 [.int .u64 x, .int .u64 y, .int .u64 c] (.tup [.int .u64 ((x - y - c) % 18446744073709551616), .int .u64 (-((x - y - c) / 18446744073709551616))]) :=
  meets_extern Tryd.func21 (by kernel_rfl) (by kernel_rfl) (by kernel_rfl) (e := sub64Entry) (by kernel_rfl) fun w A vs hl ha => by
    obtain rfl := args3 hl ha
    obtain ⟨x, rfl⟩ := Int.eq_ofNat_of_zero_le hx.1
    obtain ⟨y, rfl⟩ := Int.eq_ofNat_of_zero_le hy.1
    obtain ⟨c, rfl⟩ := Int.eq_ofNat_of_zero_le hc.1
    refine ⟨_, run_sub64 x y c (by omega) w, .tup _ _ rfl fun i hi => ?_⟩
    have e1 : ((((x + 18446744073709551616 - y - c) % 18446744073709551616 : Nat)) : Int) = ((x : Int) - y - c) % 18446744073709551616 := by omega
    have e2 : ((if x < y + c then 1 else 0 : Nat) : Int) = -(((x : Int) - y - c) / 18446744073709551616) := by split <;> omega
    rw [e1, e2]
    match i, hi with
    | 0, _ => exact .int _ _
    | 1, _ => exact .int _ _

/-- What the rounds of a difference keep. -/
structure SubS (a b o : List Int) (i : Nat) (c : Int) : Prop where
  len : o.length = a.length
  lim : Limbs o
  car : 0 ≤ c ∧ c ≤ 1
  eq : vt o i = vt a i - vt b i + B64 ^ i * c

theorem SubS.step {a b o : List Int} {i : Nat} {c s : Int} (h : SubS a b o i c) (ha : Limbs a) (hb : Limbs b) (hi : i < a.length) (hs : s = a.getD i 0 - b.getD i 0 - c) : SubS a b (o.set i (s % 18446744073709551616)) (i + 1) (-(s / 18446744073709551616)) := by
  have hlt : i < o.length := by rw [h.len]; exact hi
  have hx := getD_limb ha i
  have hy := getD_limb hb i
  have hc := h.car
  simp only [B64] at hx hy
  refine ⟨by rw [List.length_set, h.len], limbs_set h.lim _ ⟨Int.emod_nonneg _ (by decide), Int.emod_lt_of_pos _ (by decide)⟩, by omega, ?_⟩
  simp only [vt]
  rw [vt_set_ge _ _ _ _ hlt (Nat.le_refl _), getD_set _ _ _ _ hlt, if_pos rfl, h.eq, Int.pow_succ]
  have hsum : 18446744073709551616 * (s / 18446744073709551616) + s % 18446744073709551616 = s := Int.mul_ediv_add_emod s 18446744073709551616
  rw [hs] at hsum ⊢
  simp only [B64]
  generalize (18446744073709551616 : Int) ^ i = p at *
  generalize (a.getD i 0 - b.getD i 0 - c) / 18446744073709551616 = q at *
  generalize (a.getD i 0 - b.getD i 0 - c) % 18446744073709551616 = r at *
  grind

theorem vt_beyond {b : List Int} : ∀ n, b.length ≤ n → vt b n = val b := fun n h => by
  obtain ⟨d, rfl⟩ := Nat.exists_eq_add_of_le h
  clear h
  induction d with
  | zero => rfl
  | succ d ih =>
    rw [show b.length + (d + 1) = (b.length + d) + 1 by omega]
    simp only [vt]
    rw [ih, List.getD_eq_getElem?_getD, List.getElem?_eq_none (by omega)]
    simp

theorem SubS.fin {a b o : List Int} {c : Int} (h : SubS a b o a.length c) (hlen : b.length ≤ a.length) (hle : val b ≤ val a) : val o = val a - val b := by
  have h1 := h.eq
  rw [vt_beyond _ hlen, vt_beyond _ (Nat.le_refl _), ← h.len, show vt o o.length = val o from rfl] at h1
  have h2 := (vt_bound h.lim o.length).2
  have h3 : val o < B64 ^ o.length := h2
  have hp := pow_pos64 o.length
  have hc := h.car
  rcases (show c = 0 ∨ c = 1 by omega) with rfl | rfl
  · omega
  · omega

theorem size_as {a : List Int} (hla : a.length ≤ 4096) (hsa : size a = a.length) : Meets Tryd.prog 17 [.ints .u64 a] (.int .i64 (a.length : Int)) := by
  have := nat_size a (by omega)
  rwa [hsa] at this
theorem big_as {a : List Int} (hla : a.length ≤ 4096) (hsa : size a = a.length) : Meets Tryd.prog 16 [.ints .u64 a] (.bool false) := by
  have := nat_big a (by omega)
  rwa [hsa, decide_eq_false (by omega)] at this
theorem cut_as {o : List Int} (ho : Limbs o) (hol : o.length ≤ 100000) {v : Nat} (hv : val o = v) (hm : v < NMax) : Meets Tryd.prog 20 [.ints .u64 o] (.tup [.ints .u64 (natL v), .int .i64 0]) := by
  have h := nat_cut o (by omega)
  have ht : trim o = natL v := by rw [trim_eq ho, hv, Int.toNat_natCast]
  have hs : ¬ 4096 < size o := by rw [← trim_len, ht]; have := natL_small hm; omega
  rwa [if_neg hs, ht] at h

abbrev sbF (a b : List Int) (i : Nat) (c : Int) : PV.Frame := [(34, .int .i64 (i : Int)), (33, .int .i64 a.length), (32, .ints .u64 a), (7, .int .u64 c), (6, .sl 0 0 a.length true), (1, .ints .u64 b), (0, .ints .u64 a)]

theorem sub_list (a b : List Int) (ha : Limbs a) (hb : Limbs b) (hla : a.length ≤ 4096) (hlb : b.length ≤ 4096) (hsa : size a = a.length) (hsb : size b = b.length) (hlen : b.length ≤ a.length) (hle : val b ≤ val a) (v : Nat) (hv : val a - val b = v) (hm : v < NMax) :
    Meets Tryd.prog 10 [.ints .u64 a, .ints .u64 b] (.tup [.ints .u64 (natL v), .int .i64 0]) := by
  have hcm := nat_cmp a b ha hb (by omega) (by omega)
  have hc0 : 0 ≤ cmpN a b := by unfold cmpN; split <;> (try split) <;> omega
  have s1 := size_as hla hsa
  have s2 := size_as hlb hsb
  have b1 := big_as hla hsa
  have b2 := big_as hlb hsb
  have hcut : ∀ o, Limbs o → o.length ≤ 100000 → val o = v → Meets Tryd.prog 20 [.ints .u64 o] (.tup [.ints .u64 (natL v), .int .i64 0]) := fun o h1 h2 h3 => cut_as h1 h2 h3 hm
  generalize cmpN a b = cm at *
  generalize natL v = res at *
  clear hm hsa hsb
  refine meets_by ttOk Tryd.func10 Tryd.ntmps10 Tryd.results10 (by kernel_rfl) (c := _) rfl rfl rfl fun E => ?_
  simp only [argsFrame]
  repeat' first
    | (with_reducible first | refine PW.seq ?_ | refine PW.block ?_ | refine PW.fork ?_ | refine PW.skip ?_ | refine PW.exit ?_ | refine PW.ret ?_)
    | (with_reducible refine PW.region ttOk ?_ ?_
       · rfl)
    | (with_reducible refine PW.regionD ttOk mixed ?_ ?_ ?_
       · rfl
       · rfl)
    | (with_reducible refine ifW_dec (fun g => ?_) (fun g => ?_) <;> first | (exfalso; omega) | (simp -dsimp only [g, wkI]))
    | (with_reducible refine condE_dec (fun g => ?_) (fun g => ?_) <;> try (exfalso; omega))
    | (with_reducible refine condE_not (fun g => ?_) (fun g => ?_) <;> try (exfalso; omega))
    | (simp -dsimp only [↓wkA, wkB, ↓tt, Nat.reduceBEq, Nat.reduceEqDiff, ↓reduceIte, Nat.reduceLT, Array.toList, Nat.reduceAdd, Nat.reduceMul, Int.reduceToNat, Int.reducePow, UInt8.reduceToNat])
    | (refine call_by b1 (views_data rfl) ⟨trivial, trivial⟩ rfl ?_)
    | (refine call_by b2 (views_data rfl) ⟨trivial, trivial⟩ rfl ?_)
    | (refine call_by hcm (views_data rfl) ⟨trivial, trivial, trivial⟩ rfl ?_)
    | (refine callD_by s1 (views_data rfl) ⟨trivial, trivial⟩ rfl ?_)
    | (refine callD_by s2 (views_data rfl) ⟨trivial, trivial⟩ rfl ?_)
    | (simp -dsimp (disch := first | assumption | omega) only [dec_t, dec_f])
    | (refine And.intro ?_ ?_
       · first | omega | decide | (simp (disch := omega) only [wkW, Int.reduceToNat, Int.reducePow] <;> omega) | (simp <;> omega))
    | (simp (disch := omega) only [wkW, Int.reduceToNat, Int.reducePow])
    | fail
  refine PW.loopA (fun m F H => ∃ i o c, i + m = a.length ∧ SubS a b o i c ∧ F = sbF a b i c ∧ H = ⟨1, [(0, .ints .u64 o)], [], []⟩) a.length (sbF a b 0 0) ⟨1, [(0, .ints .u64 (List.replicate a.length 0))], [], []⟩ (Sub.norm ⟨rfl, rfl, rfl, rfl, rfl, rfl, rfl, trivial⟩ ⟨?_, trivial⟩ (by simp) rfl rfl rfl rfl) ⟨0, _, 0, by omega, ⟨by simp, fun x hx => by rw [List.eq_of_mem_replicate hx]; decide, by decide, by simp [vt]⟩, rfl, rfl⟩ ?_
  · simp (disch := omega) only [↓wkA, wkB, ↓tt, Nat.reduceBEq, Nat.reduceEqDiff, ↓reduceIte, Nat.reduceLT, Array.toList, Nat.reduceAdd, Nat.reduceMul, Int.reduceToNat, Int.reducePow, UInt8.reduceToNat, wkW, Int.reduceToNat, Int.reducePow]
  rintro m F H ⟨i, o, c, hi, hS, rfl, rfl⟩
  have hol := hS.len
  cases m with
  | zero =>
    obtain rfl : i = a.length := by omega
    have hc := hcut o hS.lim (by omega) (by rw [hS.fin hlen hle]; exact hv)
    repeat' first
      | (with_reducible first | refine PW.seq ?_ | refine PW.block ?_ | refine PW.fork ?_ | refine PW.skip ?_ | refine PW.exit ?_ | refine PW.ret ?_)
      | (with_reducible refine PW.region ttOk ?_ ?_
         · rfl)
      | (with_reducible refine PW.regionD ttOk mixed ?_ ?_ ?_
         · rfl
         · rfl)
      | (with_reducible refine ifW_dec (fun g => ?_) (fun g => ?_) <;> first | (exfalso; omega) | (simp -dsimp only [g, wkI]))
      | (with_reducible refine condE_dec (fun g => ?_) (fun g => ?_) <;> try (exfalso; omega))
      | (with_reducible refine condE_not (fun g => ?_) (fun g => ?_) <;> try (exfalso; omega))
      | (simp -dsimp only [↓wkA, wkB, ↓tt, Nat.reduceBEq, Nat.reduceEqDiff, ↓reduceIte, Nat.reduceLT, Array.toList, Nat.reduceAdd, Nat.reduceMul, Int.reduceToNat, Int.reducePow, UInt8.reduceToNat])
      | (refine call_drop (args' := [.ints .u64 o]) (by simp -dsimp only [↓wkA, wkB, ↓tt, Nat.reduceBEq, Nat.reduceEqDiff, ↓reduceIte, Nat.reduceLT, Array.toList, Nat.reduceAdd, Nat.reduceMul, Int.reduceToNat, Int.reducePow, UInt8.reduceToNat] <;> rw [List.take_of_length_le (by omega)]) hc (by simp -dsimp only [okViews, ↓wkA, wkB, ↓tt, Nat.reduceBEq, Nat.reduceEqDiff, ↓reduceIte, Nat.reduceLT, Array.toList, Nat.reduceAdd, Nat.reduceMul, Int.reduceToNat, Int.reducePow, UInt8.reduceToNat] <;> omega) rfl ?_)
      | (simp -dsimp (disch := first | assumption | omega) only [dec_t, dec_f])
      | (refine And.intro ?_ ?_
         · first | omega | decide | (simp (disch := omega) only [wkW, Int.reduceToNat, Int.reducePow] <;> omega) | (simp <;> omega))
      | (simp (disch := omega) only [wkW, Int.reduceToNat, Int.reducePow])
      | fail
  | succ m =>
    have hx := getD_limb ha i
    have hy := getD_limb hb i
    have hc := hS.car
    simp only [B64] at hx hy
    have hstep := hS.step ha hb (by omega) rfl
    have h64 := sub64 hx hy hc
    by_cases hib : i < b.length
    · skip
      repeat' first
        | (with_reducible first | refine PW.seq ?_ | refine PW.block ?_ | refine PW.fork ?_ | refine PW.skip ?_ | refine PW.exit ?_ | refine PW.ret ?_)
        | (with_reducible refine PW.region ttOk ?_ ?_
           · rfl)
        | (with_reducible refine PW.regionD ttOk mixed ?_ ?_ ?_
           · rfl
           · rfl)
        | (with_reducible refine ifW_dec (fun g => ?_) (fun g => ?_) <;> first | (exfalso; omega) | (simp -dsimp only [g, wkI]))
        | (with_reducible refine condE_dec (fun g => ?_) (fun g => ?_) <;> try (exfalso; omega))
        | (with_reducible refine condE_not (fun g => ?_) (fun g => ?_) <;> try (exfalso; omega))
        | (simp -dsimp only [↓wkA, wkB, ↓tt, Nat.reduceBEq, Nat.reduceEqDiff, ↓reduceIte, Nat.reduceLT, Array.toList, Nat.reduceAdd, Nat.reduceMul, Int.reduceToNat, Int.reducePow, UInt8.reduceToNat])
        | (refine call_by h64 (views_data rfl) ⟨trivial, trivial, trivial, trivial⟩ rfl ?_)
        | (simp -dsimp (disch := first | assumption | omega) only [dec_t, dec_f])
        | (refine And.intro ?_ ?_
           · first | omega | decide | (simp (disch := omega) only [wkW, Int.reduceToNat, Int.reducePow] <;> omega) | (simp <;> omega))
        | (simp (disch := omega) only [wkW, Int.reduceToNat, Int.reducePow])
        | fail
      exact Again.mk m (sbF a b (i + 1) _) ⟨1, [(0, .ints .u64 _)], [], []⟩ (by omega) (Sub.norm ⟨rfl, rfl, rfl, rfl, rfl, rfl, rfl, trivial⟩ ⟨rfl, trivial⟩ (Nat.le_refl _) rfl rfl rfl rfl) ⟨i + 1, _, _, by omega, hstep, rfl, rfl⟩
    · have hy0 : b.getD i 0 = 0 := by rw [List.getD_eq_getElem?_getD, List.getElem?_eq_none (by omega)]; rfl
      rw [hy0] at h64 hstep
      repeat' first
        | (with_reducible first | refine PW.seq ?_ | refine PW.block ?_ | refine PW.fork ?_ | refine PW.skip ?_ | refine PW.exit ?_ | refine PW.ret ?_)
        | (with_reducible refine PW.region ttOk ?_ ?_
           · rfl)
        | (with_reducible refine PW.regionD ttOk mixed ?_ ?_ ?_
           · rfl
           · rfl)
        | (with_reducible refine ifW_dec (fun g => ?_) (fun g => ?_) <;> first | (exfalso; omega) | (simp -dsimp only [g, wkI]))
        | (with_reducible refine condE_dec (fun g => ?_) (fun g => ?_) <;> try (exfalso; omega))
        | (with_reducible refine condE_not (fun g => ?_) (fun g => ?_) <;> try (exfalso; omega))
        | (simp -dsimp only [↓wkA, wkB, ↓tt, Nat.reduceBEq, Nat.reduceEqDiff, ↓reduceIte, Nat.reduceLT, Array.toList, Nat.reduceAdd, Nat.reduceMul, Int.reduceToNat, Int.reducePow, UInt8.reduceToNat])
        | (refine call_by h64 (views_data rfl) ⟨trivial, trivial, trivial, trivial⟩ rfl ?_)
        | (simp -dsimp (disch := first | assumption | omega) only [dec_t, dec_f])
        | (refine And.intro ?_ ?_
           · first | omega | decide | (simp (disch := omega) only [wkW, Int.reduceToNat, Int.reducePow] <;> omega) | (simp <;> omega))
        | (simp (disch := omega) only [wkW, Int.reduceToNat, Int.reducePow])
        | fail
      exact Again.mk m (sbF a b (i + 1) _) ⟨1, [(0, .ints .u64 _)], [], []⟩ (by omega) (Sub.norm ⟨rfl, rfl, rfl, rfl, rfl, rfl, rfl, trivial⟩ ⟨rfl, trivial⟩ (Nat.le_refl _) rfl rfl rfl rfl) ⟨i + 1, _, _, by omega, hstep, rfl, rfl⟩
end Go.Proofs.YtjfakpogfakicaaDoor


import Derived.Test.YtjfakpogfakicaaDoorN4
set_option linter.unusedVariables false
set_option linter.unusedSimpArgs false
namespace Go.Proofs.YtjfakpogfakicaaDoor
open Go Go.PV

theorem vt_inj {a b : List Int} (ha : Limbs a) (hb : Limbs b) : ∀ n, vt a n = vt b n → ∀ j, j < n → a.getD j 0 = b.getD j 0
  | 0, _, j, h => by omega
  | n + 1, h, j, hj => by
    have e : a.getD n 0 = b.getD n 0 := by
      rcases Int.lt_trichotomy (a.getD n 0) (b.getD n 0) with h1 | h1 | h1
      · have := vt_top ha hb h1 (n + 1) (by omega) fun j h1 h2 => by omega
        omega
      · exact h1
      · have := vt_top hb ha h1 (n + 1) (by omega) fun j h1 h2 => by omega
        omega
    by_cases hjn : j = n
    · subst hjn; exact e
    · simp only [vt, e] at h
      exact vt_inj ha hb n (by omega) j (by omega)

theorem val_inj {a b : List Int} (ha : Limbs a) (hb : Limbs b) (hl : a.length = b.length) (h : val a = val b) : a = b := by
  refine List.ext_getElem hl fun i h1 h2 => ?_
  have := vt_inj ha hb a.length (by unfold val at h; rw [h, hl]) i h1
  simpa [List.getD_eq_getElem?_getD, List.getElem?_eq_getElem h1, List.getElem?_eq_getElem h2] using this

/-- n limbs of a number. -/
def limbsOf (n v : Nat) : List Int := (List.range n).map fun i => ((v / 18446744073709551616 ^ i % 18446744073709551616 : Nat) : Int)
theorem limbsOf_length (n v : Nat) : (limbsOf n v).length = n := by simp [limbsOf]
theorem limbsOf_limbs (n v : Nat) : Limbs (limbsOf n v) := by
  intro x hx
  obtain ⟨i, _, rfl⟩ := List.mem_map.1 hx
  have := Nat.mod_lt (v / 18446744073709551616 ^ i) (show 18446744073709551616 > 0 by decide)
  omega
theorem limbsOf_getD {n v i : Nat} (h : i < n) : (limbsOf n v).getD i 0 = ((v / 18446744073709551616 ^ i % 18446744073709551616 : Nat) : Int) := by
  unfold limbsOf; rw [List.getD_eq_getElem?_getD, List.getElem?_map, List.getElem?_range h]; simp only [Option.map_some, Option.getD_some]
theorem limbsOf_vt (n v : Nat) : ∀ k, k ≤ n → vt (limbsOf n v) k = ((v % 18446744073709551616 ^ k : Nat) : Int)
  | 0, _ => by simp [vt, Nat.mod_one]
  | k + 1, h => by
    simp only [vt]
    rw [limbsOf_vt n v k (by omega), limbsOf_getD (by omega), Nat.pow_succ, Nat.mod_mul]
    have e : B64 ^ k = ((18446744073709551616 ^ k : Nat) : Int) := by rw [Int.natCast_pow]; rfl
    rw [e]
    generalize 18446744073709551616 ^ k = q
    generalize v / q % 18446744073709551616 = d
    rw [Int.natCast_add, Int.natCast_mul]
theorem limbsOf_val {n v : Nat} (h : v < 18446744073709551616 ^ n) : val (limbsOf n v) = v := by
  unfold val
  rw [limbsOf_length, limbsOf_vt n v n (Nat.le_refl _), Nat.mod_eq_of_lt h]

def MulO (a b : List Int) (n : Nat) (F : PV.Frame) (H : PV.Heap) : Prop :=
  ∃ (i : Nat) (o : List Int), i + n = a.length ∧ MulOut a b o i ∧ F = [(52, .int .i64 i), (51, .int .i64 a.length), (50, .ints .u64 a), (6, .sl 0 0 (a.length + b.length) true), (1, .ints .u64 b), (0, .ints .u64 a)] ∧ H = ⟨1, [(0, .ints .u64 o)], [], []⟩

def MulI (a b o0 : List Int) (i : Nat) (n : Nat) (F : PV.Frame) (H : PV.Heap) : Prop :=
  ∃ (j : Nat) (o : List Int) (c : Int), j + n = b.length ∧ MulIn a b o0 o i j c ∧ F = [(59, .int .i64 j), (58, .int .i64 b.length), (57, .ints .u64 b), (9, .int .u64 c), (8, .int .u64 (a.getD i 0)), (7, .int .i64 i), (52, .int .i64 i), (51, .int .i64 a.length), (50, .ints .u64 a), (6, .sl 0 0 (a.length + b.length) true), (1, .ints .u64 b), (0, .ints .u64 a)] ∧ H = ⟨1, [(0, .ints .u64 o)], [], []⟩

theorem vt_zeros (n : Nat) : ∀ k, vt (List.replicate n 0) k = 0
  | 0 => rfl
  | k + 1 => by
    simp only [vt]
    rw [vt_zeros n k]
    have : (List.replicate n (0 : Int)).getD k 0 = 0 := by simp [List.getD_eq_getElem?_getD, List.getElem?_replicate]; split <;> rfl
    rw [this]; simp

theorem mul_begin (a b : List Int) : MulOut a b (List.replicate (a.length + b.length) 0) 0 :=
  ⟨by simp, fun x hx => by have := List.eq_of_mem_replicate hx; subst this; decide, by rw [vt_zeros]; simp [vt], fun k _ => by simp [List.getD_eq_getElem?_getD, List.getElem?_replicate]; split <;> rfl⟩

set_option maxHeartbeats 4000000 in
theorem nat_mul (a0 b0 : List Int) (ha0 : Limbs a0) (hb0 : Limbs b0) (hla : a0.length ≤ 9223372036854775807) (hlb : b0.length ≤ 9223372036854775807) (hsa : size a0 ≤ 4096) (hsb : size b0 ≤ 4096) (h0a : 0 < size a0) (h0b : 0 < size b0) (hsum : size a0 + size b0 ≤ 4097)
    (p : List Int) (hp : p = limbsOf (size a0 + size b0) (val a0 * val b0).toNat) : Meets Tryd.prog 8 [.ints .u64 a0, .ints .u64 b0] (.tup (if 4096 < size p then [.nil, .int .i64 2] else [.ints .u64 (trim p), .int .i64 0])) := by
  refine meets_by ttOk Tryd.func8 Tryd.ntmps8 Tryd.results8 (by kernel_rfl) (c := _) rfl rfl rfl fun E => ?_
  simp only [argsFrame]
  have hsa' := size_le a0
  have hsb' := size_le b0
  have hba : decide (4096 < size a0) = false := by simp; omega
  have hbb : decide (4096 < size b0) = false := by simp; omega
  have hal : (List.take (size a0) a0).length = size a0 := by simp; omega
  have hbl : (List.take (size b0) b0).length = size b0 := by simp; omega
  have hva : vt (List.take (size a0) a0) (size a0) = val a0 := by
    rw [← vt_size a0]; exact vt_same _ fun j hj => by simp [List.getD_eq_getElem?_getD, List.getElem?_take, hj]
  have hvb : vt (List.take (size b0) b0) (size b0) = val b0 := by
    rw [← vt_size b0]; exact vt_same _ fun j hj => by simp [List.getD_eq_getElem?_getD, List.getElem?_take, hj]
  have ha := limbs_take ha0 (size a0)
  have hb := limbs_take hb0 (size b0)
  repeat' first
    | (with_reducible first | refine PW.seq ?_ | refine PW.block ?_ | refine PW.fork ?_ | refine PW.skip ?_ | refine PW.exit ?_ | refine PW.ret ?_)
    | (with_reducible refine PW.region ttOk ?_ ?_
       · rfl)
    | (with_reducible refine PW.regionD ttOk mixed ?_ ?_ ?_
       · rfl
       · rfl)
    | (with_reducible refine ifW_dec (fun g => ?_) (fun g => ?_) <;> first | (exfalso; omega) | (simp -dsimp only [g, wkI]))
    | (with_reducible refine condE_dec (fun g => ?_) (fun g => ?_) <;> try (exfalso; omega))
    | (with_reducible refine condE_not (fun g => ?_) (fun g => ?_) <;> try (exfalso; omega))
    | (simp -dsimp only [↓wkA, wkB, ↓tt, Nat.reduceBEq, Nat.reduceEqDiff, ↓reduceIte, Nat.reduceLT, Array.toList, Nat.reduceAdd, Nat.reduceMul, Int.reduceToNat, Int.reducePow, UInt8.reduceToNat])
    | (refine call_by (nat_big _ (by first | assumption | omega)) (views_data rfl) ⟨trivial, trivial⟩ rfl ?_)
    | (refine callD_by (nat_size _ (by first | assumption | omega)) (views_data rfl) ⟨trivial, trivial⟩ rfl ?_)
    | (simp -dsimp only [hba, hbb])
    | (simp -dsimp (disch := first | assumption | omega) only [dec_t, dec_f])
    | (refine And.intro ?_ ?_
       · first | omega | decide | (simp (disch := omega) only [wkW, Int.reduceToNat, Int.reducePow] <;> omega) | (simp <;> omega))
    | (simp (disch := omega) only [wkW, Int.reduceToNat, Int.reducePow])
    | fail
  · exfalso; simp (disch := omega) only [wkW, Int.reduceToNat, Int.reducePow] at *; omega
  generalize List.take (size a0) a0 = a at *
  generalize List.take (size b0) b0 = b at *
  refine PW.loopA (MulO a b) a.length [(52, .int .i64 (0 : Nat)), (51, .int .i64 a.length), (50, .ints .u64 a), (6, .sl 0 0 (a.length + b.length) true), (1, .ints .u64 b), (0, .ints .u64 a)] ⟨1, [(0, .ints .u64 (List.replicate (a.length + b.length) 0))], [], []⟩ (Sub.norm ⟨rfl, rfl, rfl, ?_, rfl, rfl, trivial⟩ ⟨?_, trivial⟩ (by simp) rfl rfl rfl rfl) ⟨0, _, by omega, mul_begin a b, rfl, rfl⟩ ?_
  · simp (disch := omega) only [↓wkA, wkB, ↓tt, Nat.reduceBEq, Nat.reduceEqDiff, ↓reduceIte, Nat.reduceLT, Array.toList, Nat.reduceAdd, Nat.reduceMul, Int.reduceToNat, Int.reducePow, UInt8.reduceToNat, wkW, Int.reduceToNat, Int.reducePow]
  · simp (disch := omega) only [↓wkA, wkB, ↓tt, Nat.reduceBEq, Nat.reduceEqDiff, ↓reduceIte, Nat.reduceLT, Array.toList, Nat.reduceAdd, Nat.reduceMul, Int.reduceToNat, Int.reducePow, UInt8.reduceToNat, wkW, Int.reduceToNat, Int.reducePow]
  rintro n F H ⟨i, o, hn, ho, rfl, rfl⟩
  have hol := ho.len
  by_cases hi : i < a.length
  · skip
    repeat' first
      | (with_reducible first | refine PW.seq ?_ | refine PW.block ?_ | refine PW.fork ?_ | refine PW.skip ?_ | refine PW.exit ?_ | refine PW.ret ?_)
      | (with_reducible refine PW.region ttOk ?_ ?_
         · rfl)
      | (with_reducible refine PW.regionD ttOk mixed ?_ ?_ ?_
         · rfl
         · rfl)
      | (with_reducible refine ifW_dec (fun g => ?_) (fun g => ?_) <;> first | (exfalso; omega) | (simp -dsimp only [g, wkI]))
      | (with_reducible refine condE_dec (fun g => ?_) (fun g => ?_) <;> try (exfalso; omega))
      | (with_reducible refine condE_not (fun g => ?_) (fun g => ?_) <;> try (exfalso; omega))
      | (simp -dsimp only [↓wkA, wkB, ↓tt, Nat.reduceBEq, Nat.reduceEqDiff, ↓reduceIte, Nat.reduceLT, Array.toList, Nat.reduceAdd, Nat.reduceMul, Int.reduceToNat, Int.reducePow, UInt8.reduceToNat])
      | (simp -dsimp (disch := first | assumption | omega) only [dec_t, dec_f])
      | (refine And.intro ?_ ?_
         · first | omega | decide | (simp (disch := omega) only [wkW, Int.reduceToNat, Int.reducePow] <;> omega) | (simp <;> omega))
      | (simp (disch := omega) only [wkW, Int.reduceToNat, Int.reducePow])
      | fail
    refine PW.loopA (MulI a b o i) b.length [(59, .int .i64 (0 : Nat)), (58, .int .i64 b.length), (57, .ints .u64 b), (9, .int .u64 0), (8, .int .u64 (a.getD i 0)), (7, .int .i64 i), (52, .int .i64 i), (51, .int .i64 a.length), (50, .ints .u64 a), (6, .sl 0 0 (a.length + b.length) true), (1, .ints .u64 b), (0, .ints .u64 a)] ⟨1, [(0, .ints .u64 o)], [], []⟩ (Sub.norm ⟨rfl, rfl, rfl, rfl, rfl, rfl, rfl, rfl, rfl, rfl, rfl, rfl, trivial⟩ ⟨rfl, trivial⟩ (Nat.le_refl _) rfl rfl rfl rfl) ⟨0, o, 0, by omega, MulIn.start ho, rfl, rfl⟩ ?_
    rintro m F H ⟨j, q, c, hm, hq, rfl, rfl⟩
    have hql := hq.len
    have hc := hq.car
    by_cases hj : j < b.length
    · have hx := getD_limb ha i
      have hy := getD_limb hb j
      have hd := getD_limb hq.lim (i + j)
      have hxy := mul_bound hx hy
      simp only [B64] at hc hx hy hd
      repeat' first
        | (with_reducible first | refine PW.seq ?_ | refine PW.block ?_ | refine PW.fork ?_ | refine PW.skip ?_ | refine PW.exit ?_ | refine PW.ret ?_)
        | (with_reducible refine PW.region ttOk ?_ ?_
           · rfl)
        | (with_reducible refine PW.regionD ttOk mixed ?_ ?_ ?_
           · rfl
           · rfl)
        | (with_reducible refine ifW_dec (fun g => ?_) (fun g => ?_) <;> first | (exfalso; omega) | (simp -dsimp only [g, wkI]))
        | (with_reducible refine condE_dec (fun g => ?_) (fun g => ?_) <;> try (exfalso; omega))
        | (with_reducible refine condE_not (fun g => ?_) (fun g => ?_) <;> try (exfalso; omega))
        | (simp -dsimp only [↓wkA, wkB, ↓tt, Nat.reduceBEq, Nat.reduceEqDiff, ↓reduceIte, Nat.reduceLT, Array.toList, Nat.reduceAdd, Nat.reduceMul, Int.reduceToNat, Int.reducePow, UInt8.reduceToNat])
        | (refine call_by (mul64 _ _ (by assumption) (by assumption)) (views_data rfl) ⟨trivial, trivial, trivial⟩ rfl ?_)
        | (refine call_by (add64 (by omega) (by omega) (by omega)) (views_data rfl) ⟨trivial, trivial, trivial, trivial⟩ rfl ?_)
        | (simp -dsimp only [B64])
        | (simp -dsimp (disch := first | assumption | omega) only [dec_t, dec_f])
        | (refine And.intro ?_ ?_
           · first | omega | decide | (simp (disch := omega) only [wkW, Int.reduceToNat, Int.reducePow] <;> omega) | (simp <;> omega))
        | (simp (disch := omega) only [wkW, Int.reduceToNat, Int.reducePow])
        | fail
      have hs1 : a.getD i 0 * b.getD j 0 / 18446744073709551616 + (a.getD i 0 * b.getD j 0 % 18446744073709551616 + q.getD (i + j) 0 + 0) / 18446744073709551616 + ((a.getD i 0 * b.getD j 0 % 18446744073709551616 + q.getD (i + j) 0 + 0) % 18446744073709551616 + c + 0) / 18446744073709551616 = (a.getD i 0 * b.getD j 0 + q.getD (i + j) 0 + c) / B64 := by
        simp only [B64]; omega
      have hs2 : ((a.getD i 0 * b.getD j 0 % 18446744073709551616 + q.getD (i + j) 0 + 0) % 18446744073709551616 + c + 0) % 18446744073709551616 = (a.getD i 0 * b.getD j 0 + q.getD (i + j) 0 + c) % B64 := by
        simp only [B64]; omega
      have hstep := hq.step hi hj (s := a.getD i 0 * b.getD j 0 + q.getD (i + j) 0 + c) rfl (by simp only [B64]; omega)
      rw [hs1, hs2]
      exact Again.mk (m - 1) [(59, .int .i64 (j + 1 : Nat)), (58, .int .i64 b.length), (57, .ints .u64 b), (9, .int .u64 ((a.getD i 0 * b.getD j 0 + q.getD (i + j) 0 + c) / B64)), (8, .int .u64 (a.getD i 0)), (7, .int .i64 i), (52, .int .i64 i), (51, .int .i64 a.length), (50, .ints .u64 a), (6, .sl 0 0 (a.length + b.length) true), (1, .ints .u64 b), (0, .ints .u64 a)] ⟨1, [(0, .ints .u64 (q.set (i + j) ((a.getD i 0 * b.getD j 0 + q.getD (i + j) 0 + c) % B64)))], [], []⟩ (by omega) (Sub.norm ⟨rfl, rfl, rfl, rfl, rfl, rfl, rfl, rfl, rfl, rfl, rfl, rfl, trivial⟩ ⟨rfl, trivial⟩ (Nat.le_refl _) rfl rfl rfl rfl) ⟨j + 1, _, _, by omega, hstep, rfl, rfl⟩
    · obtain rfl : j = b.length := by omega
      repeat' first
        | (with_reducible first | refine PW.seq ?_ | refine PW.block ?_ | refine PW.fork ?_ | refine PW.skip ?_ | refine PW.exit ?_ | refine PW.ret ?_)
        | (with_reducible refine PW.region ttOk ?_ ?_
           · rfl)
        | (with_reducible refine PW.regionD ttOk mixed ?_ ?_ ?_
           · rfl
           · rfl)
        | (with_reducible refine ifW_dec (fun g => ?_) (fun g => ?_) <;> first | (exfalso; omega) | (simp -dsimp only [g, wkI]))
        | (with_reducible refine condE_dec (fun g => ?_) (fun g => ?_) <;> try (exfalso; omega))
        | (with_reducible refine condE_not (fun g => ?_) (fun g => ?_) <;> try (exfalso; omega))
        | (simp -dsimp only [↓wkA, wkB, ↓tt, Nat.reduceBEq, Nat.reduceEqDiff, ↓reduceIte, Nat.reduceLT, Array.toList, Nat.reduceAdd, Nat.reduceMul, Int.reduceToNat, Int.reducePow, UInt8.reduceToNat])
        | (simp -dsimp (disch := first | assumption | omega) only [dec_t, dec_f])
        | (refine And.intro ?_ ?_
           · first | omega | decide | (simp (disch := omega) only [wkW, Int.reduceToNat, Int.reducePow] <;> omega) | (simp <;> omega))
        | (simp (disch := omega) only [wkW, Int.reduceToNat, Int.reducePow])
        | fail
      exact Again.mk (n - 1) [(52, .int .i64 (i + 1 : Nat)), (51, .int .i64 a.length), (50, .ints .u64 a), (6, .sl 0 0 (a.length + b.length) true), (1, .ints .u64 b), (0, .ints .u64 a)] ⟨1, [(0, .ints .u64 (q.set (i + b.length) c))], [], []⟩ (by omega) (Sub.norm ⟨rfl, rfl, rfl, rfl, rfl, rfl, trivial⟩ ⟨rfl, trivial⟩ (Nat.le_refl _) rfl rfl rfl rfl) ⟨i + 1, _, by omega, hq.fin ho hi, rfl, rfl⟩
  · obtain rfl : i = a.length := by omega
    have hpo : p = o := by
      have hlt := Int.mul_nonneg (vt_bound ha (size a0)).1 (vt_bound hb (size b0)).1
      have hval : val o = val a0 * val b0 := by unfold val; rw [hol, ho.eq, hal, hbl, hva, hvb]; rfl
      rw [hva, hvb] at hlt
      have hup := (vt_bound ho.lim o.length).2
      refine hp.trans (val_inj (limbsOf_limbs _ _) ho.lim (by rw [limbsOf_length, hol, hal, hbl]) ?_)
      rw [limbsOf_val, Int.toNat_of_nonneg hlt, hval]
      have h2 : val o < B64 ^ o.length := hup
      rw [hval, hol, hal, hbl] at h2
      have e : B64 ^ (size a0 + size b0) = ((18446744073709551616 ^ (size a0 + size b0) : Nat) : Int) := by rw [Int.natCast_pow]; rfl
      rw [e] at h2
      omega
    subst hpo
    have hcut := nat_cut p (by omega)
    by_cases hbig : 4096 < size p
    · rw [if_pos hbig] at hcut ⊢
      repeat' first
        | (with_reducible first | refine PW.seq ?_ | refine PW.block ?_ | refine PW.fork ?_ | refine PW.skip ?_ | refine PW.exit ?_ | refine PW.ret ?_)
        | (with_reducible refine PW.region ttOk ?_ ?_
           · rfl)
        | (with_reducible refine PW.regionD ttOk mixed ?_ ?_ ?_
           · rfl
           · rfl)
        | (with_reducible refine ifW_dec (fun g => ?_) (fun g => ?_) <;> first | (exfalso; omega) | (simp -dsimp only [g, wkI]))
        | (with_reducible refine condE_dec (fun g => ?_) (fun g => ?_) <;> try (exfalso; omega))
        | (with_reducible refine condE_not (fun g => ?_) (fun g => ?_) <;> try (exfalso; omega))
        | (simp -dsimp only [↓wkA, wkB, ↓tt, Nat.reduceBEq, Nat.reduceEqDiff, ↓reduceIte, Nat.reduceLT, Array.toList, Nat.reduceAdd, Nat.reduceMul, Int.reduceToNat, Int.reducePow, UInt8.reduceToNat])
        | (refine call_by' (args' := [.ints .u64 p]) (by simp -dsimp only [↓wkA, wkB, ↓tt, Nat.reduceBEq, Nat.reduceEqDiff, ↓reduceIte, Nat.reduceLT, Array.toList, Nat.reduceAdd, Nat.reduceMul, Int.reduceToNat, Int.reducePow, UInt8.reduceToNat] <;> rw [List.take_of_length_le (by omega)]) hcut (by simp -dsimp only [okViews, ↓wkA, wkB, ↓tt, Nat.reduceBEq, Nat.reduceEqDiff, ↓reduceIte, Nat.reduceLT, Array.toList, Nat.reduceAdd, Nat.reduceMul, Int.reduceToNat, Int.reducePow, UInt8.reduceToNat] <;> omega) rfl ?_)
        | (simp -dsimp (disch := first | assumption | omega) only [dec_t, dec_f])
        | (refine And.intro ?_ ?_
           · first | omega | decide | (simp (disch := omega) only [wkW, Int.reduceToNat, Int.reducePow] <;> omega) | (simp <;> omega))
        | (simp (disch := omega) only [wkW, Int.reduceToNat, Int.reducePow])
        | fail
    · rw [if_neg hbig] at hcut ⊢
      repeat' first
        | (with_reducible first | refine PW.seq ?_ | refine PW.block ?_ | refine PW.fork ?_ | refine PW.skip ?_ | refine PW.exit ?_ | refine PW.ret ?_)
        | (with_reducible refine PW.region ttOk ?_ ?_
           · rfl)
        | (with_reducible refine PW.regionD ttOk mixed ?_ ?_ ?_
           · rfl
           · rfl)
        | (with_reducible refine ifW_dec (fun g => ?_) (fun g => ?_) <;> first | (exfalso; omega) | (simp -dsimp only [g, wkI]))
        | (with_reducible refine condE_dec (fun g => ?_) (fun g => ?_) <;> try (exfalso; omega))
        | (with_reducible refine condE_not (fun g => ?_) (fun g => ?_) <;> try (exfalso; omega))
        | (simp -dsimp only [↓wkA, wkB, ↓tt, Nat.reduceBEq, Nat.reduceEqDiff, ↓reduceIte, Nat.reduceLT, Array.toList, Nat.reduceAdd, Nat.reduceMul, Int.reduceToNat, Int.reducePow, UInt8.reduceToNat])
        | (refine call_drop (args' := [.ints .u64 p]) (by simp -dsimp only [↓wkA, wkB, ↓tt, Nat.reduceBEq, Nat.reduceEqDiff, ↓reduceIte, Nat.reduceLT, Array.toList, Nat.reduceAdd, Nat.reduceMul, Int.reduceToNat, Int.reducePow, UInt8.reduceToNat] <;> rw [List.take_of_length_le (by omega)]) hcut (by simp -dsimp only [okViews, ↓wkA, wkB, ↓tt, Nat.reduceBEq, Nat.reduceEqDiff, ↓reduceIte, Nat.reduceLT, Array.toList, Nat.reduceAdd, Nat.reduceMul, Int.reduceToNat, Int.reducePow, UInt8.reduceToNat] <;> omega) rfl ?_)
        | (simp -dsimp (disch := first | assumption | omega) only [dec_t, dec_f])
        | (refine And.intro ?_ ?_
           · first | omega | decide | (simp (disch := omega) only [wkW, Int.reduceToNat, Int.reducePow] <;> omega) | (simp <;> omega))
        | (simp (disch := omega) only [wkW, Int.reduceToNat, Int.reducePow])
        | fail
end Go.Proofs.YtjfakpogfakicaaDoor


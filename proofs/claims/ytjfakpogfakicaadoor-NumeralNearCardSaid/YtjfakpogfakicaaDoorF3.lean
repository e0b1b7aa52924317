import Derived.Test.YtjfakpogfakicaaDoorF2
set_option linter.unusedVariables false
set_option linter.unusedSimpArgs false
namespace Go.Proofs.YtjfakpogfakicaaDoor
open Go Go.PV

abbrev ffO (b k : Nat) (s : List Int) (i n : Nat) : PV.Frame := [(11, .int .i64 (i : Int)), (10, .sl 0 0 n true), (9, .int .i64 (k : Int)), (0, .str s), (1, .int .i64 (b : Int))]
abbrev fhO (a : List Int) : PV.Heap := ⟨1, [(0, .ints .u64 a)], [], []⟩
def FOut (b k : Nat) (s : List Int) (m : Nat) (F : PV.Frame) (H : PV.Heap) : Prop :=
  ∃ i a, i + m = s.length ∧ Limbs a ∧ Nrm a ∧ val a = (numN b s i : Int) ∧ a.length ≤ 4096 ∧ F = ffO b k s i a.length ∧ H = fhO a
def FDig (b k : Nat) (s a : List Int) (i0 m : Nat) (F : PV.Frame) (H : PV.Heap) : Prop :=
  ∃ j part : Nat, j + m = k ∧ i0 + j ≤ s.length ∧ part < b ^ j ∧ numN b s i0 * b ^ j + part = numN b s (i0 + j) ∧
    F = (14, .int .i64 (j : Int)) :: (12, .int .u64 (part : Int)) :: (13, .int .u64 ((b ^ j : Nat) : Int)) :: ffO b k s (i0 + j) a.length ∧ H = fhO a
def FMul (b k : Nat) (s a : List Int) (i : Nat) (f p0 : Int) (m : Nat) (F : PV.Frame) (H : PV.Heap) : Prop :=
  ∃ j t p, j + m = a.length ∧ MulA a t f p0 j p ∧ F = (79, .int .i64 (j : Int)) :: (78, .int .i64 (a.length : Int)) :: (12, .int .u64 p) :: (13, .int .u64 f) :: ffO b k s i a.length ∧ H = fhO t

theorem nrm_bound {a : List Int} (hn : Nrm a) {k : Nat} (h : val a < B64 ^ k) : a.length ≤ k := by
  rcases Nat.lt_or_ge k a.length with h1 | h1
  · exfalso
    have h2 := hn (by omega)
    have h3 := pow_mono64 (show k ≤ a.length - 1 by omega)
    omega
  · exact h1

set_option maxHeartbeats 1000000 in
theorem from_base_main (s : List Int) (hs : Bytes' s) (hsl : s.length ≤ 1000000000000000) (b : Nat) (hb : 2 ≤ b ∧ b ≤ 36) (hne : s ≠ []) (hok : ∀ j, j < s.length → worth (s.getD j 0) < b)
    (R : PV) (hR1 : ((num b s : Nat) : Int) < B64 ^ 4096 → R = .tup [.ints .u64 (natL (num b s)), .int .i64 0, .int .i64 0]) (hR2 : ¬ ((num b s : Nat) : Int) < B64 ^ 4096 → R = .tup [.nil, .int .i64 0, .int .i64 2]) :
    Meets Tryd.prog 15 [.str s, .int .i64 (b : Int)] R := by
  refine meets_by ttOk Tryd.func15 Tryd.ntmps15 Tryd.results15 (by kernel_rfl) (c := _) rfl rfl rfl fun E => ?_
  simp only [argsFrame]
  have hd : decide (s = []) = false := by simp [hne]
  obtain ⟨k, hk1, hk2, hk3, hk4, hk5⟩ := chunk_ex b hb
  have hchunk := numeral_chunk b k hb hk1 hk2 hk3 hk4 hk5
  repeat' first
    | (simp only [bytesI_mk, List.map_nil, hd, condE_f])
    | (with_reducible first | refine PW.seq ?_ | refine PW.block ?_ | refine PW.fork ?_ | refine PW.skip ?_ | refine PW.exit ?_ | refine PW.ret ?_)
    | (with_reducible refine PW.region ttOk ?_ ?_
       · rfl)
    | (with_reducible refine PW.regionD ttOk mixed ?_ ?_ ?_
       · rfl
       · rfl)
    | (with_reducible refine ifW_dec (fun g => ?_) (fun g => ?_) <;> first | (exfalso; omega) | (simp -dsimp only [g, wkI]))
    | (with_reducible refine condE_dec (fun g => ?_) (fun g => ?_) <;> try (exfalso; omega))
    | (with_reducible refine condE_not (fun g => ?_) (fun g => ?_) <;> try (exfalso; omega))
    | (simp -dsimp only [↓wkA, wkB, ↓tt, Nat.reduceBEq, Nat.reduceEqDiff, ↓reduceIte, Nat.reduceLT, Array.toList, Nat.reduceAdd, Nat.reduceMul, Int.reduceToNat, Int.reducePow, UInt8.reduceToNat])
    | (simp -dsimp (disch := first | assumption | omega) only [dec_t, dec_f])
    | (refine And.intro ?_ ?_
       · first | omega | decide | (simp (disch := omega) only [wkW, Int.reduceToNat, Int.reducePow] <;> omega) | (simp <;> omega))
    | (simp (disch := omega) only [wkW, Int.reduceToNat, Int.reducePow])
    | fail
  refine PW.meetB (fun F H => F = [(0, .str s), (1, .int .i64 (b : Int))] ∧ H = ⟨0, [], [], []⟩) ?_ ?_
  · refine PW.loopA (IFaul s b s.length) s.length (ff1 s b 0) ⟨0, [], [], []⟩ (Sub.norm ⟨rfl, rfl, rfl, trivial⟩ trivial (Nat.le_refl _) rfl rfl rfl rfl) ⟨0, by omega, rfl, rfl⟩ ?_
    rintro m F H ⟨i, hi, rfl, rfl⟩
    by_cases hlast : i = s.length
    · skip
      repeat' first
        | (with_reducible first | refine PW.seq ?_ | refine PW.block ?_ | refine PW.fork ?_ | refine PW.skip ?_ | refine PW.exit ?_ | refine PW.ret ?_)
        | (with_reducible refine PW.region ttOk ?_ ?_
           · rfl)
        | (with_reducible refine PW.regionD ttOk mixed ?_ ?_ ?_
           · rfl
           · rfl)
        | (with_reducible refine ifW_dec (fun g => ?_) (fun g => ?_) <;> first | (exfalso; omega) | (simp -dsimp only [g, wkI]))
        | (with_reducible refine condE_dec (fun g => ?_) (fun g => ?_) <;> try (exfalso; omega))
        | (with_reducible refine condE_not (fun g => ?_) (fun g => ?_) <;> try (exfalso; omega))
        | (simp -dsimp only [↓wkA, wkB, ↓tt, Nat.reduceBEq, Nat.reduceEqDiff, ↓reduceIte, Nat.reduceLT, Array.toList, Nat.reduceAdd, Nat.reduceMul, Int.reduceToNat, Int.reducePow, UInt8.reduceToNat])
        | (simp -dsimp (disch := first | assumption | omega) only [dec_t, dec_f])
        | (refine And.intro ?_ ?_
           · first | omega | decide | (simp (disch := omega) only [wkW, Int.reduceToNat, Int.reducePow] <;> omega) | (simp <;> omega))
        | (simp (disch := omega) only [wkW, Int.reduceToNat, Int.reducePow])
        | fail
      exact Meet.mk [(0, .str s), (1, .int .i64 (b : Int))] ⟨0, [], [], []⟩ (Sub.norm ⟨rfl, rfl, trivial⟩ trivial (Nat.le_refl _) rfl rfl rfl rfl) ⟨rfl, rfl⟩
    · have := hok i (by omega)
      have hw := numeral_worth (s.getD i 0) (getD_byte' hs (by omega))
      repeat' first
        | (with_reducible first | refine PW.seq ?_ | refine PW.block ?_ | refine PW.fork ?_ | refine PW.skip ?_ | refine PW.exit ?_ | refine PW.ret ?_)
        | (with_reducible refine PW.region ttOk ?_ ?_
           · rfl)
        | (with_reducible refine PW.regionD ttOk mixed ?_ ?_ ?_
           · rfl
           · rfl)
        | (with_reducible refine ifW_dec (fun g => ?_) (fun g => ?_) <;> first | (exfalso; omega) | (simp -dsimp only [g, wkI]))
        | (with_reducible refine condE_dec (fun g => ?_) (fun g => ?_) <;> try (exfalso; omega))
        | (with_reducible refine condE_not (fun g => ?_) (fun g => ?_) <;> try (exfalso; omega))
        | (simp -dsimp only [↓wkA, wkB, ↓tt, Nat.reduceBEq, Nat.reduceEqDiff, ↓reduceIte, Nat.reduceLT, Array.toList, Nat.reduceAdd, Nat.reduceMul, Int.reduceToNat, Int.reducePow, UInt8.reduceToNat])
        | (refine call_by hw (views_data rfl) ⟨trivial, trivial⟩ rfl ?_)
        | (simp -dsimp (disch := first | assumption | omega) only [dec_t, dec_f])
        | (refine And.intro ?_ ?_
           · first | omega | decide | (simp (disch := omega) only [wkW, Int.reduceToNat, Int.reducePow] <;> omega) | (simp <;> omega))
        | (simp (disch := omega) only [wkW, Int.reduceToNat, Int.reducePow])
        | fail
      exact Again.mk (m - 1) (ff1 s b (i + 1)) ⟨0, [], [], []⟩ (by omega) (Sub.norm ⟨rfl, rfl, rfl, trivial⟩ trivial (Nat.le_refl _) rfl rfl rfl rfl) ⟨i + 1, by omega, rfl, rfl⟩
  rintro F H ⟨rfl, rfl⟩
  repeat' first
    | (with_reducible first | refine PW.seq ?_ | refine PW.block ?_ | refine PW.fork ?_ | refine PW.skip ?_ | refine PW.exit ?_ | refine PW.ret ?_)
    | (with_reducible refine PW.region ttOk ?_ ?_
       · rfl)
    | (with_reducible refine PW.regionD ttOk mixed ?_ ?_ ?_
       · rfl
       · rfl)
    | (with_reducible refine ifW_dec (fun g => ?_) (fun g => ?_) <;> first | (exfalso; omega) | (simp -dsimp only [g, wkI]))
    | (with_reducible refine condE_dec (fun g => ?_) (fun g => ?_) <;> try (exfalso; omega))
    | (with_reducible refine condE_not (fun g => ?_) (fun g => ?_) <;> try (exfalso; omega))
    | (simp -dsimp only [↓wkA, wkB, ↓tt, Nat.reduceBEq, Nat.reduceEqDiff, ↓reduceIte, Nat.reduceLT, Array.toList, Nat.reduceAdd, Nat.reduceMul, Int.reduceToNat, Int.reducePow, UInt8.reduceToNat])
    | (refine call_by hchunk (views_data rfl) ⟨trivial, trivial⟩ rfl ?_)
    | (simp -dsimp (disch := first | assumption | omega) only [dec_t, dec_f])
    | (refine And.intro ?_ ?_
       · first | omega | decide | (simp (disch := omega) only [wkW, Int.reduceToNat, Int.reducePow] <;> omega) | (simp <;> omega))
    | (simp (disch := omega) only [wkW, Int.reduceToNat, Int.reducePow])
    | fail
  refine PW.meetB (fun F H => ∃ a, Limbs a ∧ Nrm a ∧ val a = (num b s : Int) ∧ a.length ≤ 4096 ∧ F = [(10, .sl 0 0 a.length true)] ∧ H = fhO a) ?_ ?_
  · refine PW.loopA (FOut b k s) s.length (ffO b k s 0 0) (fhO []) (Sub.trans (Sub.nilVar 10 38 .u64 rfl) (Sub.norm ⟨rfl, rfl, rfl, rfl, rfl, trivial⟩ ⟨rfl, trivial⟩ (Nat.le_refl _) rfl rfl rfl rfl)) ⟨0, [], by omega, (fun x hx => by cases hx), (fun h => absurd rfl h), rfl, by simp, rfl, rfl⟩ ?_
    rintro m F H ⟨i, a, hi, haL, haN, hav, hal, rfl, rfl⟩
    by_cases hlast : i = s.length
    · subst hlast
      repeat' first
        | (with_reducible first | refine PW.seq ?_ | refine PW.block ?_ | refine PW.fork ?_ | refine PW.skip ?_ | refine PW.exit ?_ | refine PW.ret ?_)
        | (with_reducible refine PW.region ttOk ?_ ?_
           · rfl)
        | (with_reducible refine PW.regionD ttOk mixed ?_ ?_ ?_
           · rfl
           · rfl)
        | (with_reducible refine ifW_dec (fun g => ?_) (fun g => ?_) <;> first | (exfalso; omega) | (simp -dsimp only [g, wkI]))
        | (with_reducible refine condE_dec (fun g => ?_) (fun g => ?_) <;> try (exfalso; omega))
        | (with_reducible refine condE_not (fun g => ?_) (fun g => ?_) <;> try (exfalso; omega))
        | (simp -dsimp only [↓wkA, wkB, ↓tt, Nat.reduceBEq, Nat.reduceEqDiff, ↓reduceIte, Nat.reduceLT, Array.toList, Nat.reduceAdd, Nat.reduceMul, Int.reduceToNat, Int.reducePow, UInt8.reduceToNat])
        | (simp -dsimp (disch := first | assumption | omega) only [dec_t, dec_f])
        | (refine And.intro ?_ ?_
           · first | omega | decide | (simp (disch := omega) only [wkW, Int.reduceToNat, Int.reducePow] <;> omega) | (simp <;> omega))
        | (simp (disch := omega) only [wkW, Int.reduceToNat, Int.reducePow])
        | fail
      exact Meet.mk [(10, .sl 0 0 a.length true)] (fhO a) (Sub.norm ⟨rfl, trivial⟩ ⟨rfl, trivial⟩ (Nat.le_refl _) rfl rfl rfl rfl) ⟨a, haL, haN, hav, hal, rfl, rfl⟩
    repeat' first
      | (with_reducible first | refine PW.seq ?_ | refine PW.block ?_ | refine PW.fork ?_ | refine PW.skip ?_ | refine PW.exit ?_ | refine PW.ret ?_)
      | (with_reducible refine PW.region ttOk ?_ ?_
         · rfl)
      | (with_reducible refine PW.regionD ttOk mixed ?_ ?_ ?_
         · rfl
         · rfl)
      | (with_reducible refine ifW_dec (fun g => ?_) (fun g => ?_) <;> first | (exfalso; omega) | (simp -dsimp only [g, wkI]))
      | (with_reducible refine condE_dec (fun g => ?_) (fun g => ?_) <;> try (exfalso; omega))
      | (with_reducible refine condE_not (fun g => ?_) (fun g => ?_) <;> try (exfalso; omega))
      | (simp -dsimp only [↓wkA, wkB, ↓tt, Nat.reduceBEq, Nat.reduceEqDiff, ↓reduceIte, Nat.reduceLT, Array.toList, Nat.reduceAdd, Nat.reduceMul, Int.reduceToNat, Int.reducePow, UInt8.reduceToNat])
      | (simp -dsimp (disch := first | assumption | omega) only [dec_t, dec_f])
      | (refine And.intro ?_ ?_
         · first | omega | decide | (simp (disch := omega) only [wkW, Int.reduceToNat, Int.reducePow] <;> omega) | (simp <;> omega))
      | (simp (disch := omega) only [wkW, Int.reduceToNat, Int.reducePow])
      | fail
    -- a chunk of digits
    refine PW.meetB (fun F H => ∃ j part : Nat, j ≠ 0 ∧ j ≤ k ∧ i + j ≤ s.length ∧ part < b ^ j ∧ numN b s i * b ^ j + part = numN b s (i + j) ∧ F = (12, .int .u64 (part : Int)) :: (13, .int .u64 ((b ^ j : Nat) : Int)) :: ffO b k s (i + j) a.length ∧ H = fhO a) ?_ ?_
    · refine PW.loopA (FDig b k s a i) k ((14, .int .i64 ((0 : Nat) : Int)) :: (12, .int .u64 ((0 : Nat) : Int)) :: (13, .int .u64 ((b ^ 0 : Nat) : Int)) :: ffO b k s (i + 0) a.length) (fhO a) (Sub.norm ⟨rfl, rfl, rfl, rfl, rfl, rfl, rfl, rfl, trivial⟩ ⟨rfl, trivial⟩ (Nat.le_refl _) rfl rfl rfl rfl) ⟨0, 0, by omega, by omega, by simp, by simp, rfl, rfl⟩ ?_
      rintro m2 F H ⟨j, part, hjm, hjs, hpl, hpe, rfl, rfl⟩
      by_cases hgo : j < k ∧ i + j < s.length
      · have hwj := hok (i + j) (by omega)
        have hw0 := worth_nonneg (s.getD (i + j) 0)
        have hw := numeral_worth (s.getD (i + j) 0) (getD_byte' hs (by omega))
        obtain ⟨d, hd2⟩ := Int.eq_ofNat_of_zero_le hw0
        rw [hd2] at hw hwj
        have hpow : b ^ (j + 1) ≤ b ^ k := Nat.pow_le_pow_right (by omega) (by omega)
        have hps : b ^ (j + 1) = b ^ j * b := Nat.pow_succ b j
        have hpb : part * b + d < b ^ (j + 1) := by
          have : (part + 1) * b ≤ b ^ j * b := Nat.mul_le_mul_right _ (by omega)
          rw [Nat.add_mul] at this
          omega
        have hb64 : IntKind.wrap .u64 (b : Int) = (b : Int) := wrap_u64 (by omega)
        have e1 : ((part : Nat) : Int) * (b : Int) = ((part * b : Nat) : Int) := by simp
        have e2 : ((b ^ j : Nat) : Int) * (b : Int) = ((b ^ (j + 1) : Nat) : Int) := by rw [hps]; simp
        have e3 : ((part * b : Nat) : Int) + (d : Int) = ((part * b + d : Nat) : Int) := by simp
        have w1 : IntKind.wrap .u64 ((part * b : Nat) : Int) = ((part * b : Nat) : Int) := wrap_u64 (by omega)
        have w2 : IntKind.wrap .u64 ((b ^ (j + 1) : Nat) : Int) = ((b ^ (j + 1) : Nat) : Int) := wrap_u64 (by omega)
        have w3 : IntKind.wrap .u64 ((part * b + d : Nat) : Int) = ((part * b + d : Nat) : Int) := wrap_u64 (by omega)
        have w4 : IntKind.wrap .u64 (d : Int) = (d : Int) := wrap_u64 (by omega)
        have e5 : ((i + j : Nat) : Int).toNat = i + j := Int.toNat_natCast _
        repeat' first
          | (simp only [hb64, e1, e2, e3, w1, w2, w3, w4, e5])
          | (with_reducible first | refine PW.seq ?_ | refine PW.block ?_ | refine PW.fork ?_ | refine PW.skip ?_ | refine PW.exit ?_ | refine PW.ret ?_)
          | (with_reducible refine PW.region ttOk ?_ ?_
             · rfl)
          | (with_reducible refine PW.regionD ttOk mixed ?_ ?_ ?_
             · rfl
             · rfl)
          | (with_reducible refine ifW_dec (fun g => ?_) (fun g => ?_) <;> first | (exfalso; omega) | (simp -dsimp only [g, wkI]))
          | (with_reducible refine condE_dec (fun g => ?_) (fun g => ?_) <;> try (exfalso; omega))
          | (with_reducible refine condE_not (fun g => ?_) (fun g => ?_) <;> try (exfalso; omega))
          | (simp -dsimp only [↓wkA, wkB, ↓tt, Nat.reduceBEq, Nat.reduceEqDiff, ↓reduceIte, Nat.reduceLT, Array.toList, Nat.reduceAdd, Nat.reduceMul, Int.reduceToNat, Int.reducePow, UInt8.reduceToNat])
          | (refine call_by hw (views_data rfl) ⟨trivial, trivial⟩ rfl ?_)
          | (simp -dsimp (disch := first | assumption | omega) only [dec_t, dec_f])
          | (refine And.intro ?_ ?_
             · first | omega | decide | (simp (disch := omega) only [wkW, Int.reduceToNat, Int.reducePow] <;> omega) | (simp <;> omega))
          | (simp (disch := omega) only [wkW, Int.reduceToNat, Int.reducePow])
          | fail
        refine Again.mk (m2 - 1) ((14, .int .i64 ((j + 1 : Nat) : Int)) :: (12, .int .u64 ((part * b + d : Nat) : Int)) :: (13, .int .u64 ((b ^ (j + 1) : Nat) : Int)) :: ffO b k s (i + (j + 1)) a.length) (fhO a) (by omega) (Sub.norm ⟨rfl, rfl, rfl, rfl, rfl, rfl, rfl, rfl, trivial⟩ ⟨rfl, trivial⟩ (Nat.le_refl _) rfl rfl rfl rfl) ⟨j + 1, part * b + d, by omega, by omega, hpb, ?_, rfl, rfl⟩
        rw [show i + (j + 1) = (i + j) + 1 by omega]
        simp only [numN]
        rw [hd2, Int.toNat_natCast, ← hpe, hps]
        grind
      · skip
        repeat' first
          | (with_reducible first | refine PW.seq ?_ | refine PW.block ?_ | refine PW.fork ?_ | refine PW.skip ?_ | refine PW.exit ?_ | refine PW.ret ?_)
          | (with_reducible refine PW.region ttOk ?_ ?_
             · rfl)
          | (with_reducible refine PW.regionD ttOk mixed ?_ ?_ ?_
             · rfl
             · rfl)
          | (with_reducible refine ifW_dec (fun g => ?_) (fun g => ?_) <;> first | (exfalso; omega) | (simp -dsimp only [g, wkI]))
          | (with_reducible refine condE_dec (fun g => ?_) (fun g => ?_) <;> try (exfalso; omega))
          | (with_reducible refine condE_not (fun g => ?_) (fun g => ?_) <;> try (exfalso; omega))
          | (simp -dsimp only [↓wkA, wkB, ↓tt, Nat.reduceBEq, Nat.reduceEqDiff, ↓reduceIte, Nat.reduceLT, Array.toList, Nat.reduceAdd, Nat.reduceMul, Int.reduceToNat, Int.reducePow, UInt8.reduceToNat])
          | (simp -dsimp (disch := first | assumption | omega) only [dec_t, dec_f])
          | (refine And.intro ?_ ?_
             · first | omega | decide | (simp (disch := omega) only [wkW, Int.reduceToNat, Int.reducePow] <;> omega) | (simp <;> omega))
          | (simp (disch := omega) only [wkW, Int.reduceToNat, Int.reducePow])
          | fail
        all_goals exact Meet.mk ((12, .int .u64 (part : Int)) :: (13, .int .u64 ((b ^ j : Nat) : Int)) :: ffO b k s (i + j) a.length) (fhO a) (Sub.norm ⟨rfl, rfl, rfl, rfl, rfl, rfl, rfl, trivial⟩ ⟨rfl, trivial⟩ (Nat.le_refl _) rfl rfl rfl rfl) ⟨j, part, by omega, by omega, hjs, hpl, hpe, rfl, rfl⟩
    rintro F H ⟨j, part, hj0, hjk, hjs, hpl, hpe, rfl, rfl⟩
    have hf1 : 1 ≤ b ^ j := Nat.pow_pos (by omega)
    have hf2 : b ^ j < 18446744073709551616 := Nat.lt_of_le_of_lt (Nat.pow_le_pow_right (by omega) hjk) hk3
    obtain ⟨f, hf⟩ : ∃ f : Int, ((b ^ j : Nat) : Int) = f := ⟨_, rfl⟩
    have hf0 : 0 < f ∧ f < B64 := by simp only [B64]; omega
    have hf64 := hf0
    simp only [B64] at hf64
    simp only [hf]
    repeat' first
      | (with_reducible first | refine PW.seq ?_ | refine PW.block ?_ | refine PW.fork ?_ | refine PW.skip ?_ | refine PW.exit ?_ | refine PW.ret ?_)
      | (with_reducible refine PW.region ttOk ?_ ?_
         · rfl)
      | (with_reducible refine PW.regionD ttOk mixed ?_ ?_ ?_
         · rfl
         · rfl)
      | (with_reducible refine ifW_dec (fun g => ?_) (fun g => ?_) <;> first | (exfalso; omega) | (simp -dsimp only [g, wkI]))
      | (with_reducible refine condE_dec (fun g => ?_) (fun g => ?_) <;> try (exfalso; omega))
      | (with_reducible refine condE_not (fun g => ?_) (fun g => ?_) <;> try (exfalso; omega))
      | (simp -dsimp only [↓wkA, wkB, ↓tt, Nat.reduceBEq, Nat.reduceEqDiff, ↓reduceIte, Nat.reduceLT, Array.toList, Nat.reduceAdd, Nat.reduceMul, Int.reduceToNat, Int.reducePow, UInt8.reduceToNat])
      | (simp -dsimp (disch := first | assumption | omega) only [dec_t, dec_f])
      | (refine And.intro ?_ ?_
         · first | omega | decide | (simp (disch := omega) only [wkW, Int.reduceToNat, Int.reducePow] <;> omega) | (simp <;> omega))
      | (simp (disch := omega) only [wkW, Int.reduceToNat, Int.reducePow])
      | fail
    refine PW.meetB (fun F H => ∃ t p, MulA a t f part a.length p ∧ F = (12, .int .u64 p) :: ffO b k s (i + j) a.length ∧ H = fhO t) ?_ ?_
    · refine PW.loopA (FMul b k s a (i + j) f part) a.length ((79, .int .i64 ((0 : Nat) : Int)) :: (78, .int .i64 (a.length : Int)) :: (12, .int .u64 (part : Int)) :: (13, .int .u64 f) :: ffO b k s (i + j) a.length) (fhO a) (Sub.norm ⟨rfl, rfl, rfl, rfl, rfl, rfl, rfl, rfl, rfl, trivial⟩ ⟨rfl, trivial⟩ (Nat.le_refl _) rfl rfl rfl rfl) ⟨0, a, part, by omega, MulA.start haL (by simp only [B64]; omega), rfl, rfl⟩ ?_
      rintro m2 F H ⟨jj, t, p, hjm, hmul, rfl, rfl⟩
      have htl := hmul.len
      have hcar := hmul.car
      by_cases hend : jj = a.length
      · subst hend
        repeat' first
          | (with_reducible first | refine PW.seq ?_ | refine PW.block ?_ | refine PW.fork ?_ | refine PW.skip ?_ | refine PW.exit ?_ | refine PW.ret ?_)
          | (with_reducible refine PW.region ttOk ?_ ?_
             · rfl)
          | (with_reducible refine PW.regionD ttOk mixed ?_ ?_ ?_
             · rfl
             · rfl)
          | (with_reducible refine ifW_dec (fun g => ?_) (fun g => ?_) <;> first | (exfalso; omega) | (simp -dsimp only [g, wkI]))
          | (with_reducible refine condE_dec (fun g => ?_) (fun g => ?_) <;> try (exfalso; omega))
          | (with_reducible refine condE_not (fun g => ?_) (fun g => ?_) <;> try (exfalso; omega))
          | (simp -dsimp only [↓wkA, wkB, ↓tt, Nat.reduceBEq, Nat.reduceEqDiff, ↓reduceIte, Nat.reduceLT, Array.toList, Nat.reduceAdd, Nat.reduceMul, Int.reduceToNat, Int.reducePow, UInt8.reduceToNat])
          | (simp -dsimp (disch := first | assumption | omega) only [dec_t, dec_f])
          | (refine And.intro ?_ ?_
             · first | omega | decide | (simp (disch := omega) only [wkW, Int.reduceToNat, Int.reducePow] <;> omega) | (simp <;> omega))
          | (simp (disch := omega) only [wkW, Int.reduceToNat, Int.reducePow])
          | fail
        exact Meet.mk ((12, .int .u64 p) :: ffO b k s (i + j) a.length) (fhO t) (Sub.norm ⟨rfl, rfl, rfl, rfl, rfl, rfl, trivial⟩ ⟨rfl, trivial⟩ (Nat.le_refl _) rfl rfl rfl rfl) ⟨t, p, hmul, rfl, rfl⟩
      · have hx := getD_limb haL jj
        have hxt := hmul.high jj (Nat.le_refl _)
        have hstep := hmul.step haL (by omega) hf0
        have hm := mul64 (a.getD jj 0) f hx ⟨by omega, hf0.2⟩
        have hxf : 0 ≤ a.getD jj 0 * f := Int.mul_nonneg hx.1 (by omega)
        have hxf2 : a.getD jj 0 * f ≤ 340282366920938463426481119284349108225 := Int.le_trans (Int.mul_le_mul (show a.getD jj 0 ≤ 18446744073709551615 by simp only [B64] at hx; omega) (show f ≤ 18446744073709551615 by omega) (by omega) (by omega)) (by decide)
        simp only [B64] at hm hcar hx
        repeat' first
          | (simp only [hxt])
          | (with_reducible first | refine PW.seq ?_ | refine PW.block ?_ | refine PW.fork ?_ | refine PW.skip ?_ | refine PW.exit ?_ | refine PW.ret ?_)
          | (with_reducible refine PW.region ttOk ?_ ?_
             · rfl)
          | (with_reducible refine PW.regionD ttOk mixed ?_ ?_ ?_
             · rfl
             · rfl)
          | (with_reducible refine ifW_dec (fun g => ?_) (fun g => ?_) <;> first | (exfalso; omega) | (simp -dsimp only [g, wkI]))
          | (with_reducible refine condE_dec (fun g => ?_) (fun g => ?_) <;> try (exfalso; omega))
          | (with_reducible refine condE_not (fun g => ?_) (fun g => ?_) <;> try (exfalso; omega))
          | (simp -dsimp only [↓wkA, wkB, ↓tt, Nat.reduceBEq, Nat.reduceEqDiff, ↓reduceIte, Nat.reduceLT, Array.toList, Nat.reduceAdd, Nat.reduceMul, Int.reduceToNat, Int.reducePow, UInt8.reduceToNat])
          | (refine call_by hm (views_data rfl) ⟨trivial, trivial, trivial⟩ rfl ?_)
          | (refine call_by (add64 (by omega) (by omega) (by omega)) (views_data rfl) ⟨trivial, trivial, trivial, trivial⟩ rfl ?_)
          | (simp -dsimp (disch := first | assumption | omega) only [dec_t, dec_f])
          | (refine And.intro ?_ ?_
             · first | omega | decide | (simp (disch := omega) only [wkW, Int.reduceToNat, Int.reducePow] <;> omega) | (simp <;> omega))
          | (simp (disch := omega) only [wkW, Int.reduceToNat, Int.reducePow])
          | fail
        have hs1 : a.getD jj 0 * f / 18446744073709551616 + (a.getD jj 0 * f % 18446744073709551616 + p + 0) / 18446744073709551616 = (a.getD jj 0 * f + p) / B64 := by
          simp only [B64]; omega
        have hs2 : (a.getD jj 0 * f % 18446744073709551616 + p + 0) % 18446744073709551616 = (a.getD jj 0 * f + p) % B64 := by
          simp only [B64]; omega
        rw [hs1, hs2]
        exact Again.mk (m2 - 1) ((79, .int .i64 ((jj + 1 : Nat) : Int)) :: (78, .int .i64 (a.length : Int)) :: (12, .int .u64 ((a.getD jj 0 * f + p) / B64)) :: (13, .int .u64 f) :: ffO b k s (i + j) a.length) (fhO (t.set jj ((a.getD jj 0 * f + p) % B64))) (by omega) (Sub.norm ⟨rfl, rfl, rfl, rfl, rfl, rfl, rfl, rfl, rfl, trivial⟩ ⟨rfl, trivial⟩ (Nat.le_refl _) rfl rfl rfl rfl) ⟨jj + 1, _, _, by omega, hstep, rfl, rfl⟩
    rintro F H ⟨t, p, hmul, rfl, rfl⟩
    have htl := hmul.len
    have hcar := hmul.car
    have heq := hmul.eq
    have hva : vt a a.length = val a := rfl
    have hvt : vt t a.length = val t := by unfold val; rw [htl]
    rw [hva, hvt, hav] at heq
    have hN : (numN b s i : Int) * f + part = (numN b s (i + j) : Int) := by
      rw [← hf, ← hpe]; simp
    rw [hN] at heq
    have hval0 : val a ≤ val a * f := by
      have h1 : 0 ≤ val a := by rw [hav]; omega
      have := Int.mul_le_mul_of_nonneg_left (show 1 ≤ f by omega) h1
      omega
    have hmono := numN_mono b (by omega) s (i + j) (s.length - (i + j))
    rw [show i + j + (s.length - (i + j)) = s.length by omega] at hmono
    have toobig : ∀ l : List Int, Nrm l → val l = (numN b s (i + j) : Int) → 4096 < l.length → R = .tup [.nil, .int .i64 0, .int .i64 2] := by
      intro l hln hlv hll
      refine hR2 fun hsm => ?_
      have h1 := hln (by omega)
      have h2 := pow_mono64 (show 4096 ≤ l.length - 1 by omega)
      unfold num at hsm
      omega
    by_cases hp0 : p = 0
    · subst hp0
      have hvt2 : val t = (numN b s (i + j) : Int) := by rw [← heq]; simp
      have htn : Nrm t := fun h0 => by
        rw [htl] at h0 ⊢
        have := haN h0
        rw [hvt2, ← hN, ← hav]; omega
      rw [← htl]
      repeat' first
        | (with_reducible first | refine PW.seq ?_ | refine PW.block ?_ | refine PW.fork ?_ | refine PW.skip ?_ | refine PW.exit ?_ | refine PW.ret ?_)
        | (with_reducible refine PW.region ttOk ?_ ?_
           · rfl)
        | (with_reducible refine PW.regionD ttOk mixed ?_ ?_ ?_
           · rfl
           · rfl)
        | (with_reducible refine ifW_dec (fun g => ?_) (fun g => ?_) <;> first | (exfalso; omega) | (simp -dsimp only [g, wkI]))
        | (with_reducible refine condE_dec (fun g => ?_) (fun g => ?_) <;> try (exfalso; omega))
        | (with_reducible refine condE_not (fun g => ?_) (fun g => ?_) <;> try (exfalso; omega))
        | (simp -dsimp only [↓wkA, wkB, ↓tt, Nat.reduceBEq, Nat.reduceEqDiff, ↓reduceIte, Nat.reduceLT, Array.toList, Nat.reduceAdd, Nat.reduceMul, Int.reduceToNat, Int.reducePow, UInt8.reduceToNat])
        | (simp -dsimp (disch := first | assumption | omega) only [dec_t, dec_f])
        | (refine And.intro ?_ ?_
           · first | omega | decide | (simp (disch := omega) only [wkW, Int.reduceToNat, Int.reducePow] <;> omega) | (simp <;> omega))
        | (simp (disch := omega) only [wkW, Int.reduceToNat, Int.reducePow])
        | fail
      exact Again.mk (m - j) (ffO b k s (i + j) t.length) (fhO t) (by omega) (Sub.norm ⟨rfl, rfl, rfl, rfl, rfl, trivial⟩ ⟨rfl, trivial⟩ (Nat.le_refl _) rfl rfl rfl rfl) ⟨i + j, t, by omega, hmul.lim, htn, hvt2, by omega, rfl, rfl⟩
    · have hvt2 : val (t ++ [p]) = (numN b s (i + j) : Int) := by
        rw [← heq]
        unfold val
        rw [List.length_append, List.length_singleton]
        have e1 : vt (t ++ [p]) (t.length + 1) = vt (t ++ [p]) t.length + B64 ^ t.length * (t ++ [p]).getD t.length 0 := rfl
        have e2 : (t ++ [p]).getD t.length 0 = p := by simp [List.getD_eq_getElem?_getD]
        have e3 : vt (t ++ [p]) t.length = vt t t.length := vt_same _ fun j hj => by simp [List.getD_eq_getElem?_getD, List.getElem?_append_left hj]
        rw [e1, e2, e3, htl]
      have htn : Nrm (t ++ [p]) := fun h0 => by
        rw [hvt2, ← heq, List.length_append, List.length_singleton, Nat.add_sub_cancel, htl]
        have h1 := vt_bound hmul.lim t.length
        have h2 : 0 ≤ val t := h1.1
        have h3 : B64 ^ a.length * 1 ≤ B64 ^ a.length * p := Int.mul_le_mul_of_nonneg_left (by omega) (Int.le_of_lt (pow_pos64 _))
        omega
      have htL : Limbs (t ++ [p]) := fun x hx => by
        rcases List.mem_append.1 hx with h | h
        · exact hmul.lim x h
        · rw [List.mem_singleton] at h; subst h; exact hcar
      have htl2 : (t ++ [p]).length = a.length + 1 := by simp [htl]
      rw [← htl]
      have hcar2 := hcar
      simp only [B64] at hcar2
      repeat' first
        | (with_reducible first | refine PW.seq ?_ | refine PW.block ?_ | refine PW.fork ?_ | refine PW.skip ?_ | refine PW.exit ?_ | refine PW.ret ?_)
        | (with_reducible refine PW.region ttOk ?_ ?_
           · rfl)
        | (with_reducible refine PW.regionD ttOk mixed ?_ ?_ ?_
           · rfl
           · rfl)
        | (with_reducible refine ifW_dec (fun g => ?_) (fun g => ?_) <;> first | (exfalso; omega) | (simp -dsimp only [g, wkI]))
        | (with_reducible refine condE_dec (fun g => ?_) (fun g => ?_) <;> try (exfalso; omega))
        | (with_reducible refine condE_not (fun g => ?_) (fun g => ?_) <;> try (exfalso; omega))
        | (simp -dsimp only [↓wkA, wkB, ↓tt, Nat.reduceBEq, Nat.reduceEqDiff, ↓reduceIte, Nat.reduceLT, Array.toList, Nat.reduceAdd, Nat.reduceMul, Int.reduceToNat, Int.reducePow, UInt8.reduceToNat])
        | (simp -dsimp (disch := first | assumption | omega) only [dec_t, dec_f])
        | (refine And.intro ?_ ?_
           · first | omega | decide | (simp (disch := omega) only [wkW, Int.reduceToNat, Int.reducePow] <;> omega) | (simp <;> omega))
        | (simp (disch := omega) only [wkW, Int.reduceToNat, Int.reducePow])
        | fail
      · exact toobig _ htn hvt2 (by rw [htl2]; omega)
      · exact Again.mk (m - j) (ffO b k s (i + j) (t ++ [p]).length) (fhO (t ++ [p])) (by omega) (Sub.norm ⟨rfl, by simp only [List.length_append, List.length_singleton]; rfl, rfl, rfl, rfl, trivial⟩ ⟨rfl, trivial⟩ (by show 1 ≤ 2; omega) rfl rfl rfl rfl) ⟨i + j, t ++ [p], by omega, htL, htn, hvt2, by omega, rfl, rfl⟩
  · rintro F H ⟨a, haL, haN, hav, hal, rfl, rfl⟩
    have hsm : ((num b s : Nat) : Int) < B64 ^ 4096 := by
      rw [← hav]
      have h1 := vt_bound haL a.length
      have h2 := pow_mono64 hal
      unfold val; omega
    have hnat := natL_val haL haN
    rw [hav, Int.toNat_natCast] at hnat
    rw [hR1 hsm, ← hnat]
    repeat' first
      | (with_reducible first | refine PW.seq ?_ | refine PW.block ?_ | refine PW.fork ?_ | refine PW.skip ?_ | refine PW.exit ?_ | refine PW.ret ?_)
      | (with_reducible refine PW.region ttOk ?_ ?_
         · rfl)
      | (with_reducible refine PW.regionD ttOk mixed ?_ ?_ ?_
         · rfl
         · rfl)
      | (with_reducible refine ifW_dec (fun g => ?_) (fun g => ?_) <;> first | (exfalso; omega) | (simp -dsimp only [g, wkI]))
      | (with_reducible refine condE_dec (fun g => ?_) (fun g => ?_) <;> try (exfalso; omega))
      | (with_reducible refine condE_not (fun g => ?_) (fun g => ?_) <;> try (exfalso; omega))
      | (simp -dsimp only [↓wkA, wkB, ↓tt, Nat.reduceBEq, Nat.reduceEqDiff, ↓reduceIte, Nat.reduceLT, Array.toList, Nat.reduceAdd, Nat.reduceMul, Int.reduceToNat, Int.reducePow, UInt8.reduceToNat])
      | (exact Nat.le_refl _)
      | (simp -dsimp (disch := first | assumption | omega) only [dec_t, dec_f])
      | (refine And.intro ?_ ?_
         · first | omega | decide | (simp (disch := omega) only [wkW, Int.reduceToNat, Int.reducePow] <;> omega) | (simp <;> omega))
      | (simp (disch := omega) only [wkW, Int.reduceToNat, Int.reducePow])
      | fail
end Go.Proofs.YtjfakpogfakicaaDoor


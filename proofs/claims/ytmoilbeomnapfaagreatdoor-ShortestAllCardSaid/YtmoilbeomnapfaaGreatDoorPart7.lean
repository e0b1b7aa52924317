/- Contracts and laws that the row leans on, part 7: texts that were built one by one, laid together. -/
import Derived.Test.YtmoilbeomnapfaaGreatDoorPart4
import Derived.Test.YtmoilbeomnapfaaGreatDoorPart6
set_option maxHeartbeats 4000000
set_option maxRecDepth 4000
set_option exponentiation.threshold 300000
set_option linter.unusedVariables false
set_option linter.unusedSimpArgs false
namespace Go.Proofs.YtmoilbeomnapfaaGreatDoor
open Go Go.PV
theorem ref01_size (l : List Int) (hl : l.length ≤ 17592186043904) : Meets Tryz.prog 69 [.ints .u64 l] (.int .i64 (size l : Int)) := by
  refine meets_by ttOk Tryz.func69 Tryz.ntmps69 Tryz.results69 (by kernel_rfl) (c := _) rfl rfl rfl fun E => ?_
  simp only [argsFrame]
  refine walk1 ?_
  refine PW.meetB (fun F H => F = [(3, .int .i64 (size l : Int))] ∧ H = ⟨0, [], [], []⟩) ?_ ?_
  · refine PW.loopA (fun m F H => m ≤ l.length ∧ sizeN l m = size l ∧ F = [(3, .int .i64 (m : Int)), (0, .ints .u64 l)] ∧ H = ⟨0, [], [], []⟩) l.length [(3, .int .i64 (l.length : Int)), (0, .ints .u64 l)] ⟨0, [], [], []⟩ (Sub.norm ⟨rfl, rfl, trivial⟩ trivial (Nat.le_refl _) rfl rfl rfl rfl) ⟨Nat.le_refl _, rfl, rfl, rfl⟩ ?_
    rintro m F H ⟨hm, hs, rfl, rfl⟩
    cases m with
    | zero =>
      refine walk1 ?_
      exact Meet.mk [(3, .int .i64 (size l : Int))] ⟨0, [], [], []⟩ (Sub.norm ⟨by rw [← hs]; rfl, trivial⟩ trivial (Nat.le_refl _) rfl rfl rfl rfl) ⟨rfl, rfl⟩
    | succ m =>
      have e1 : (((m + 1 : Nat)) : Int) - 1 = (m : Int) := by omega
      repeat' first
        | (simp (disch := omega) only [e1, Int.toNat_natCast, wkW, Int.reduceToNat, Int.reducePow])
        | (with_reducible first | refine PW.seq ?_ | refine PW.block ?_ | refine PW.fork ?_ | refine PW.skip ?_ | refine PW.exit ?_ | refine PW.ret ?_ | refine PW.scope ?_ | refine PW.label ?_ | refine PW.goto ?_)
        | (with_reducible refine PW.region ttOk ?_ ?_
           · rfl)
        | (with_reducible refine PW.regionD ttOk mixed ?_ ?_ ?_
           · rfl
           · rfl)
        | (with_reducible refine ifW_dec (fun g => ?_) (fun g => ?_) <;> first | (exfalso; omega) | (simp -dsimp only [g, wkI]))
        | (with_reducible refine condE_dec (fun g => ?_) (fun g => ?_) <;> try (exfalso; omega))
        | (with_reducible refine condE_not (fun g => ?_) (fun g => ?_) <;> try (exfalso; omega))
        | (simp -dsimp only [↓wkA, ↓wkE, ↓wkJ, wkB, ↓tt, Nat.reduceBEq, Nat.reduceEqDiff, ↓reduceIte, Nat.reduceLT, Array.toList, Nat.reduceAdd, Nat.reduceMul, Int.reduceToNat, Int.reducePow, UInt8.reduceToNat])
        | (simp -dsimp (disch := first | assumption | omega) only [dec_t, dec_f])
        | (refine andI ?_)
        | (simp (disch := omega) only [wkW, Int.reduceToNat, Int.reducePow])
        | fail
      · have h0 : l.getD m 0 = 0 := by assumption
        exact Again.mk m [(3, .int .i64 (m : Int)), (0, .ints .u64 l)] ⟨0, [], [], []⟩ (by omega) (Sub.norm ⟨rfl, rfl, trivial⟩ trivial (Nat.le_refl _) rfl rfl rfl rfl) ⟨by omega, by rw [← hs, sizeN, if_pos h0], rfl, rfl⟩
      · have h0 : ¬ l.getD m 0 = 0 := by assumption
        exact Meet.mk [(3, .int .i64 (size l : Int))] ⟨0, [], [], []⟩ (Sub.norm ⟨by rw [← hs, sizeN, if_neg h0]; rfl, trivial⟩ trivial (Nat.le_refl _) rfl rfl rfl rfl) ⟨rfl, rfl⟩
  rintro F H ⟨rfl, rfl⟩
  exact walk
theorem take_snoc (l : List Int) {i : Nat} (h : i < l.length) : l.take i ++ [l.getD i 0] = l.take (i + 1) := by
  rw [List.take_add_one, List.getElem?_eq_getElem h, List.getD_eq_getElem?_getD, List.getElem?_eq_getElem h]; rfl
theorem ref01_trim (l : List Int) (hl : l.length ≤ 100000000) : Meets Tryz.prog 146 [.ints .u64 l] (.ints .u64 (trim l)) := by
  refine meets_by ttOk Tryz.func146 Tryz.ntmps146 Tryz.results146 (by kernel_rfl) (c := _) rfl rfl rfl fun E => ?_
  simp only [argsFrame]
  refine walk1 ?_
  refine PW.meetB (fun F H => F = [(3, .int .i64 (size l : Int)), (0, .ints .u64 l)] ∧ H = ⟨0, [], [], []⟩) ?_ ?_
  · refine PW.loopA (fun m F H => m ≤ l.length ∧ sizeN l m = size l ∧ F = [(3, .int .i64 (m : Int)), (0, .ints .u64 l)] ∧ H = ⟨0, [], [], []⟩) l.length [(3, .int .i64 (l.length : Int)), (0, .ints .u64 l)] ⟨0, [], [], []⟩ (Sub.norm ⟨rfl, rfl, trivial⟩ trivial (Nat.le_refl _) rfl rfl rfl rfl) ⟨Nat.le_refl _, rfl, rfl, rfl⟩ ?_
    rintro m F H ⟨hm, hs, rfl, rfl⟩
    cases m with
    | zero =>
      refine walk1 ?_
      exact Meet.mk [(3, .int .i64 (size l : Int)), (0, .ints .u64 l)] ⟨0, [], [], []⟩ (Sub.norm ⟨by rw [← hs]; rfl, rfl, trivial⟩ trivial (Nat.le_refl _) rfl rfl rfl rfl) ⟨rfl, rfl⟩
    | succ m =>
      have e1 : (((m + 1 : Nat)) : Int) - 1 = (m : Int) := by omega
      repeat' first
        | (simp (disch := omega) only [e1, Int.toNat_natCast, wkW, Int.reduceToNat, Int.reducePow])
        | (with_reducible first | refine PW.seq ?_ | refine PW.block ?_ | refine PW.fork ?_ | refine PW.skip ?_ | refine PW.exit ?_ | refine PW.ret ?_ | refine PW.scope ?_ | refine PW.label ?_ | refine PW.goto ?_)
        | (with_reducible refine PW.region ttOk ?_ ?_
           · rfl)
        | (with_reducible refine PW.regionD ttOk mixed ?_ ?_ ?_
           · rfl
           · rfl)
        | (with_reducible refine ifW_dec (fun g => ?_) (fun g => ?_) <;> first | (exfalso; omega) | (simp -dsimp only [g, wkI]))
        | (with_reducible refine condE_dec (fun g => ?_) (fun g => ?_) <;> try (exfalso; omega))
        | (with_reducible refine condE_not (fun g => ?_) (fun g => ?_) <;> try (exfalso; omega))
        | (simp -dsimp only [↓wkA, ↓wkE, ↓wkJ, wkB, ↓tt, Nat.reduceBEq, Nat.reduceEqDiff, ↓reduceIte, Nat.reduceLT, Array.toList, Nat.reduceAdd, Nat.reduceMul, Int.reduceToNat, Int.reducePow, UInt8.reduceToNat])
        | (simp -dsimp (disch := first | assumption | omega) only [dec_t, dec_f])
        | (refine andI ?_)
        | (simp (disch := omega) only [wkW, Int.reduceToNat, Int.reducePow])
        | fail
      · have h0 : l.getD m 0 = 0 := by assumption
        exact Again.mk m [(3, .int .i64 (m : Int)), (0, .ints .u64 l)] ⟨0, [], [], []⟩ (by omega) (Sub.norm ⟨rfl, rfl, trivial⟩ trivial (Nat.le_refl _) rfl rfl rfl rfl) ⟨by omega, by rw [← hs, sizeN, if_pos h0], rfl, rfl⟩
      · have h0 : ¬ l.getD m 0 = 0 := by assumption
        exact Meet.mk [(3, .int .i64 (size l : Int)), (0, .ints .u64 l)] ⟨0, [], [], []⟩ (Sub.norm ⟨by rw [← hs, sizeN, if_neg h0]; rfl, rfl, trivial⟩ trivial (Nat.le_refl _) rfl rfl rfl rfl) ⟨rfl, rfl⟩
  rintro F H ⟨rfl, rfl⟩
  have hsz := size_le l
  unfold trim
  have W := Int.toNat_natCast
  refine walk1 ?_
  refine PW.loopA (fun m F H => ∃ i : Nat, i + m = size l ∧ F = [(5, .int .i64 (i : Int)), (4, .sl 0 0 i true), (3, .int .i64 (size l : Int)), (0, .ints .u64 l)] ∧ H = ⟨1, [(0, .ints .u64 (l.take i))], [], []⟩) (size l) [(5, .int .i64 ((0 : Nat) : Int)), (4, .sl 0 0 0 true), (3, .int .i64 (size l : Int)), (0, .ints .u64 l)] ⟨1, [(0, .ints .u64 (l.take 0))], [], []⟩ (Sub.norm ⟨rfl, rfl, rfl, rfl, trivial⟩ ⟨rfl, trivial⟩ (Nat.le_refl _) rfl rfl rfl rfl) ⟨0, by omega, rfl, rfl⟩ ?_
  rintro m F H ⟨i, hi, rfl, rfl⟩
  have hlt : (l.take i).length = i := by rw [List.length_take]; omega
  cases m with
  | zero =>
    obtain rfl : i = size l := by omega
    generalize l.take (size l) = s at *
    refine walk1 ?_
    rw [List.take_of_length_le (by omega)]
  | succ m =>
    have hs := take_snoc l (show i < l.length by omega)
    have w1 : IntKind.wrap .i64 ((i : Int) + 1) = ((i + 1 : Nat) : Int) := wrap_i64 (by omega)
    generalize l.take i = s at *
    have W := cj w1 Int.toNat_natCast
    refine walk1 ?_
    simp only [List.take_of_length_le (Nat.le_of_eq hlt), hlt, hs]
    exact Again.mk m [(5, .int .i64 ((i + 1 : Nat) : Int)), (4, .sl 0 0 (i + 1) true), (3, .int .i64 (size l : Int)), (0, .ints .u64 l)] ⟨1, [(0, .ints .u64 (l.take (i + 1)))], [], []⟩ (by omega) (Sub.norm ⟨rfl, rfl, rfl, rfl, trivial⟩ ⟨rfl, trivial⟩ (by simp) rfl rfl rfl rfl) ⟨i + 1, by omega, rfl, rfl⟩
theorem take_snoc_all (s : List Int) (x : Int) : List.take (s.length + 1) (s ++ [x]) = s ++ [x] := List.take_of_length_le (by simp)
theorem len_snoc (s : List Int) (x : Int) : (s ++ [x]).length = s.length + 1 := by simp
abbrev hvF (l : List Int) (i : Nat) : PV.Frame := [(4, .int .i64 (i : Int)), (3, .sl 0 0 (2 * i) true), (0, .ints .u64 l)]
theorem ref01_halves (l : List Int) (hL : Limbs l) (hl : l.length ≤ 100000000) : Meets Tryz.prog 112 [.ints .u64 l] (.ints .u64 (hv l)) := by
  have w0 : IntKind.wrap .i64 (2 * (l.length : Int)) = ((2 * l.length : Nat) : Int) := by rw [wrap_i64 (by omega)]; omega
  unfold hv trim
  refine meets_by ttOk Tryz.func112 Tryz.ntmps112 Tryz.results112 (by kernel_rfl) (c := _) rfl rfl rfl fun E => ?_
  simp only [argsFrame]
  have W := cj w0 Int.toNat_natCast
  refine walk1 ?_
  refine PW.loopA (fun m F H => ∃ i : Nat, i + m = l.length ∧ F = hvF l i ∧ H = ⟨1, [(0, .ints .u64 (spN l i))], [], []⟩) l.length (hvF l 0) ⟨1, [(0, .ints .u64 [])], [], []⟩ (Sub.norm ⟨rfl, rfl, rfl, trivial⟩ ⟨rfl, trivial⟩ (Nat.le_refl _) rfl rfl rfl rfl) ⟨0, by omega, rfl, rfl⟩ ?_
  rintro m F H ⟨i, hi, rfl, rfl⟩
  have hlen := spN_len l i
  cases m with
  | zero =>
    obtain rfl : i = l.length := by omega
    generalize spN l l.length = s at *
    refine walk1 ?_
    refine PW.meetB (fun F H => F = [(5, .int .i64 (size s : Int)), (3, .sl 0 0 (2 * l.length) true)] ∧ H = ⟨1, [(0, .ints .u64 s)], [], []⟩) ?_ ?_
    · refine PW.loopA (fun m F H => m ≤ s.length ∧ sizeN s m = size s ∧ F = [(5, .int .i64 (m : Int)), (3, .sl 0 0 (2 * l.length) true)] ∧ H = ⟨1, [(0, .ints .u64 s)], [], []⟩) s.length [(5, .int .i64 (s.length : Int)), (3, .sl 0 0 (2 * l.length) true)] ⟨1, [(0, .ints .u64 s)], [], []⟩ (Sub.norm ⟨by rw [hlen]; rfl, rfl, trivial⟩ ⟨rfl, trivial⟩ (Nat.le_refl _) rfl rfl rfl rfl) ⟨Nat.le_refl _, rfl, rfl, rfl⟩ ?_
      rintro m F H ⟨hm, hs, rfl, rfl⟩
      cases m with
      | zero =>
        refine walk1 ?_
        exact Meet.mk [(5, .int .i64 (size s : Int)), (3, .sl 0 0 (2 * l.length) true)] ⟨1, [(0, .ints .u64 s)], [], []⟩ (Sub.norm ⟨by rw [← hs]; rfl, rfl, trivial⟩ ⟨rfl, trivial⟩ (Nat.le_refl _) rfl rfl rfl rfl) ⟨rfl, rfl⟩
      | succ m =>
        have e1 : (((m + 1 : Nat)) : Int) - 1 = (m : Int) := by omega
        repeat' first
          | (simp (disch := omega) only [e1, Int.toNat_natCast, wkW, Int.reduceToNat, Int.reducePow])
          | (with_reducible first | refine PW.seq ?_ | refine PW.block ?_ | refine PW.fork ?_ | refine PW.skip ?_ | refine PW.exit ?_ | refine PW.ret ?_ | refine PW.scope ?_ | refine PW.label ?_ | refine PW.goto ?_)
          | (with_reducible refine PW.region ttOk ?_ ?_
             · rfl)
          | (with_reducible refine PW.regionD ttOk mixed ?_ ?_ ?_
             · rfl
             · rfl)
          | (with_reducible refine ifW_dec (fun g => ?_) (fun g => ?_) <;> first | (exfalso; omega) | (simp -dsimp only [g, wkI]))
          | (with_reducible refine condE_dec (fun g => ?_) (fun g => ?_) <;> try (exfalso; omega))
          | (with_reducible refine condE_not (fun g => ?_) (fun g => ?_) <;> try (exfalso; omega))
          | (simp -dsimp only [↓wkA, ↓wkE, ↓wkJ, wkB, ↓tt, Nat.reduceBEq, Nat.reduceEqDiff, ↓reduceIte, Nat.reduceLT, Array.toList, Nat.reduceAdd, Nat.reduceMul, Int.reduceToNat, Int.reducePow, UInt8.reduceToNat])
          | (simp -dsimp (disch := first | assumption | omega) only [dec_t, dec_f])
          | (refine andI ?_)
          | (simp (disch := omega) only [wkW, Int.reduceToNat, Int.reducePow])
          | fail
        · have h0 : s.getD m 0 = 0 := by assumption
          exact Again.mk m [(5, .int .i64 (m : Int)), (3, .sl 0 0 (2 * l.length) true)] ⟨1, [(0, .ints .u64 s)], [], []⟩ (by omega) (Sub.norm ⟨rfl, rfl, trivial⟩ ⟨rfl, trivial⟩ (Nat.le_refl _) rfl rfl rfl rfl) ⟨by omega, by rw [← hs, sizeN, if_pos h0], rfl, rfl⟩
        · have h0 : ¬ s.getD m 0 = 0 := by assumption
          exact Meet.mk [(5, .int .i64 (size s : Int)), (3, .sl 0 0 (2 * l.length) true)] ⟨1, [(0, .ints .u64 s)], [], []⟩ (Sub.norm ⟨by rw [← hs, sizeN, if_neg h0]; rfl, rfl, trivial⟩ ⟨rfl, trivial⟩ (Nat.le_refl _) rfl rfl rfl rfl) ⟨rfl, rfl⟩
    rintro F H ⟨rfl, rfl⟩
    have hsz := size_le s
    refine walk1 ?_
    rw [Int.sub_zero, Int.toNat_natCast]
  | succ m =>
    have hx := getD_limb hL i
    simp only [B64] at hx
    have h32 := and32 (a := l.getD i 0) (by omega)
    have w1 : IntKind.wrap .i64 ((i : Int) + 1) = ((i + 1 : Nat) : Int) := wrap_i64 (by omega)
    have hsp : spN l i ++ [l.getD i 0 % 4294967296] ++ [l.getD i 0 / 4294967296] = spN l (i + 1) := rfl
    generalize spN l i = s at *
    have W := cj w1 (cj h32 (cj fdiv32 Int.toNat_natCast))
    refine walk1 ?_
    have htk := take_snoc_all s (l.getD i 0 % 4294967296)
    rw [hlen] at htk
    simp only [List.take_of_length_le (Nat.le_of_eq hlen), htk, len_snoc, hsp, hlen]
    exact Again.mk m (hvF l (i + 1)) ⟨1, [(0, .ints .u64 (spN l (i + 1)))], [], []⟩ (by omega) (Sub.norm ⟨rfl, rfl, rfl, trivial⟩ ⟨rfl, trivial⟩ (by simp) rfl rfl rfl rfl) ⟨i + 1, by omega, rfl, rfl⟩
abbrev lbF (h : List Int) (i : Nat) : PV.Frame := [(4, .int .i64 ((2 * i : Nat) : Int)), (3, .sl 0 0 i true), (0, .ints .u64 h)]
theorem ref01_limbs (h : List Int) (hW : Words h) (hl : h.length ≤ 100000000) (v : Nat) (hv : wal h = v) : Meets Tryz.prog 113 [.ints .u64 h] (.ints .u64 (natL v)) := by
  obtain ⟨N, hN⟩ : ∃ N, (h.length + 1) / 2 = N := ⟨_, rfl⟩
  have w0 : IntKind.wrap .i64 (Int.tdiv ((h.length : Int) + 1) 2) = (N : Int) := by
    rw [show (h.length : Int) + 1 = ((h.length + 1 : Nat) : Int) by omega, show (2 : Int) = ((2 : Nat) : Int) from rfl, ← Int.ofNat_tdiv, hN]; exact wrap_i64 (by omega)
  have w00 : IntKind.wrap .i64 ((h.length : Int) + 1) = (h.length : Int) + 1 := wrap_i64 (by omega)
  have htr := ref01_trim (jnN h N) (by rw [jnN_len]; omega)
  rw [trim_natLv (jnN_limbs hW N) (v := v) (by rw [jnN_val, wt_beyond _ (by omega), hv])] at htr
  generalize natL v = res at *
  clear hv
  refine meets_by ttOk Tryz.func113 Tryz.ntmps113 Tryz.results113 (by kernel_rfl) (c := _) rfl rfl rfl fun E => ?_
  simp only [argsFrame]
  have W := cj w00 (cj w0 Int.toNat_natCast)
  refine walk1 ?_
  refine PW.loopA (fun m F H => ∃ i : Nat, i + m = N ∧ F = lbF h i ∧ H = ⟨1, [(0, .ints .u64 (jnN h i))], [], []⟩) N (lbF h 0) ⟨1, [(0, .ints .u64 [])], [], []⟩ (Sub.norm ⟨rfl, rfl, rfl, trivial⟩ ⟨rfl, trivial⟩ (Nat.le_refl _) rfl rfl rfl rfl) ⟨0, by omega, rfl, rfl⟩ ?_
  rintro m F H ⟨i, hi, rfl, rfl⟩
  have hlen := jnN_len h i
  cases m with
  | zero =>
    obtain rfl : i = N := by omega
    generalize jnN h i = s at *
    repeat' first
      | (with_reducible first | refine PW.seq ?_ | refine PW.block ?_ | refine PW.fork ?_ | refine PW.skip ?_ | refine PW.exit ?_ | refine PW.ret ?_ | refine PW.scope ?_ | refine PW.label ?_ | refine PW.goto ?_)
      | (with_reducible refine PW.region ttOk ?_ ?_
         · rfl)
      | (with_reducible refine PW.regionD ttOk mixed ?_ ?_ ?_
         · rfl
         · rfl)
      | (with_reducible refine ifW_dec (fun g => ?_) (fun g => ?_) <;> first | (exfalso; omega) | (simp -dsimp only [g, wkI]))
      | (with_reducible refine condE_dec (fun g => ?_) (fun g => ?_) <;> try (exfalso; omega))
      | (with_reducible refine condE_not (fun g => ?_) (fun g => ?_) <;> try (exfalso; omega))
      | (simp -dsimp only [↓wkA, ↓wkE, ↓wkJ, wkB, ↓tt, Nat.reduceBEq, Nat.reduceEqDiff, ↓reduceIte, Nat.reduceLT, Array.toList, Nat.reduceAdd, Nat.reduceMul, Int.reduceToNat, Int.reducePow, UInt8.reduceToNat])
      | (refine call_drop (args' := [.ints .u64 s]) (by simp -dsimp only [↓wkA, ↓wkE, ↓wkJ, wkB, ↓tt, Nat.reduceBEq, Nat.reduceEqDiff, ↓reduceIte, Nat.reduceLT, Array.toList, Nat.reduceAdd, Nat.reduceMul, Int.reduceToNat, Int.reducePow, UInt8.reduceToNat] <;> rw [List.take_of_length_le (by omega)]) htr (by simp -dsimp only [okViews, ↓wkA, ↓wkE, ↓wkJ, wkB, ↓tt, Nat.reduceBEq, Nat.reduceEqDiff, ↓reduceIte, Nat.reduceLT, Array.toList, Nat.reduceAdd, Nat.reduceMul, Int.reduceToNat, Int.reducePow, UInt8.reduceToNat] <;> omega) rfl ?_)
      | (simp -dsimp (disch := first | assumption | omega) only [dec_t, dec_f])
      | (refine andI ?_)
      | (simp (disch := omega) only [wkW, Int.reduceToNat, Int.reducePow])
      | fail
  | succ m =>
    have hx := getD_word hW (2 * i)
    have hy := getD_word hW (2 * i + 1)
    simp only [B32] at hx hy
    have w1 : IntKind.wrap .i64 (((2 * i : Nat) : Int) + 2) = ((2 * (i + 1) : Nat) : Int) := by rw [wrap_i64 (by omega)]; omega
    have w2 : IntKind.wrap .i64 (((2 * i : Nat) : Int) + 1) = ((2 * i + 1 : Nat) : Int) := by rw [wrap_i64 (by omega)]; omega
    have w3 : IntKind.wrap .u64 (h.getD (2 * i + 1) 0 * 2 ^ min 32 64) = h.getD (2 * i + 1) 0 * 4294967296 := by rw [show (2 : Int) ^ min 32 64 = 4294967296 from rfl]; exact wrap_u64 (by omega)
    have w4 : IntKind.wrap .u64 (h.getD (2 * i) 0 + h.getD (2 * i + 1) 0 * 4294967296) = h.getD (2 * i) 0 + h.getD (2 * i + 1) 0 * 4294967296 := wrap_u64 (by omega)
    have hsp : jnN h i ++ [h.getD (2 * i) 0 + h.getD (2 * i + 1) 0 * 4294967296] = jnN h (i + 1) := rfl
    have d0 : decide (((2 * i : Nat) : Int) < (h.length : Int)) = true := decide_eq_true (by omega)
    by_cases hc : 2 * i + 1 < h.length
    · have d1 : decide (((2 * i + 1 : Nat) : Int) < (h.length : Int)) = true := decide_eq_true (by omega)
      generalize jnN h i = s at *
      have W := cj w1 (cj w2 (cj w3 (cj w4 (cj d0 (cj d1 Int.toNat_natCast)))))
      refine walk1 ?_
      simp only [List.take_of_length_le (Nat.le_of_eq hlen), hlen, hsp]
      exact Again.mk m (lbF h (i + 1)) ⟨1, [(0, .ints .u64 (jnN h (i + 1)))], [], []⟩ (by omega) (Sub.norm ⟨rfl, rfl, rfl, trivial⟩ ⟨rfl, trivial⟩ (by simp) rfl rfl rfl rfl) ⟨i + 1, by omega, rfl, rfl⟩
    · have d1 : decide (((2 * i + 1 : Nat) : Int) < (h.length : Int)) = false := decide_eq_false (by omega)
      have h0 : h.getD (2 * i + 1) 0 = 0 := by rw [List.getD_eq_getElem?_getD, List.getElem?_eq_none (by omega)]; rfl
      rw [h0, Int.zero_mul, Int.add_zero] at hsp
      generalize jnN h i = s at *
      have W := cj w1 (cj w2 (cj w3 (cj w4 (cj d0 (cj d1 Int.toNat_natCast)))))
      refine walk1 ?_
      simp only [List.take_of_length_le (Nat.le_of_eq hlen), hlen, hsp]
      exact Again.mk m (lbF h (i + 1)) ⟨1, [(0, .ints .u64 (jnN h (i + 1)))], [], []⟩ (by omega) (Sub.norm ⟨rfl, rfl, rfl, trivial⟩ ⟨rfl, trivial⟩ (by simp) rfl rfl rfl rfl) ⟨i + 1, by omega, rfl, rfl⟩
theorem getD_none {l : List Int} {i : Nat} (h : l.length ≤ i) : l.getD i 0 = 0 := by rw [List.getD_eq_getElem?_getD, List.getElem?_eq_none h]; rfl
structure PluS (x y s : List Int) (i : Nat) (c : Int) : Prop where
  len : s.length = i
  wds : Words s
  car : 0 ≤ c ∧ c ≤ 1
  eq : wal s + B32 ^ i * c = wt x i + wt y i
theorem PluS.step {x y s : List Int} {i : Nat} {c t : Int} (h : PluS x y s i c) (hx : Words x) (hy : Words y) (ht : c + x.getD i 0 + y.getD i 0 = t) : PluS x y (s ++ [t % 4294967296]) (i + 1) (t / 4294967296) := by
  have h1 := getD_word hx i
  have h2 := getD_word hy i
  have hc := h.car
  simp only [B32] at h1 h2
  refine ⟨by rw [len_snoc, h.len], words_snoc h.wds (by simp only [B32]; omega), by omega, ?_⟩
  rw [wal_snoc, h.len]
  simp only [wt]
  rw [Int.pow_succ]
  have he := h.eq
  have hs := Int.mul_ediv_add_emod t 4294967296
  rw [← ht] at hs ⊢
  simp only [B32] at he ⊢
  generalize (c + x.getD i 0 + y.getD i 0) / 4294967296 = q at *
  generalize (c + x.getD i 0 + y.getD i 0) % 4294967296 = r at *
  generalize (4294967296 : Int) ^ i = p at *
  grind
abbrev plF0 (x y : List Int) (i : Nat) (c : Int) : PV.Frame := [(9, .int .i64 (i : Int)), (8, .int .u64 c), (7, .sl 0 0 i true), (5, .ints .u64 x), (6, .ints .u64 y)]
theorem plus_walk (a b x y : List Int) (ha : Meets Tryz.prog 112 [.ints .u64 a] (.ints .u64 x)) (hb : Meets Tryz.prog 112 [.ints .u64 b] (.ints .u64 y)) (hx : Words x) (hy : Words y) (hxl : x.length ≤ 1000000) (hyl : y.length ≤ 1000000) (v : Nat) (hv : wal x + wal y = v) :
    Meets Tryz.prog 70 [.ints .u64 a, .ints .u64 b] (.ints .u64 (natL v)) := by
  have w0 : IntKind.wrap .i64 ((x.length : Int) + (y.length : Int)) = ((x.length + y.length : Nat) : Int) := by rw [wrap_i64 (by omega)]; omega
  have w1 : IntKind.wrap .i64 (((x.length + y.length : Nat) : Int) + 1) = ((x.length + y.length + 1 : Nat) : Int) := wrap_i64 (by omega)
  obtain ⟨N, hN⟩ : ∃ N, max x.length y.length = N := ⟨_, rfl⟩
  have hN2 : (x.length ≤ N ∧ y.length ≤ N) ∧ N ≤ 1000000 ∧ ∀ i : Nat, i < N → i < x.length ∨ i < y.length := ⟨⟨by omega, by omega⟩, by omega, fun i hi => by omega⟩
  clear hN
  have hlim : ∀ s c, PluS x y s N c → Meets Tryz.prog 113 [.ints .u64 (s ++ [c])] (.ints .u64 (natL v)) := fun s c hS => by
    have hc := hS.car
    refine ref01_limbs _ (words_snoc hS.wds (by simp only [B32]; omega)) (by rw [len_snoc, hS.len]; omega) v ?_
    rw [wal_snoc, hS.len, hS.eq, wt_beyond _ hN2.1.1, wt_beyond _ hN2.1.2, hv]
  generalize natL v = res at *
  clear hv
  refine meets_by ttOk Tryz.func70 Tryz.ntmps70 Tryz.results70 (by kernel_rfl) (c := _) rfl rfl rfl fun E => ?_
  simp only [argsFrame]
  have W := cj w0 (cj w1 Int.toNat_natCast)
  refine walk1 ?_
  refine PW.loopA (fun m F H => ∃ i s c, i + m = N ∧ PluS x y s i c ∧ F = plF0 x y i c ∧ H = ⟨1, [(0, .ints .u64 s)], [], []⟩) N (plF0 x y 0 0) ⟨1, [(0, .ints .u64 [])], [], []⟩ (Sub.norm ⟨rfl, rfl, rfl, rfl, rfl, trivial⟩ ⟨rfl, trivial⟩ (Nat.le_refl _) rfl rfl rfl rfl) ⟨0, [], 0, by omega, ⟨rfl, fun x hx => (by cases hx), by decide, by simp [wt, wal]⟩, rfl, rfl⟩ ?_
  rintro m F H ⟨i, s, c, hi, hS, rfl, rfl⟩
  have hsl := hS.len
  have hcar := hS.car
  cases m with
  | zero =>
    obtain rfl : i = N := by omega
    have hm := hlim s c hS
    have d1 : decide ((i : Int) < (x.length : Int)) = false := decide_eq_false (by omega)
    have d2 : decide ((i : Int) < (y.length : Int)) = false := decide_eq_false (by omega)
    have htk : List.take i s = s := List.take_of_length_le (by omega)
    clear hS
    repeat' first
      | (with_reducible first | refine PW.seq ?_ | refine PW.block ?_ | refine PW.fork ?_ | refine PW.skip ?_ | refine PW.exit ?_ | refine PW.ret ?_ | refine PW.scope ?_ | refine PW.label ?_ | refine PW.goto ?_)
      | (simp only [d1, d2, htk])
      | (with_reducible refine PW.region ttOk ?_ ?_
         · rfl)
      | (with_reducible refine PW.regionD ttOk mixed ?_ ?_ ?_
         · rfl
         · rfl)
      | (with_reducible refine ifW_dec (fun g => ?_) (fun g => ?_) <;> first | (exfalso; omega) | (simp -dsimp only [g, wkI]))
      | (with_reducible refine condE_dec (fun g => ?_) (fun g => ?_) <;> try (exfalso; omega))
      | (with_reducible refine condE_not (fun g => ?_) (fun g => ?_) <;> try (exfalso; omega))
      | (simp -dsimp only [↓wkA, ↓wkE, ↓wkJ, wkB, ↓tt, Nat.reduceBEq, Nat.reduceEqDiff, ↓reduceIte, Nat.reduceLT, Array.toList, Nat.reduceAdd, Nat.reduceMul, Int.reduceToNat, Int.reducePow, UInt8.reduceToNat])
      | (refine call_drop (args' := [.ints .u64 (s ++ [c])]) (by simp -dsimp only [↓wkA, ↓wkE, ↓wkJ, wkB, ↓tt, Nat.reduceBEq, Nat.reduceEqDiff, ↓reduceIte, Nat.reduceLT, Array.toList, Nat.reduceAdd, Nat.reduceMul, Int.reduceToNat, Int.reducePow, UInt8.reduceToNat] <;> rw [take_snoc_all]) hm (by simp -dsimp only [okViews, ↓wkA, ↓wkE, ↓wkJ, wkB, ↓tt, Nat.reduceBEq, Nat.reduceEqDiff, ↓reduceIte, Nat.reduceLT, Array.toList, Nat.reduceAdd, Nat.reduceMul, Int.reduceToNat, Int.reducePow, UInt8.reduceToNat] <;> simp) rfl ?_)
      | (simp -dsimp (disch := first | assumption | omega) only [dec_t, dec_f])
      | (refine andI ?_)
      | (simp (disch := omega) only [wkW, Int.reduceToNat, Int.reducePow])
      | fail
  | succ m =>
    have h1 := getD_word hx i
    have h2 := getD_word hy i
    simp only [B32] at h1 h2
    have hst := hS.step hx hy rfl
    have w2 : IntKind.wrap .i64 ((i : Int) + 1) = ((i + 1 : Nat) : Int) := wrap_i64 (by omega)
    have w3 : IntKind.wrap .u64 (c + x.getD i 0) = c + x.getD i 0 := wrap_u64 (by omega)
    have w4 : IntKind.wrap .u64 (c + x.getD i 0 + y.getD i 0) = c + x.getD i 0 + y.getD i 0 := wrap_u64 (by omega)
    have w5 : IntKind.wrap .u64 (c + y.getD i 0) = c + y.getD i 0 := wrap_u64 (by omega)
    have h3 := and32 (a := c + x.getD i 0 + y.getD i 0) (by omega)
    have htk : List.take i s = s := List.take_of_length_le (by omega)
    by_cases hix : i < x.length
    case' neg => have hx0 := getD_none (Nat.le_of_not_lt hix); rw [hx0, Int.add_zero] at h3 hst
    all_goals by_cases hiy : i < y.length
    all_goals first
      | (have d1 : decide ((i : Int) < (x.length : Int)) = true := decide_eq_true (by omega))
      | (have d1 : decide ((i : Int) < (x.length : Int)) = false := decide_eq_false (by omega))
    all_goals first
      | (have d2 : decide ((i : Int) < (y.length : Int)) = true := decide_eq_true (by omega))
      | (have d2 : decide ((i : Int) < (y.length : Int)) = false := decide_eq_false (by omega); have hy0 := getD_none (Nat.le_of_not_lt hiy); rw [hy0, Int.add_zero] at h3 hst)
    all_goals first
      | (exfalso; have := hN2.2.2 i (by omega); omega)
      | skip
    all_goals
      have W := cj d1 (cj d2 (cj w2 (cj w3 (cj w4 (cj w5 (cj h3 (cj htk fdiv32)))))))
      refine walk1 ?_
    all_goals simp only [hsl]
    all_goals exact Again.mk m (plF0 x y (i + 1) _) ⟨1, [(0, .ints .u64 _)], [], []⟩ (by omega) (Sub.norm ⟨rfl, rfl, rfl, rfl, rfl, trivial⟩ ⟨rfl, trivial⟩ (by simp) rfl rfl rfl rfl) ⟨i + 1, _, _, by omega, hst, rfl, rfl⟩
theorem ref01_plus {a b : List Int} (ha : Limbs a) (hb : Limbs b) (hla : a.length ≤ 100000) (hlb : b.length ≤ 100000) {u v : Nat} (hu : val a = u) (hv : val b = v) : Meets Tryz.prog 70 [.ints .u64 a, .ints .u64 b] (.ints .u64 (natL (u + v))) := by
  have l1 := hv_len a
  have l2 := hv_len b
  exact plus_walk a b _ _ (ref01_halves a ha (by omega)) (ref01_halves b hb (by omega)) (hv_words ha) (hv_words hb) (by omega) (by omega) _ (by rw [hv_wal, hv_wal, hu, hv]; omega)
structure LifS (x s : List Int) (z : Nat) (f : Int) (i : Nat) (c : Int) : Prop where
  len : s.length = z + i
  wds : Words s
  car : 0 ≤ c ∧ c < B32
  eq : wal s + B32 ^ (z + i) * c = B32 ^ z * (f * wt x i)
theorem words_zeros (n : Nat) : Words (List.replicate n 0) := fun x hx => by rw [List.eq_of_mem_replicate hx]; decide
theorem wal_zeros (n : Nat) : wal (List.replicate n 0) = 0 := wt_zeros _ _
theorem LifS.start (x : List Int) (z : Nat) (f : Int) : LifS x (List.replicate z 0) z f 0 0 := ⟨by simp, words_zeros z, by decide, by rw [wal_zeros]; simp [wt]⟩
theorem mul_word {x f : Int} (hx : 0 ≤ x ∧ x < 4294967296) (hf : 0 ≤ f ∧ f < 4294967296) : 0 ≤ x * f ∧ x * f ≤ 18446744065119617025 :=
  ⟨Int.mul_nonneg hx.1 hf.1, Int.le_trans (Int.mul_le_mul (c := 4294967295) (d := 4294967295) (by omega) (by omega) hf.1 (by omega)) (by decide)⟩
theorem LifS.step {x s : List Int} {z i : Nat} {f c t : Int} (h : LifS x s z f i c) (hx : Words x) (hf : 0 ≤ f ∧ f < 4294967296) (ht : x.getD i 0 * f + c = t) : LifS x (s ++ [t % 4294967296]) z f (i + 1) (t / 4294967296) := by
  have h1 := getD_word hx i
  have hc := h.car
  simp only [B32] at h1 hc
  have hm := mul_word h1 hf
  refine ⟨by rw [len_snoc, h.len]; omega, words_snoc h.wds (by simp only [B32]; omega), by simp only [B32]; omega, ?_⟩
  rw [wal_snoc, h.len]
  simp only [wt]
  rw [show z + (i + 1) = (z + i) + 1 by omega, Int.pow_succ, show (B32 : Int) ^ (z + i) = B32 ^ z * B32 ^ i from Int.pow_add _ _ _]
  have he := h.eq
  rw [show (B32 : Int) ^ (z + i) = B32 ^ z * B32 ^ i from Int.pow_add _ _ _] at he
  have hs := Int.mul_ediv_add_emod t 4294967296
  rw [← ht] at hs ⊢
  simp only [B32] at he ⊢
  generalize (x.getD i 0 * f + c) / 4294967296 = q at *
  generalize (x.getD i 0 * f + c) % 4294967296 = r at *
  generalize (4294967296 : Int) ^ i = p at *
  generalize (4294967296 : Int) ^ z = p2 at *
  generalize wal s = w at *
  generalize wt x i = w2 at *
  generalize x.getD i 0 = y at *
  grind
theorem lift_pow (n : Nat) : B32 ^ (n / 32) * (((2 ^ (n % 32) : Nat)) : Int) = ((2 ^ n : Nat) : Int) := by
  have e : (B32 : Int) ^ (n / 32) = ((2 ^ (32 * (n / 32)) : Nat) : Int) := by
    rw [Nat.pow_mul, Int.natCast_pow]; rfl
  rw [e, ← Int.natCast_mul, ← Nat.pow_add]
  congr 2
  omega
theorem lift_walk (a x : List Int) (ha : Meets Tryz.prog 112 [.ints .u64 a] (.ints .u64 x)) (hx : Words x) (hxl : x.length ≤ 1000000) (n : Nat) (hn : n ≤ 1000000) (v : Nat) (hv : wal x * ((2 ^ n : Nat) : Int) = v) :
    Meets Tryz.prog 78 [.ints .u64 a, .int .i64 (n : Int)] (.ints .u64 (natL v)) := by
  by_cases h0 : x = []
  · subst h0
    have : v = 0 := by rw [show wal [] = 0 from rfl, Int.zero_mul] at hv; omega
    subst this
    rw [natL_zero]
    refine meets_by ttOk Tryz.func78 Tryz.ntmps78 Tryz.results78 (by kernel_rfl) (c := _) rfl rfl rfl fun E => ?_
    simp only [argsFrame]
    refine walk1 ?_
    simp
  have hpos := List.length_pos_iff.2 h0
  have d0 : decide ((x.length : Int) = 0) = false := decide_eq_false (by omega)
  obtain ⟨z, hz⟩ : ∃ z, n / 32 = z := ⟨_, rfl⟩
  obtain ⟨r, hr⟩ : ∃ r, n % 32 = r := ⟨_, rfl⟩
  have wq : IntKind.wrap .i64 (Int.tdiv (n : Int) 32) = (z : Int) := by rw [← hz, show (32 : Int) = ((32 : Nat) : Int) from rfl, ← Int.ofNat_tdiv]; exact wrap_i64 (by omega)
  have wr : Int.tmod (n : Int) 32 = (r : Int) := by rw [← hr, tmod_pos (by omega)]; omega
  have hp := lift_pow n
  rw [hz, hr] at hp
  have w0 : IntKind.wrap .i64 ((z : Int) + (x.length : Int)) = ((z + x.length : Nat) : Int) := by rw [wrap_i64 (by omega)]; omega
  have w1 : IntKind.wrap .i64 (((z + x.length : Nat) : Int) + 1) = ((z + x.length + 1 : Nat) : Int) := wrap_i64 (by omega)
  have hlim : ∀ s c, LifS x s z ((2 ^ r : Nat) : Int) x.length c → Meets Tryz.prog 113 [.ints .u64 (s ++ [c])] (.ints .u64 (natL v)) := fun s c hS => by
    refine ref01_limbs _ (words_snoc hS.wds hS.car) (by rw [len_snoc, hS.len]; omega) v ?_
    rw [wal_snoc, hS.len, hS.eq, ← Int.mul_assoc, hp, show wt x x.length = wal x from rfl, ← hv, Int.mul_comm]
  have hr31 : r ≤ 31 := by omega
  have hz2 : z ≤ 1000000 := by omega
  generalize natL v = res at *
  clear hv hp hz hr h0
  refine meets_by ttOk Tryz.func78 Tryz.ntmps78 Tryz.results78 (by kernel_rfl) (c := _) rfl rfl rfl fun E => ?_
  simp only [argsFrame]
  have W := cj w0 (cj w1 (cj wq (cj wr (cj d0 Int.toNat_natCast))))
  refine walk1 ?_
  refine PW.loopA (fun m F H => ∃ i : Nat, i + m = z ∧ F = [(7, .int .i64 (i : Int)), (6, .sl 0 0 i true), (5, .ints .u64 x), (1, .int .i64 (n : Int))] ∧ H = ⟨1, [(0, .ints .u64 (List.replicate i 0))], [], []⟩) z [(7, .int .i64 ((0 : Nat) : Int)), (6, .sl 0 0 0 true), (5, .ints .u64 x), (1, .int .i64 (n : Int))] ⟨1, [(0, .ints .u64 [])], [], []⟩ (Sub.norm ⟨rfl, rfl, rfl, rfl, trivial⟩ ⟨rfl, trivial⟩ (Nat.le_refl _) rfl rfl rfl rfl) ⟨0, by omega, rfl, rfl⟩ ?_
  rintro m F H ⟨i, hi, rfl, rfl⟩
  have hrl : (List.replicate i (0 : Int)).length = i := by simp
  have hrs : List.replicate i (0 : Int) ++ [0] = List.replicate (i + 1) 0 := List.replicate_succ'.symm
  cases m with
  | succ m =>
    have w2 : IntKind.wrap .i64 ((i : Int) + 1) = ((i + 1 : Nat) : Int) := wrap_i64 (by omega)
    generalize List.replicate i (0 : Int) = s at *
    have W := cj wq (cj w2 Int.toNat_natCast)
    refine walk1 ?_
    simp only [List.take_of_length_le (Nat.le_of_eq hrl), hrl, hrs]
    exact Again.mk m [(7, .int .i64 ((i + 1 : Nat) : Int)), (6, .sl 0 0 (i + 1) true), (5, .ints .u64 x), (1, .int .i64 (n : Int))] ⟨1, [(0, .ints .u64 (List.replicate (i + 1) 0))], [], []⟩ (by omega) (Sub.norm ⟨rfl, rfl, rfl, rfl, trivial⟩ ⟨rfl, trivial⟩ (by simp) rfl rfl rfl rfl) ⟨i + 1, by omega, rfl, rfl⟩
  | zero =>
    obtain rfl : i = z := by omega
    have hst := LifS.start x i ((2 ^ r : Nat) : Int)
    generalize List.replicate i (0 : Int) = s0 at *
    have W := cj wq Int.toNat_natCast
    refine walk1 ?_
    refine PW.loopA (fun m F H => ∃ j : Nat, j + m = r ∧ F = [(9, .int .i64 (j : Int)), (8, .int .u64 ((2 ^ j : Nat) : Int)), (6, .sl 0 0 i true), (5, .ints .u64 x), (1, .int .i64 (n : Int))] ∧ H = ⟨1, [(0, .ints .u64 s0)], [], []⟩) r [(9, .int .i64 ((0 : Nat) : Int)), (8, .int .u64 ((2 ^ 0 : Nat) : Int)), (6, .sl 0 0 i true), (5, .ints .u64 x), (1, .int .i64 (n : Int))] ⟨1, [(0, .ints .u64 s0)], [], []⟩ (Sub.norm ⟨rfl, rfl, rfl, rfl, rfl, trivial⟩ ⟨rfl, trivial⟩ (Nat.le_refl _) rfl rfl rfl rfl) ⟨0, by omega, rfl, rfl⟩ ?_
    rintro m F H ⟨j, hj, rfl, rfl⟩
    have hpj : 2 ^ j ≤ 2 ^ 31 := Nat.pow_le_pow_right (by decide) (by omega)
    cases m with
    | succ m =>
      have w2 : IntKind.wrap .i64 ((j : Int) + 1) = ((j + 1 : Nat) : Int) := wrap_i64 (by omega)
      have w3 : IntKind.wrap .u64 (((2 ^ j : Nat) : Int) * 2) = ((2 ^ (j + 1) : Nat) : Int) := by
        rw [Nat.pow_succ]; generalize 2 ^ j = p at *; rw [wrap_u64 (by omega)]; omega
      have W := cj wr (cj w2 w3)
      refine walk1 ?_
      exact Again.mk m [(9, .int .i64 ((j + 1 : Nat) : Int)), (8, .int .u64 ((2 ^ (j + 1) : Nat) : Int)), (6, .sl 0 0 i true), (5, .ints .u64 x), (1, .int .i64 (n : Int))] ⟨1, [(0, .ints .u64 s0)], [], []⟩ (by omega) (Sub.norm ⟨rfl, rfl, rfl, rfl, rfl, trivial⟩ ⟨rfl, trivial⟩ (by simp) rfl rfl rfl rfl) ⟨j + 1, by omega, rfl, rfl⟩
    | zero =>
      obtain rfl : j = r := by omega
      have hf : (0 : Int) ≤ ((2 ^ j : Nat) : Int) ∧ ((2 ^ j : Nat) : Int) < 4294967296 := by generalize 2 ^ j = p at *; omega
      generalize ((2 ^ j : Nat) : Int) = f at *
      clear hpj
      have W := wr
      refine walk1 ?_
      refine PW.loopA (fun m F H => ∃ k s c, k + m = x.length ∧ LifS x s i f k c ∧ F = [(11, .int .i64 (k : Int)), (10, .int .u64 c), (8, .int .u64 f), (6, .sl 0 0 (i + k) true), (5, .ints .u64 x)] ∧ H = ⟨1, [(0, .ints .u64 s)], [], []⟩) x.length [(11, .int .i64 ((0 : Nat) : Int)), (10, .int .u64 0), (8, .int .u64 f), (6, .sl 0 0 (i + 0) true), (5, .ints .u64 x)] ⟨1, [(0, .ints .u64 s0)], [], []⟩ (Sub.norm ⟨rfl, rfl, rfl, rfl, rfl, trivial⟩ ⟨rfl, trivial⟩ (Nat.le_refl _) rfl rfl rfl rfl) ⟨0, _, _, by omega, hst, rfl, rfl⟩ ?_
      rintro m F H ⟨k, s, c, hk, hS, rfl, rfl⟩
      have hsl := hS.len
      have hcar := hS.car
      have htk : List.take (i + k) s = s := List.take_of_length_le (by omega)
      cases m with
      | zero =>
        obtain rfl : k = x.length := by omega
        have hm := hlim s c hS
        repeat' first
          | (with_reducible first | refine PW.seq ?_ | refine PW.block ?_ | refine PW.fork ?_ | refine PW.skip ?_ | refine PW.exit ?_ | refine PW.ret ?_ | refine PW.scope ?_ | refine PW.label ?_ | refine PW.goto ?_)
          | (simp only [htk])
          | (with_reducible refine PW.region ttOk ?_ ?_
             · rfl)
          | (with_reducible refine PW.regionD ttOk mixed ?_ ?_ ?_
             · rfl
             · rfl)
          | (with_reducible refine ifW_dec (fun g => ?_) (fun g => ?_) <;> first | (exfalso; omega) | (simp -dsimp only [g, wkI]))
          | (with_reducible refine condE_dec (fun g => ?_) (fun g => ?_) <;> try (exfalso; omega))
          | (with_reducible refine condE_not (fun g => ?_) (fun g => ?_) <;> try (exfalso; omega))
          | (simp -dsimp only [↓wkA, ↓wkE, ↓wkJ, wkB, ↓tt, Nat.reduceBEq, Nat.reduceEqDiff, ↓reduceIte, Nat.reduceLT, Array.toList, Nat.reduceAdd, Nat.reduceMul, Int.reduceToNat, Int.reducePow, UInt8.reduceToNat])
          | (refine call_drop (args' := [.ints .u64 (s ++ [c])]) (by simp -dsimp only [↓wkA, ↓wkE, ↓wkJ, wkB, ↓tt, Nat.reduceBEq, Nat.reduceEqDiff, ↓reduceIte, Nat.reduceLT, Array.toList, Nat.reduceAdd, Nat.reduceMul, Int.reduceToNat, Int.reducePow, UInt8.reduceToNat] <;> rw [take_snoc_all]) hm (by simp -dsimp only [okViews, ↓wkA, ↓wkE, ↓wkJ, wkB, ↓tt, Nat.reduceBEq, Nat.reduceEqDiff, ↓reduceIte, Nat.reduceLT, Array.toList, Nat.reduceAdd, Nat.reduceMul, Int.reduceToNat, Int.reducePow, UInt8.reduceToNat] <;> simp) rfl ?_)
          | (simp -dsimp (disch := first | assumption | omega) only [dec_t, dec_f])
          | (refine andI ?_)
          | (simp (disch := omega) only [wkW, Int.reduceToNat, Int.reducePow])
          | fail
      | succ m =>
        have h1 := getD_word hx k
        simp only [B32] at h1 hcar
        have hm := mul_word h1 hf
        have hst := hS.step hx hf rfl
        have w2 : IntKind.wrap .i64 ((k : Int) + 1) = ((k + 1 : Nat) : Int) := wrap_i64 (by omega)
        have w3 : IntKind.wrap .u64 (x.getD k 0 * f) = x.getD k 0 * f := wrap_u64 (by omega)
        have w4 : IntKind.wrap .u64 (x.getD k 0 * f + c) = x.getD k 0 * f + c := wrap_u64 (by omega)
        have h3 := and32 (a := x.getD k 0 * f + c) (by omega)
        have W := cj w2 (cj w3 (cj w4 (cj h3 (cj htk (cj fdiv32 Int.toNat_natCast)))))
        refine walk1 ?_
        simp only [hsl]
        exact Again.mk m [(11, .int .i64 ((k + 1 : Nat) : Int)), (10, .int .u64 _), (8, .int .u64 f), (6, .sl 0 0 (i + (k + 1)) true), (5, .ints .u64 x)] ⟨1, [(0, .ints .u64 _)], [], []⟩ (by omega) (Sub.norm ⟨rfl, rfl, rfl, rfl, rfl, trivial⟩ ⟨rfl, trivial⟩ (by simp) rfl rfl rfl rfl) ⟨k + 1, _, _, by omega, hst, rfl, rfl⟩
theorem ref01_lift {a : List Int} (ha : Limbs a) (hla : a.length ≤ 100000) {u n : Nat} (hu : val a = u) (hn : n ≤ 1000000) : Meets Tryz.prog 78 [.ints .u64 a, .int .i64 (n : Int)] (.ints .u64 (natL (u * 2 ^ n))) := by
  have l1 := hv_len a
  exact lift_walk a _ (ref01_halves a ha (by omega)) (hv_words ha) (by omega) n hn _ (by rw [hv_wal, hu, Int.natCast_mul])
abbrev tmO (x y : List Int) (i : Nat) : PV.Frame := [(8, .int .i64 (i : Int)), (7, .sl 0 0 (x.length + y.length) true), (5, .ints .u64 x), (6, .ints .u64 y)]
abbrev tmI (x y : List Int) (i j : Nat) (c : Int) : PV.Frame := [(10, .int .i64 (j : Int)), (9, .int .u64 c), (8, .int .i64 (i : Int)), (7, .sl 0 0 (x.length + y.length) true), (5, .ints .u64 x), (6, .ints .u64 y)]
theorem times_walk (a b x y : List Int) (ha : Meets Tryz.prog 112 [.ints .u64 a] (.ints .u64 x)) (hb : Meets Tryz.prog 112 [.ints .u64 b] (.ints .u64 y)) (hx : Words x) (hy : Words y) (hxl : x.length ≤ 1000000) (hyl : y.length ≤ 1000000) (v : Nat) (hv : wal x * wal y = v) :
    Meets Tryz.prog 80 [.ints .u64 a, .ints .u64 b] (.ints .u64 (natL v)) := by
  by_cases h0 : x.length = 0 ∨ y.length = 0
  · have : v = 0 := by
      rcases h0 with h | h
      · rw [List.length_eq_zero_iff.1 h, show wal [] = 0 from rfl, Int.zero_mul] at hv; omega
      · rw [List.length_eq_zero_iff.1 h, show wal [] = 0 from rfl, Int.mul_zero] at hv; omega
    subst this
    rw [natL_zero]
    clear hv hx hy
    by_cases h1 : x.length = 0
    · have d1 : decide ((x.length : Int) = 0) = true := decide_eq_true (by omega)
      refine meets_by ttOk Tryz.func80 Tryz.ntmps80 Tryz.results80 (by kernel_rfl) (c := _) rfl rfl rfl fun E => ?_
      simp only [argsFrame]
      have W := d1
      refine walk1 ?_
      simp
    · have d1 : decide ((x.length : Int) = 0) = false := decide_eq_false (by omega)
      have d2 : decide ((y.length : Int) = 0) = true := decide_eq_true (by omega)
      refine meets_by ttOk Tryz.func80 Tryz.ntmps80 Tryz.results80 (by kernel_rfl) (c := _) rfl rfl rfl fun E => ?_
      simp only [argsFrame]
      have W := cj d1 d2
      refine walk1 ?_
      simp
  have d1 : decide ((x.length : Int) = 0) = false := decide_eq_false (by omega)
  have d2 : decide ((y.length : Int) = 0) = false := decide_eq_false (by omega)
  have w0 : IntKind.wrap .i64 ((x.length : Int) + (y.length : Int)) = ((x.length + y.length : Nat) : Int) := by rw [wrap_i64 (by omega)]; omega
  have hlim : ∀ o, MulOutW x y o x.length → Meets Tryz.prog 113 [.ints .u64 o] (.ints .u64 (natL v)) := fun o hS => by
    refine ref01_limbs _ hS.lim (by rw [hS.len]; omega) v ?_
    unfold wal
    rw [hS.len, hS.eq]
    exact hv
  generalize natL v = res at *
  clear hv
  refine meets_by ttOk Tryz.func80 Tryz.ntmps80 Tryz.results80 (by kernel_rfl) (c := _) rfl rfl rfl fun E => ?_
  simp only [argsFrame]
  have W := cj w0 (cj d1 (cj d2 Int.toNat_natCast))
  refine walk1 ?_
  refine PW.loopA (fun m F H => ∃ i o, i + m = x.length ∧ MulOutW x y o i ∧ F = tmO x y i ∧ H = ⟨1, [(0, .ints .u64 o)], [], []⟩) x.length (tmO x y 0) ⟨1, [(0, .ints .u64 (List.replicate (x.length + y.length) 0))], [], []⟩ (Sub.norm ⟨rfl, rfl, rfl, rfl, trivial⟩ ⟨rfl, trivial⟩ (Nat.le_refl _) rfl rfl rfl rfl) ⟨0, _, by omega, mul_beginW x y, rfl, rfl⟩ ?_
  rintro m F H ⟨i, o, hi, hS, rfl, rfl⟩
  have hol := hS.len
  cases m with
  | zero =>
    obtain rfl : i = x.length := by omega
    have hm := hlim o hS
    have htk : List.take (x.length + y.length) o = o := List.take_of_length_le (by omega)
    repeat' first
      | (with_reducible first | refine PW.seq ?_ | refine PW.block ?_ | refine PW.fork ?_ | refine PW.skip ?_ | refine PW.exit ?_ | refine PW.ret ?_ | refine PW.scope ?_ | refine PW.label ?_ | refine PW.goto ?_)
      | (simp only [htk])
      | (with_reducible refine PW.region ttOk ?_ ?_
         · rfl)
      | (with_reducible refine PW.regionD ttOk mixed ?_ ?_ ?_
         · rfl
         · rfl)
      | (with_reducible refine ifW_dec (fun g => ?_) (fun g => ?_) <;> first | (exfalso; omega) | (simp -dsimp only [g, wkI]))
      | (with_reducible refine condE_dec (fun g => ?_) (fun g => ?_) <;> try (exfalso; omega))
      | (with_reducible refine condE_not (fun g => ?_) (fun g => ?_) <;> try (exfalso; omega))
      | (simp -dsimp only [↓wkA, ↓wkE, ↓wkJ, wkB, ↓tt, Nat.reduceBEq, Nat.reduceEqDiff, ↓reduceIte, Nat.reduceLT, Array.toList, Nat.reduceAdd, Nat.reduceMul, Int.reduceToNat, Int.reducePow, UInt8.reduceToNat])
      | (refine call_drop (args' := [.ints .u64 o]) (by simp -dsimp only [↓wkA, ↓wkE, ↓wkJ, wkB, ↓tt, Nat.reduceBEq, Nat.reduceEqDiff, ↓reduceIte, Nat.reduceLT, Array.toList, Nat.reduceAdd, Nat.reduceMul, Int.reduceToNat, Int.reducePow, UInt8.reduceToNat] <;> rw [htk]) hm (by simp -dsimp only [okViews, ↓wkA, ↓wkE, ↓wkJ, wkB, ↓tt, Nat.reduceBEq, Nat.reduceEqDiff, ↓reduceIte, Nat.reduceLT, Array.toList, Nat.reduceAdd, Nat.reduceMul, Int.reduceToNat, Int.reducePow, UInt8.reduceToNat] <;> omega) rfl ?_)
      | (simp -dsimp (disch := first | assumption | omega) only [dec_t, dec_f])
      | (refine andI ?_)
      | (simp (disch := omega) only [wkW, Int.reduceToNat, Int.reducePow])
      | fail
  | succ m =>
    have w1 : IntKind.wrap .i64 ((i : Int) + 1) = ((i + 1 : Nat) : Int) := wrap_i64 (by omega)
    have w2 : IntKind.wrap .i64 ((i : Int) + (y.length : Int)) = ((i + y.length : Nat) : Int) := by rw [wrap_i64 (by omega)]; omega
    refine walk1 ?_
    refine PW.loopA (fun m F H => ∃ j q c, j + m = y.length ∧ MulInW x y o q i j c ∧ F = tmI x y i j c ∧ H = ⟨1, [(0, .ints .u64 q)], [], []⟩) y.length (tmI x y i 0 0) ⟨1, [(0, .ints .u64 o)], [], []⟩ (Sub.norm ⟨rfl, rfl, rfl, rfl, rfl, rfl, trivial⟩ ⟨rfl, trivial⟩ (Nat.le_refl _) rfl rfl rfl rfl) ⟨0, o, 0, by omega, MulInW.start hS, rfl, rfl⟩ ?_
    rintro k F H ⟨j, q, c, hj, hq, rfl, rfl⟩
    have hql := hq.len
    have hcar := hq.car
    cases k with
    | zero =>
      obtain rfl : j = y.length := by omega
      have hf := hq.fin hS (by omega)
      have W := cj w1 (cj w2 Int.toNat_natCast)
      refine walk1 ?_
      exact Again.mk m (tmO x y (i + 1)) ⟨1, [(0, .ints .u64 _)], [], []⟩ (by omega) (Sub.norm ⟨rfl, rfl, rfl, rfl, trivial⟩ ⟨rfl, trivial⟩ (by simp) rfl rfl rfl rfl) ⟨i + 1, _, by omega, hf, rfl, rfl⟩
    | succ k =>
      have h1 := getD_word hx i
      have h2 := getD_word hy j
      have h3 := getD_word hq.lim (i + j)
      simp only [B32] at h1 h2 h3 hcar
      have hm := mul_word h1 h2
      have hst := hq.step (by omega) (by omega) rfl (by simp only [B32]; omega)
      have w3 : IntKind.wrap .i64 ((i : Int) + (j : Int)) = ((i + j : Nat) : Int) := by rw [wrap_i64 (by omega)]; omega
      have w4 : IntKind.wrap .i64 ((j : Int) + 1) = ((j + 1 : Nat) : Int) := wrap_i64 (by omega)
      have w5 : IntKind.wrap .u64 (x.getD i 0 * y.getD j 0) = x.getD i 0 * y.getD j 0 := wrap_u64 (by omega)
      have w6 : IntKind.wrap .u64 (x.getD i 0 * y.getD j 0 + q.getD (i + j) 0) = x.getD i 0 * y.getD j 0 + q.getD (i + j) 0 := wrap_u64 (by omega)
      have w7 : IntKind.wrap .u64 (x.getD i 0 * y.getD j 0 + q.getD (i + j) 0 + c) = x.getD i 0 * y.getD j 0 + q.getD (i + j) 0 + c := wrap_u64 (by omega)
      have h4 := and32 (a := x.getD i 0 * y.getD j 0 + q.getD (i + j) 0 + c) (by omega)
      have W := cj w3 (cj w4 (cj w5 (cj w6 (cj w7 (cj h4 (cj fdiv32 Int.toNat_natCast))))))
      refine walk1 ?_
      exact Again.mk k (tmI x y i (j + 1) _) ⟨1, [(0, .ints .u64 _)], [], []⟩ (by omega) (Sub.norm ⟨rfl, rfl, rfl, rfl, rfl, rfl, trivial⟩ ⟨rfl, trivial⟩ (by simp) rfl rfl rfl rfl) ⟨j + 1, _, _, by omega, hst, rfl, rfl⟩
theorem ref01_times {a b : List Int} (ha : Limbs a) (hb : Limbs b) (hla : a.length ≤ 100000) (hlb : b.length ≤ 100000) {u v : Nat} (hu : val a = u) (hv : val b = v) : Meets Tryz.prog 80 [.ints .u64 a, .ints .u64 b] (.ints .u64 (natL (u * v))) := by
  have l1 := hv_len a
  have l2 := hv_len b
  exact times_walk a b _ _ (ref01_halves a ha (by omega)) (ref01_halves b hb (by omega)) (hv_words ha) (hv_words hb) (by omega) (by omega) _ (by rw [hv_wal, hv_wal, hu, hv, Int.natCast_mul])
theorem cmpN_short {a b : List Int} (ha : Limbs a) (hb : Limbs b) (h : size a < size b) : cmpN a b = -1 := by
  unfold cmpN; rw [if_pos (size_lt_val ha hb h)]
theorem cmpN_long {a b : List Int} (ha : Limbs a) (hb : Limbs b) (h : size b < size a) : cmpN a b = 1 := by
  have := size_lt_val hb ha h
  unfold cmpN; rw [if_neg (by omega), if_pos this]
theorem cmpN_low {a b : List Int} (ha : Limbs a) (hb : Limbs b) {i n : Nat} (hs : size a = n) (hs2 : size b = n) (hi : i < n) (he : ∀ j, i < j → j < n → a.getD j 0 = b.getD j 0) (h : a.getD i 0 < b.getD i 0) : cmpN a b = -1 := by
  have := vt_top ha hb h n hi he
  rw [← hs, vt_size, hs, ← hs2, vt_size] at this
  unfold cmpN; rw [if_pos this]
theorem cmpN_high {a b : List Int} (ha : Limbs a) (hb : Limbs b) {i n : Nat} (hs : size a = n) (hs2 : size b = n) (hi : i < n) (he : ∀ j, i < j → j < n → a.getD j 0 = b.getD j 0) (h : b.getD i 0 < a.getD i 0) : cmpN a b = 1 := by
  have := vt_top hb ha h n hi fun j h1 h2 => (he j h1 h2).symm
  rw [← hs2, vt_size, hs2, ← hs, vt_size] at this
  unfold cmpN; rw [if_neg (by omega), if_pos this]
theorem cmpN_same {a b : List Int} {n : Nat} (hs : size a = n) (hs2 : size b = n) (he : ∀ j, j < n → a.getD j 0 = b.getD j 0) : cmpN a b = 0 := by
  have := vt_same n he
  rw [← hs, vt_size, hs, ← hs2, vt_size] at this
  unfold cmpN; rw [this, if_neg (by omega), if_neg (by omega)]
theorem cmpN_nat {a b : List Int} {u v : Nat} (hu : val a = u) (hv : val b = v) : cmpN a b = if u < v then -1 else if v < u then 1 else 0 := by
  unfold cmpN
  rw [hu, hv]
  by_cases h : u < v
  · rw [if_pos (by omega), if_pos h]
  · rw [if_neg (by omega), if_neg h]
    by_cases h : v < u
    · rw [if_pos (by omega), if_pos h]
    · rw [if_neg (by omega), if_neg h]
theorem ref01_cmp (a b : List Int) (ha : Limbs a) (hb : Limbs b) (hla : a.length ≤ 17592186043904) (hlb : b.length ≤ 17592186043904) : Meets Tryz.prog 72 [.ints .u64 a, .ints .u64 b] (.int .i64 (cmpN a b)) := by
  have s1 := ref01_size a hla
  have s2 := ref01_size b hlb
  have z1 := size_le a
  have z2 := size_le b
  by_cases c1 : size a < size b
  · rw [cmpN_short ha hb c1]
    have d1 : decide (((size a : Nat) : Int) < ((size b : Nat) : Int)) = true := decide_eq_true (by omega)
    refine meets_by ttOk Tryz.func72 Tryz.ntmps72 Tryz.results72 (by kernel_rfl) (c := _) rfl rfl rfl fun E => ?_
    simp only [argsFrame]
    have W := d1
    exact walk
  have d1 : decide (((size a : Nat) : Int) < ((size b : Nat) : Int)) = false := decide_eq_false (by omega)
  by_cases c2 : size b < size a
  · rw [cmpN_long ha hb c2]
    have d2 : decide (((size b : Nat) : Int) < ((size a : Nat) : Int)) = true := decide_eq_true (by omega)
    refine meets_by ttOk Tryz.func72 Tryz.ntmps72 Tryz.results72 (by kernel_rfl) (c := _) rfl rfl rfl fun E => ?_
    simp only [argsFrame]
    have W := cj d1 d2
    exact walk
  have d2 : decide (((size b : Nat) : Int) < ((size a : Nat) : Int)) = false := decide_eq_false (by omega)
  obtain ⟨n, hn⟩ : ∃ n, size b = n := ⟨_, rfl⟩
  have hn1 : size a = n := by omega
  rw [hn1] at s1
  rw [hn] at s2
  rw [hn1, hn] at d1 d2
  have w0 : IntKind.wrap .i64 ((n : Int) - 1) = (n : Int) - 1 := wrap_i64 (by omega)
  refine meets_by ttOk Tryz.func72 Tryz.ntmps72 Tryz.results72 (by kernel_rfl) (c := _) rfl rfl rfl fun E => ?_
  simp only [argsFrame]
  have W := cj d1 (cj d2 w0)
  refine walk1 ?_
  refine PW.loopA (fun m F H => m ≤ n ∧ (∀ j, m ≤ j → j < n → a.getD j 0 = b.getD j 0) ∧ F = [(7, .int .i64 ((m : Int) - 1)), (0, .ints .u64 a), (1, .ints .u64 b)] ∧ H = ⟨0, [], [], []⟩) n [(7, .int .i64 ((n : Int) - 1)), (0, .ints .u64 a), (1, .ints .u64 b)] ⟨0, [], [], []⟩ (Sub.norm ⟨rfl, rfl, rfl, trivial⟩ trivial (Nat.le_refl _) rfl rfl rfl rfl) ⟨Nat.le_refl _, fun j h1 h2 => by omega, rfl, rfl⟩ ?_
  rintro m F H ⟨hm, he, rfl, rfl⟩
  cases m with
  | zero =>
    rw [cmpN_same hn1 hn fun j hj => he j (by omega) hj]
    exact walk
  | succ m =>
    have e1 : (((m + 1 : Nat)) : Int) - 1 = (m : Int) := by omega
    have w1 : IntKind.wrap .i64 ((m : Int) - 1) = (m : Int) - 1 := wrap_i64 (by omega)
    by_cases k1 : a.getD m 0 < b.getD m 0
    · have d3 : decide (a.getD m 0 < b.getD m 0) = true := decide_eq_true k1
      rw [cmpN_low ha hb hn1 hn (show m < n by omega) (fun j h1 h2 => he j (by omega) h2) k1]
      have W := cj e1 (cj w1 (cj d3 Int.toNat_natCast))
      exact walk
    have d3 : decide (a.getD m 0 < b.getD m 0) = false := decide_eq_false k1
    by_cases k2 : b.getD m 0 < a.getD m 0
    · have d4 : decide (b.getD m 0 < a.getD m 0) = true := decide_eq_true k2
      rw [cmpN_high ha hb hn1 hn (show m < n by omega) (fun j h1 h2 => he j (by omega) h2) k2]
      have W := cj e1 (cj w1 (cj d3 (cj d4 Int.toNat_natCast)))
      exact walk
    have d4 : decide (b.getD m 0 < a.getD m 0) = false := decide_eq_false k2
    have W := cj e1 (cj w1 (cj d3 (cj d4 Int.toNat_natCast)))
    refine walk1 ?_
    exact Again.mk m [(7, .int .i64 ((m : Int) - 1)), (0, .ints .u64 a), (1, .ints .u64 b)] ⟨0, [], [], []⟩ (by omega) (Sub.norm ⟨rfl, rfl, rfl, trivial⟩ trivial (Nat.le_refl _) rfl rfl rfl rfl) ⟨by omega, fun j h1 h2 => by
      by_cases h3 : j = m
      · subst h3; omega
      · exact he j (by omega) h2, rfl, rfl⟩
theorem bitlen_half {x : Nat} (h : x ≠ 0) : bitlen x = bitlen (x / 2) + 1 := by
  by_cases h1 : 2 ^ 1 ≤ x
  · exact bitlen_div 1 h1
  · have : x = 1 := by omega
    subst this; decide
theorem ref01_bitlen (v : Nat) (hv : v < NMax) : Meets Tryz.prog 65 [.ints .u64 (natL v)] (.int .i64 ((bitlen v : Nat) : Int)) := by
  have hl := natL_small hv
  have s1 := ref01_size (natL v) (by omega)
  rw [size_natL] at s1
  by_cases h0 : v = 0
  · subst h0
    rw [natL_zero] at *
    refine meets_by ttOk Tryz.func65 Tryz.ntmps65 Tryz.results65 (by kernel_rfl) (c := _) rfl rfl rfl fun E => ?_
    simp only [argsFrame]
    refine walk1 ?_
    rfl
  obtain ⟨hpos, hlow⟩ := natL_ge h0
  obtain ⟨n, hn⟩ : ∃ n, (natL v).length = n + 1 := ⟨(natL v).length - 1, by omega⟩
  have htop := natL_getD v n
  have hlt := natL_lt v
  rw [hn, Nat.add_sub_cancel] at hlow
  rw [hn] at hlt
  have hx : v / 18446744073709551616 ^ n < 18446744073709551616 := by
    rw [Nat.div_lt_iff_lt_mul (Nat.pow_pos (by decide)), ← Nat.pow_succ']; exact hlt
  rw [Nat.mod_eq_of_lt hx] at htop
  have hbl : bitlen v = bitlen (v / 18446744073709551616 ^ n) + 64 * n := by
    rw [pow64_two n] at hlow ⊢
    exact bitlen_div (64 * n) hlow
  rw [hn] at s1
  rw [hbl]
  have d0 : decide (((n + 1 : Nat) : Int) = 0) = false := decide_eq_false (by omega)
  have w0 : IntKind.wrap .i64 (((n + 1 : Nat) : Int) - 1) = (n : Int) := by rw [wrap_i64 (by omega)]; omega
  have w1 : IntKind.wrap .i64 (64 * (n : Int)) = ((64 * n : Nat) : Int) := by rw [wrap_i64 (by omega)]; omega
  have hb64 : bitlen (v / 18446744073709551616 ^ n) ≤ 64 := bitlen_le hx
  generalize v / 18446744073709551616 ^ n = x at *
  generalize natL v = a at *
  clear hbl hlow hlt hv
  refine meets_by ttOk Tryz.func65 Tryz.ntmps65 Tryz.results65 (by kernel_rfl) (c := _) rfl rfl rfl fun E => ?_
  simp only [argsFrame]
  have W := cj w0 (cj w1 (cj d0 (cj htop Int.toNat_natCast)))
  refine walk1 ?_
  refine PW.loopA (fun m F H => ∃ k : Nat, k + bitlen m = bitlen x + 64 * n ∧ m ≤ x ∧ F = [(5, .int .u64 (m : Int)), (4, .int .i64 (k : Int))] ∧ H = ⟨0, [], [], []⟩) x [(5, .int .u64 (x : Int)), (4, .int .i64 ((64 * n : Nat) : Int))] ⟨0, [], [], []⟩ (Sub.norm ⟨rfl, rfl, trivial⟩ trivial (Nat.le_refl _) rfl rfl rfl rfl) ⟨_, by omega, Nat.le_refl _, rfl, rfl⟩ ?_
  rintro m F H ⟨k, hk, hm, rfl, rfl⟩
  by_cases hm0 : m = 0
  · subst hm0
    have : k = bitlen x + 64 * n := hk
    subst this
    exact walk
  · have hh := bitlen_half hm0
    have w2 : IntKind.wrap .i64 ((k : Int) + 1) = ((k + 1 : Nat) : Int) := wrap_i64 (by omega)
    have w3 : IntKind.wrap .u64 (Int.tdiv (m : Int) 2) = ((m / 2 : Nat) : Int) := by rw [show (2 : Int) = ((2 : Nat) : Int) from rfl, ← Int.ofNat_tdiv]; exact wrap_u64 (by omega)
    have W := cj w2 w3
    refine walk1 ?_
    exact Again.mk (m / 2) [(5, .int .u64 ((m / 2 : Nat) : Int)), (4, .int .i64 ((k + 1 : Nat) : Int))] ⟨0, [], [], []⟩ (by omega) (Sub.norm ⟨rfl, rfl, trivial⟩ trivial (Nat.le_refl _) rfl rfl rfl rfl) ⟨k + 1, by omega, by omega, rfl, rfl⟩
theorem ref01_bit (v i : Nat) (hv : v < NMax) (hi : i ≤ 9223372036854775807) : Meets Tryz.prog 74 [.ints .u64 (natL v), .int .i64 (i : Int)] (.int .i64 ((v / 2 ^ i % 2 : Nat) : Int)) := by
  have hl := natL_small hv
  have d0 : decide ((i : Int) < 0) = false := decide_eq_false (by omega)
  have wq : IntKind.wrap .i64 (Int.tdiv (i : Int) 64) = ((i / 64 : Nat) : Int) := by rw [show (64 : Int) = ((64 : Nat) : Int) from rfl, ← Int.ofNat_tdiv]; exact wrap_i64 (by omega)
  have wr : Int.tmod (i : Int) 64 = ((i % 64 : Nat) : Int) := by rw [tmod_pos (by omega)]; omega
  have hlt := natL_lt v
  by_cases hc : (natL v).length ≤ i / 64
  · have hz : v / 2 ^ i = 0 := by
      refine Nat.div_eq_of_lt (Nat.lt_of_lt_of_le hlt ?_)
      rw [pow64_two]
      exact Nat.pow_le_pow_right (by decide) (by omega)
    rw [hz]
    have d1 : decide (((natL v).length : Int) ≤ ((i / 64 : Nat) : Int)) = true := decide_eq_true (by omega)
    refine meets_by ttOk Tryz.func74 Tryz.ntmps74 Tryz.results74 (by kernel_rfl) (c := _) rfl rfl rfl fun E => ?_
    simp only [argsFrame]
    have W := cj d0 (cj d1 (cj wq wr))
    refine walk1 ?_
    simp
  have d1 : decide (((natL v).length : Int) ≤ ((i / 64 : Nat) : Int)) = false := decide_eq_false (by omega)
  have hg := natL_getD v (i / 64)
  have hv2 : v / 2 ^ i % 2 = v / 18446744073709551616 ^ (i / 64) % 18446744073709551616 / 2 ^ (i % 64) % 2 := by
    have h1 : v / 2 ^ i = v / 18446744073709551616 ^ (i / 64) / 2 ^ (i % 64) := by
      rw [pow64_two, Nat.div_div_eq_div_mul, ← Nat.pow_add]
      congr 2
      omega
    rw [h1]
    generalize v / 18446744073709551616 ^ (i / 64) = y
    have h2 : 18446744073709551616 = 2 ^ (i % 64) * (2 * 2 ^ (63 - i % 64)) := by
      rw [← Nat.pow_succ', ← Nat.pow_add, show i % 64 + (63 - i % 64).succ = 64 by omega]
    rw [h2, Nat.mod_mul_right_div_self, Nat.mod_mul_right_mod]
  rw [hv2]
  have hx : v / 18446744073709551616 ^ (i / 64) % 18446744073709551616 < 18446744073709551616 := Nat.mod_lt _ (by decide)
  generalize v / 18446744073709551616 ^ (i / 64) % 18446744073709551616 = x at *
  have hil : i / 64 < (natL v).length := by omega
  generalize natL v = a at *
  obtain ⟨r, hr⟩ : ∃ r, i % 64 = r := ⟨_, rfl⟩
  rw [hr] at wr ⊢
  have hr63 : r ≤ 63 := by omega
  clear hv2 hlt hv
  refine meets_by ttOk Tryz.func74 Tryz.ntmps74 Tryz.results74 (by kernel_rfl) (c := _) rfl rfl rfl fun E => ?_
  simp only [argsFrame]
  have W := cj d0 (cj d1 (cj wq (cj wr (cj hg Int.toNat_natCast))))
  refine walk1 ?_
  refine PW.loopA (fun m F H => ∃ k : Nat, k + m = r ∧ F = [(6, .int .i64 (k : Int)), (5, .int .u64 ((x / 2 ^ k : Nat) : Int)), (1, .int .i64 (i : Int))] ∧ H = ⟨0, [], [], []⟩) r [(6, .int .i64 ((0 : Nat) : Int)), (5, .int .u64 ((x / 2 ^ 0 : Nat) : Int)), (1, .int .i64 (i : Int))] ⟨0, [], [], []⟩ (Sub.norm ⟨rfl, by rw [Nat.pow_zero, Nat.div_one]; rfl, rfl, trivial⟩ trivial (Nat.le_refl _) rfl rfl rfl rfl) ⟨0, by omega, rfl, rfl⟩ ?_
  rintro m F H ⟨k, hk, rfl, rfl⟩
  have hxk : x / 2 ^ k < 18446744073709551616 := Nat.lt_of_le_of_lt (Nat.div_le_self _ _) hx
  cases m with
  | zero =>
    obtain rfl : k = r := by omega
    generalize x / 2 ^ k = y at *
    have w4 : Int.tmod (y : Int) 2 = ((y % 2 : Nat) : Int) := by rw [tmod_pos (by omega)]; omega
    have W := cj wr w4
    exact walk
  | succ m =>
    have w2 : IntKind.wrap .i64 ((k : Int) + 1) = ((k + 1 : Nat) : Int) := wrap_i64 (by omega)
    have hs : x / 2 ^ (k + 1) = x / 2 ^ k / 2 := by rw [Nat.pow_succ, Nat.div_div_eq_div_mul]
    have w3 : IntKind.wrap .u64 (Int.tdiv ((x / 2 ^ k : Nat) : Int) 2) = ((x / 2 ^ (k + 1) : Nat) : Int) := by rw [hs, show (2 : Int) = ((2 : Nat) : Int) from rfl, ← Int.ofNat_tdiv]; generalize x / 2 ^ k = y at *; exact wrap_u64 (by omega)
    have W := cj wr (cj w2 w3)
    refine walk1 ?_
    exact Again.mk m [(6, .int .i64 ((k + 1 : Nat) : Int)), (5, .int .u64 ((x / 2 ^ (k + 1) : Nat) : Int)), (1, .int .i64 (i : Int))] ⟨0, [], [], []⟩ (by omega) (Sub.norm ⟨rfl, rfl, rfl, trivial⟩ trivial (Nat.le_refl _) rfl rfl rfl rfl) ⟨k + 1, by omega, rfl, rfl⟩
theorem wt_set_add (l : List Int) (i : Nat) (q : Int) (hi : i < l.length) : ∀ n, i < n → wt (l.set i q) n = wt l n + B32 ^ i * (q - l.getD i 0)
  | 0, h => by omega
  | n + 1, h => by
    simp only [wt]
    by_cases e : i = n
    · subst e
      rw [wt_set_ge _ _ _ _ hi (Nat.le_refl _), getD_set _ _ _ _ hi, if_pos rfl]
      grind
    · rw [wt_set_add l i q hi n (by omega), getD_set _ _ _ _ hi, if_neg (by omega)]
      grind
structure DroS (x s : List Int) (frm L : Nat) (f : Int) (m : Nat) (c : Int) : Prop where
  len : s.length = L
  wds : Words s
  car : 0 ≤ c ∧ c < f
  zero : ∀ j, j < m → s.getD j 0 = 0
  eq : wal x = wt x (frm + m) + B32 ^ frm * (f * wal s + B32 ^ m * c)
theorem DroS.start (x : List Int) {frm L : Nat} {f : Int} (hf : 0 < f) (hL : x.length = frm + L) : DroS x (List.replicate L 0) frm L f L 0 :=
  ⟨by simp, words_zeros L, ⟨Int.le_refl _, hf⟩, fun j _ => getD_zeros _ _, by rw [wal_zeros, ← hL, show wt x x.length = wal x from rfl]; simp⟩
theorem DroS.step {x s : List Int} {frm L m : Nat} {f c t : Int} (h : DroS x s frm L f (m + 1) c) (hx : Words x) (hm : m < L) (hf : f ≤ 4294967296) (ht : c * 4294967296 + x.getD (frm + m) 0 = t) : DroS x (s.set m (t / f)) frm L f m (t % f) := by
  have h1 := getD_word hx (frm + m)
  have hc := h.car
  have hlt : m < s.length := by rw [h.len]; exact hm
  simp only [B32] at h1
  have hf0 : 0 < f := by omega
  have hq : 0 ≤ t / f ∧ t / f < 4294967296 := by
    refine ⟨Int.ediv_nonneg (by omega) (by omega), ?_⟩
    rw [Int.ediv_lt_iff_lt_mul hf0]
    omega
  refine ⟨by rw [List.length_set, h.len], words_set h.wds _ hq, ⟨Int.emod_nonneg _ (by omega), Int.emod_lt_of_pos _ hf0⟩, fun j hj => ?_, ?_⟩
  · rw [getD_set _ _ _ _ hlt, if_neg (by omega)]; exact h.zero j (by omega)
  · have he := h.eq
    rw [he, show frm + (m + 1) = frm + m + 1 by omega]
    simp only [wt]
    unfold wal
    rw [List.length_set, wt_set_add s m _ hlt s.length hlt, h.zero m (by omega), Int.pow_succ, show (B32 : Int) ^ (frm + m) = B32 ^ frm * B32 ^ m from Int.pow_add _ _ _]
    have hs := Int.mul_ediv_add_emod t f
    have e : c * B32 + x.getD (frm + m) 0 = f * (t / f) + t % f := by rw [hs, ← ht]
    generalize t / f = q at *
    generalize t % f = r at *
    generalize wt s s.length = w at *
    generalize wt x (frm + m) = w2 at *
    generalize x.getD (frm + m) 0 = y at *
    generalize B32 ^ frm = p at *
    generalize B32 ^ m = p2 at *
    generalize B32 = bb at *
    have e2 : p * p2 * y = p * p2 * (f * q + r) - p * p2 * (c * bb) := by rw [← e]; grind
    rw [e2]
    grind
theorem DroS.fin {x s : List Int} {frm L n : Nat} {f c : Int} (h : DroS x s frm L f 0 c) (hx : Words x) (hn : B32 ^ frm * f = ((2 ^ n : Nat) : Int)) {u : Nat} (hu : wal x = u) : wal s = ((u / 2 ^ n : Nat) : Int) := by
  have he := h.eq
  have hc := h.car
  have hb := wt_bound hx frm
  have hp := pow_pos32 frm
  rw [Nat.add_zero, Int.pow_zero, Int.one_mul, Int.mul_add, ← Int.mul_assoc, hn, hu] at he
  have h1 : B32 ^ frm * c + B32 ^ frm ≤ ((2 ^ n : Nat) : Int) := by
    rw [← hn]
    have := Int.mul_le_mul_of_nonneg_left (show c + 1 ≤ f by omega) (Int.le_of_lt hp)
    rw [Int.mul_add, Int.mul_one] at this
    exact this
  have h2 : 0 ≤ B32 ^ frm * c := Int.mul_nonneg (Int.le_of_lt hp) hc.1
  have h3 : (0 : Int) < ((2 ^ n : Nat) : Int) := by have := Nat.two_pow_pos n; omega
  rw [Int.natCast_ediv]
  generalize B32 ^ frm * c = y at *
  generalize B32 ^ frm = p at *
  generalize ((2 ^ n : Nat) : Int) = N at *
  generalize wt x frm = w at *
  have e : (u : Int) = (w + y) + N * wal s := by omega
  rw [e, Int.add_mul_ediv_left _ _ (by omega), Int.ediv_eq_zero_of_lt (by omega) (by omega), Int.zero_add]
structure DblS (a o : List Int) (bit : Int) (i : Nat) (c : Int) : Prop where
  len : o.length = a.length + 1
  lim : Limbs o
  car : 0 ≤ c ∧ c ≤ 1
  eq : vt o i + B64 ^ i * c = 2 * vt a i + bit
theorem DblS.step {a o : List Int} {bit c : Int} {i : Nat} (h : DblS a o bit i c) (ha : Limbs a) (hi : i < a.length) : DblS a (o.set i (a.getD i 0 * 2 % 18446744073709551616 + c)) bit (i + 1) (a.getD i 0 / 9223372036854775808) := by
  have hlt : i < o.length := by rw [h.len]; omega
  have hx := getD_limb ha i
  have hc := h.car
  simp only [B64] at hx
  refine ⟨by rw [List.length_set, h.len], limbs_set h.lim _ (by simp only [B64]; omega), by omega, ?_⟩
  simp only [vt]
  rw [vt_set_ge _ _ _ _ hlt (Nat.le_refl _), getD_set _ _ _ _ hlt, if_pos rfl, Int.pow_succ]
  have he := h.eq
  have h1 : a.getD i 0 * 2 % 18446744073709551616 + 18446744073709551616 * (a.getD i 0 / 9223372036854775808) = 2 * a.getD i 0 := by omega
  simp only [B64] at he ⊢
  generalize a.getD i 0 * 2 % 18446744073709551616 = r at *
  generalize a.getD i 0 / 9223372036854775808 = q at *
  generalize (18446744073709551616 : Int) ^ i = p at *
  generalize a.getD i 0 = x at *
  grind
theorem DblS.fin {a o : List Int} {bit c : Int} (h : DblS a o bit a.length c) : o.set a.length c = limbsOf (a.length + 1) (2 * val a + bit).toNat := by
  have hlt : a.length < o.length := by rw [h.len]; omega
  have hc := h.car
  have hL : Limbs (o.set a.length c) := limbs_set h.lim _ (by simp only [B64]; omega)
  have hv : val (o.set a.length c) = 2 * val a + bit := by
    unfold val
    rw [List.length_set, h.len]
    simp only [vt]
    rw [vt_set_ge _ _ _ _ hlt (Nat.le_refl _), getD_set _ _ _ _ hlt, if_pos rfl, h.eq]
  have hb := vt_bound hL (o.set a.length c).length
  rw [show vt (o.set a.length c) (o.set a.length c).length = val (o.set a.length c) from rfl, hv, List.length_set, h.len] at hb
  have e : B64 ^ (a.length + 1) = ((18446744073709551616 ^ (a.length + 1) : Nat) : Int) := by rw [Int.natCast_pow]; rfl
  refine val_inj hL (limbsOf_limbs _ _) (by rw [List.length_set, h.len, limbsOf_length]) ?_
  rw [limbsOf_val (by rw [e] at hb; omega), hv]
  omega
structure DvS (q r : List Int) (X Y : Int) (N M j K : Nat) : Prop where
  ql : q.length = N
  rl : r.length = M
  qlim : Limbs q
  rlim : Limbs r
  eq : val q * Y + val r = X
  top : val r < Y * (B64 ^ j * 2 ^ K)
  low : ∀ i, i < j → q.getD i 0 = 0
  part : q.getD j 0 % 2 ^ K = 0
theorem DvS.next {q r : List Int} {X Y : Int} {N M j : Nat} (h : DvS q r X Y N M (j + 1) 0) : DvS q r X Y N M j 64 := by
  refine ⟨h.ql, h.rl, h.qlim, h.rlim, h.eq, ?_, fun i hi => h.low i (by omega), by rw [h.low j (by omega)]; rfl⟩
  have := h.top
  rw [Int.pow_succ, Int.pow_zero, Int.mul_one] at this
  exact this
theorem DvS.seg {q r : List Int} {X Y : Int} {N M j K L : Nat} (h : DvS q r X Y N M j K) (hY : Y < B64 ^ L) (hY0 : 0 < Y) (hK : K ≤ 64) (hM : j + L + 1 ≤ M) : val r = vt r j + B64 ^ j * vt (r.drop j) (L + 1) := by
  have h1 : val r < B64 ^ (j + (L + 1)) := by
    refine Int.lt_of_lt_of_le h.top ?_
    have h2 : (2 : Int) ^ K ≤ 2 ^ 64 := by exact_mod_cast Nat.pow_le_pow_right (by decide) hK
    have h3 : (2 : Int) ^ 64 = B64 := by decide
    have h4 : B64 ^ j * 2 ^ K ≤ B64 ^ j * B64 := Int.mul_le_mul_of_nonneg_left (by omega) (Int.le_of_lt (pow_pos64 j))
    have h5 : Y * (B64 ^ j * 2 ^ K) ≤ B64 ^ L * (B64 ^ j * B64) := Int.le_trans (Int.mul_le_mul_of_nonneg_left h4 (Int.le_of_lt hY0)) (Int.mul_le_mul_of_nonneg_right (Int.le_of_lt hY) (Int.mul_nonneg (Int.le_of_lt (pow_pos64 j)) (by decide)))
    refine Int.le_trans h5 (Int.le_of_eq ?_)
    rw [Int.pow_add, Int.pow_succ]
    generalize B64 ^ j = x
    generalize B64 ^ L = y
    grind
  have h6 := vt_split r (j + (L + 1)) (M - (j + (L + 1)))
  rw [show j + (L + 1) + (M - (j + (L + 1))) = r.length by rw [h.rl]; omega, show vt r r.length = val r from rfl] at h6
  have h7 := (vt_bound h.rlim (j + (L + 1))).1
  have h8 := (vt_bound (limbs_drop h.rlim (j + (L + 1))) (M - (j + (L + 1)))).1
  have h9 : vt (r.drop (j + (L + 1))) (M - (j + (L + 1))) = 0 := by
    refine Int.le_antisymm (Int.le_of_lt_add_one ?_) h8
    refine Int.lt_of_mul_lt_mul_left (a := B64 ^ (j + (L + 1))) ?_ (Int.le_of_lt (pow_pos64 _))
    omega
  rw [h9, Int.mul_zero, Int.add_zero, vt_split] at h6
  exact h6
theorem DvS.yes {q r r' : List Int} {X Y : Int} {N M j k : Nat} (h : DvS q r X Y N M j (k + 1)) (hk : k ≤ 63) (hj : j < N) (hl' : r'.length = M) (hL' : Limbs r') (hr' : val r' = val r - Y * (B64 ^ j * 2 ^ k)) : DvS (q.set j (q.getD j 0 + 2 ^ k)) r' X Y N M j k ∧ q.getD j 0 + 2 ^ k < B64 := by
  have hx := getD_limb h.qlim j
  have hlt : j < q.length := by rw [h.ql]; exact hj
  have hp := h.part
  have hP : (0 : Int) < 2 ^ k := Int.pow_pos (by decide)
  have h1 : q.getD j 0 + 2 ^ k < B64 := by
    -- both are multiples of 2^(k+1)
    have e : (B64 : Int) = 2 ^ (63 - k) * 2 ^ (k + 1) := by rw [← Int.pow_add, show 63 - k + (k + 1) = 64 by omega]; rfl
    obtain ⟨t, ht⟩ := Int.dvd_of_emod_eq_zero hp
    have hP1 : (0 : Int) < 2 ^ (k + 1) := Int.pow_pos (by decide)
    have h2 : t < 2 ^ (63 - k) := by
      refine Int.lt_of_mul_lt_mul_left (a := 2 ^ (k + 1)) ?_ (Int.le_of_lt hP1)
      rw [← ht, Int.mul_comm, ← e]
      exact hx.2
    have h3 : 2 ^ (k + 1) * (t + 1) ≤ 2 ^ (k + 1) * 2 ^ (63 - k) := Int.mul_le_mul_of_nonneg_left h2 (Int.le_of_lt hP1)
    rw [e, ht]
    rw [Int.mul_add, Int.mul_one] at h3
    have e2 : (2 : Int) ^ (k + 1) = 2 * 2 ^ k := by rw [Int.pow_succ]; omega
    rw [Int.mul_comm (2 ^ (63 - k))]
    omega
  refine ⟨⟨by rw [List.length_set, h.ql], hl', limbs_set h.qlim _ ⟨by omega, h1⟩, hL', ?_, ?_, fun i hi => ?_, ?_⟩, h1⟩
  · unfold val
    rw [List.length_set, vt_set_add q j _ hlt q.length hlt]
    have he := h.eq
    unfold val at he hr'
    rw [hr', ← he]
    generalize vt q q.length = a
    generalize vt r r.length = b
    generalize q.getD j 0 = c
    generalize B64 ^ j = d
    generalize (2 : Int) ^ k = e
    grind
  · rw [hr']
    have ht := h.top
    have e2 : (2 : Int) ^ (k + 1) = 2 * 2 ^ k := by rw [Int.pow_succ]; omega
    rw [e2] at ht
    have e3 : Y * (B64 ^ j * (2 * 2 ^ k)) = 2 * (Y * (B64 ^ j * 2 ^ k)) := by
      generalize B64 ^ j = d
      generalize (2 : Int) ^ k = e
      grind
    omega
  · rw [getD_set _ _ _ _ hlt, if_neg (by omega)]; exact h.low i hi
  · rw [getD_set _ _ _ _ hlt, if_pos rfl]
    have h2 : q.getD j 0 % 2 ^ k = 0 := Int.emod_eq_zero_of_dvd (Int.dvd_trans ⟨2, by rw [Int.pow_succ]⟩ (Int.dvd_of_emod_eq_zero hp))
    rw [Int.add_emod_right]; exact h2
theorem DvS.no {q r : List Int} {X Y : Int} {N M j k : Nat} (h : DvS q r X Y N M j (k + 1)) (hr : val r < Y * (B64 ^ j * 2 ^ k)) : DvS q r X Y N M j k :=
  ⟨h.ql, h.rl, h.qlim, h.rlim, h.eq, hr, h.low, Int.emod_eq_zero_of_dvd (Int.dvd_trans ⟨2, by rw [Int.pow_succ]⟩ (Int.dvd_of_emod_eq_zero h.part))⟩
theorem DvS.start {x : List Int} {Y : Int} {N n L : Nat} (hx : Limbs x) (hn : x.length = n) (hY : B64 ^ (L - 1) ≤ Y) (hL : 1 ≤ L) (hN : N + L = n + 1) : DvS (List.replicate N 0) (x ++ [0]) (val x) Y N (n + 1) N 0 := by
  have e0 : val (x ++ [0]) = val x := by rw [val_snoc]; simp
  refine ⟨by simp, by simp [hn], limbs_zeros _, limbs_snoc hx (by decide), ?_, ?_, fun i _ => getD_zeros _ _, by rw [getD_zeros]; rfl⟩
  · have : val (List.replicate N 0) = 0 := vt_zeros _ _
    rw [this, e0]; omega
  · rw [e0, Int.pow_zero, Int.mul_one]
    have h1 : val x < B64 ^ n := by rw [← hn]; exact (vt_bound hx x.length).2
    refine Int.lt_of_lt_of_le h1 ?_
    rw [show n = (L - 1) + N by omega, Int.pow_add]
    exact Int.mul_le_mul_of_nonneg_right hY (Int.le_of_lt (pow_pos64 _))
theorem DvS.fin {q r : List Int} {X Y N' M'} (h : DvS q r (X : Nat) (Y : Nat) N' M' 0 0) : val q = ((X / Y : Nat) : Int) ∧ val r = ((X % Y : Nat) : Int) := by
  have ht := h.top
  rw [Int.pow_zero, Int.pow_zero, Int.mul_one, Int.mul_one] at ht
  have h0 : 0 ≤ val r := (vt_bound h.rlim r.length).1
  have he := h.eq
  have e1 : (X : Int) / (Y : Int) = val q := by
    rw [← he, Int.add_comm, Int.add_mul_ediv_right _ _ (by omega), Int.ediv_eq_zero_of_lt h0 ht, Int.zero_add]
  have e2 : (X : Int) % (Y : Int) = val r := by
    rw [← he, Int.add_comm, Int.add_mul_emod_self_right, Int.emod_eq_of_lt h0 ht]
  exact ⟨by rw [← e1, Int.natCast_ediv], by rw [← e2, Int.natCast_emod]⟩
theorem ref02_top (l : List Int) (hl : l.length ≤ 17592186043904) : Meets Tryz.prog 145 [.ints .u64 l] (.int .i64 (size l : Int)) := by
  refine meets_by ttOk Tryz.func145 Tryz.ntmps145 Tryz.results145 (by kernel_rfl) (c := _) rfl rfl rfl fun E => ?_
  simp only [argsFrame]
  refine walk1 ?_
  refine PW.meetB (fun F H => F = [(3, .int .i64 (size l : Int))] ∧ H = ⟨0, [], [], []⟩) ?_ ?_
  · refine PW.loopA (fun m F H => m ≤ l.length ∧ sizeN l m = size l ∧ F = [(3, .int .i64 (m : Int)), (0, .ints .u64 l)] ∧ H = ⟨0, [], [], []⟩) l.length [(3, .int .i64 (l.length : Int)), (0, .ints .u64 l)] ⟨0, [], [], []⟩ (Sub.norm ⟨rfl, rfl, trivial⟩ trivial (Nat.le_refl _) rfl rfl rfl rfl) ⟨Nat.le_refl _, rfl, rfl, rfl⟩ ?_
    rintro m F H ⟨hm, hs, rfl, rfl⟩
    cases m with
    | zero =>
      refine walk1 ?_
      exact Meet.mk [(3, .int .i64 (size l : Int))] ⟨0, [], [], []⟩ (Sub.norm ⟨by rw [← hs]; rfl, trivial⟩ trivial (Nat.le_refl _) rfl rfl rfl rfl) ⟨rfl, rfl⟩
    | succ m =>
      have e1 : (((m + 1 : Nat)) : Int) - 1 = (m : Int) := by omega
      repeat' first
        | (simp (disch := omega) only [e1, Int.toNat_natCast, wkW, Int.reduceToNat, Int.reducePow])
        | (with_reducible first | refine PW.seq ?_ | refine PW.block ?_ | refine PW.fork ?_ | refine PW.skip ?_ | refine PW.exit ?_ | refine PW.ret ?_ | refine PW.scope ?_ | refine PW.label ?_ | refine PW.goto ?_)
        | (with_reducible refine PW.region ttOk ?_ ?_
           · rfl)
        | (with_reducible refine PW.regionD ttOk mixed ?_ ?_ ?_
           · rfl
           · rfl)
        | (with_reducible refine ifW_dec (fun g => ?_) (fun g => ?_) <;> first | (exfalso; omega) | (simp -dsimp only [g, wkI]))
        | (with_reducible refine condE_dec (fun g => ?_) (fun g => ?_) <;> try (exfalso; omega))
        | (with_reducible refine condE_not (fun g => ?_) (fun g => ?_) <;> try (exfalso; omega))
        | (simp -dsimp only [↓wkA, ↓wkE, ↓wkJ, wkB, ↓tt, Nat.reduceBEq, Nat.reduceEqDiff, ↓reduceIte, Nat.reduceLT, Array.toList, Nat.reduceAdd, Nat.reduceMul, Int.reduceToNat, Int.reducePow, UInt8.reduceToNat])
        | (simp -dsimp (disch := first | assumption | omega) only [dec_t, dec_f])
        | (refine andI ?_)
        | (simp (disch := omega) only [wkW, Int.reduceToNat, Int.reducePow])
        | fail
      · have h0 : l.getD m 0 = 0 := by assumption
        exact Again.mk m [(3, .int .i64 (m : Int)), (0, .ints .u64 l)] ⟨0, [], [], []⟩ (by omega) (Sub.norm ⟨rfl, rfl, trivial⟩ trivial (Nat.le_refl _) rfl rfl rfl rfl) ⟨by omega, by rw [← hs, sizeN, if_pos h0], rfl, rfl⟩
      · have h0 : ¬ l.getD m 0 = 0 := by assumption
        exact Meet.mk [(3, .int .i64 (size l : Int))] ⟨0, [], [], []⟩ (Sub.norm ⟨by rw [← hs, sizeN, if_neg h0]; rfl, trivial⟩ trivial (Nat.le_refl _) rfl rfl rfl rfl) ⟨rfl, rfl⟩
  rintro F H ⟨rfl, rfl⟩
  exact walk
structure ShoS (l o : List Int) (n i : Nat) : Prop where
  len : o.length = n
  eq : ∀ j, j < i → o.getD j 0 = l.getD j 0
theorem ShoS.step {l o : List Int} {n i : Nat} (h : ShoS l o n i) (hi : i < n) : ShoS l (o.set i (l.getD i 0)) n (i + 1) :=
  ⟨by rw [List.length_set, h.len], fun j hj => by
    rw [getD_set _ _ _ _ (by rw [h.len]; exact hi)]
    split
    · rename_i e; rw [e]
    · exact h.eq j (by omega)⟩
theorem ShoS.fin {l o : List Int} (h : ShoS l o (size l) (size l)) : o = trim l := by
  have hs := size_le l
  refine list_ext (by rw [h.len, trim_len]) fun j hj => ?_
  rw [h.len] at hj
  rw [h.eq j hj]
  exact (getD_take' hj).symm
theorem ref02_short_h (l : List Int) (hl : l.length ≤ 100000000) (nx : Nat) (rows : List (Nat × PV.Row)) (gg : List PV.Frame) (ty : List (Nat × TypeId)) :
    HMeets Tryz.prog 107 [.ints .u64 l] ⟨nx, rows, gg, ty⟩ fun res H' => res = .sl nx 0 (size l) true ∧ H' = ⟨nx + 1, setRow rows nx (.ints .u64 (trim l)), gg, (nx, 25) :: ty⟩ := by
  have h1 := ref02_top l (by omega)
  have hsz := size_le l
  refine hmeets_by ttOk Tryz.func107 Tryz.ntmps107 Tryz.results107 (by kernel_rfl) (c := _) rfl rfl fun E => ?_
  simp only [argsFrame]
  have W := cj Int.toNat_natCast (cj getRow_setRow_self Go.PV.setRow_setRow)
  refine walk1 ?_
  refine PW.loopA (fun m F H => ∃ i o, i + m = size l ∧ ShoS l o (size l) i ∧ F = [(5, .int .i64 (i : Int)), (4, .sl nx 0 (size l) true), (3, .int .i64 (size l : Int)), (0, .ints .u64 l)] ∧ H = ⟨nx + 1, setRow rows nx (.ints .u64 o), gg, (nx, 25) :: ty⟩) (size l) [(5, .int .i64 ((0 : Nat) : Int)), (4, .sl nx 0 (size l) true), (3, .int .i64 (size l : Int)), (0, .ints .u64 l)] ⟨nx + 1, setRow rows nx (.ints .u64 (List.replicate (size l) 0)), gg, (nx, 25) :: ty⟩ (Sub.less ⟨rfl, rfl, rfl, rfl, trivial⟩ (fun _ _ h => h) rfl rfl) ⟨0, _, by omega, ⟨by simp, fun j hj => by omega⟩, rfl, rfl⟩ ?_
  rintro m F H ⟨i, o, hi, hS, rfl, rfl⟩
  have hol := hS.len
  cases m with
  | zero =>
    obtain rfl : i = size l := by omega
    obtain rfl := hS.fin
    exact walk
  | succ m =>
    have hst := hS.step (show i < size l by omega)
    have w1 : IntKind.wrap .i64 ((i : Int) + 1) = ((i + 1 : Nat) : Int) := wrap_i64 (by omega)
    have W := cj w1 (cj Int.toNat_natCast (cj getRow_setRow_self Go.PV.setRow_setRow))
    refine walk1 ?_
    exact Again.mk m [(5, .int .i64 ((i + 1 : Nat) : Int)), (4, .sl nx 0 (size l) true), (3, .int .i64 (size l : Int)), (0, .ints .u64 l)] ⟨nx + 1, setRow rows nx (.ints .u64 _), gg, (nx, 25) :: ty⟩ (by omega) (Sub.less ⟨rfl, rfl, rfl, rfl, trivial⟩ (fun _ _ h => h) rfl rfl) ⟨i + 1, _, by omega, hst, rfl, rfl⟩
theorem ref02_short (l : List Int) (hl : l.length ≤ 100000000) : Meets Tryz.prog 107 [.ints .u64 l] (.ints .u64 (trim l)) := by
  have h1 := ref02_top l (by omega)
  have hsz := size_le l
  refine meets_by ttOk Tryz.func107 Tryz.ntmps107 Tryz.results107 (by kernel_rfl) (c := _) rfl rfl rfl fun E => ?_
  simp only [argsFrame]
  have W := Int.toNat_natCast
  refine walk1 ?_
  refine PW.loopA (fun m F H => ∃ i o, i + m = size l ∧ ShoS l o (size l) i ∧ F = [(5, .int .i64 (i : Int)), (4, .sl 0 0 (size l) true), (3, .int .i64 (size l : Int)), (0, .ints .u64 l)] ∧ H = ⟨1, [(0, .ints .u64 o)], [], []⟩) (size l) [(5, .int .i64 ((0 : Nat) : Int)), (4, .sl 0 0 (size l) true), (3, .int .i64 (size l : Int)), (0, .ints .u64 l)] ⟨1, [(0, .ints .u64 (List.replicate (size l) 0))], [], []⟩ (Sub.norm ⟨rfl, rfl, rfl, rfl, trivial⟩ ⟨rfl, trivial⟩ (Nat.le_refl _) rfl rfl rfl rfl) ⟨0, _, by omega, ⟨by simp, fun j hj => by omega⟩, rfl, rfl⟩ ?_
  rintro m F H ⟨i, o, hi, hS, rfl, rfl⟩
  have hol := hS.len
  cases m with
  | zero =>
    obtain rfl : i = size l := by omega
    have htk : List.take (size l) o = o := List.take_of_length_le (by omega)
    rw [← hS.fin]
    refine walk1 ?_
    all_goals first | omega | rw [htk]
  | succ m =>
    have hst := hS.step (show i < size l by omega)
    have w1 : IntKind.wrap .i64 ((i : Int) + 1) = ((i + 1 : Nat) : Int) := wrap_i64 (by omega)
    have W := cj w1 Int.toNat_natCast
    refine walk1 ?_
    exact Again.mk m [(5, .int .i64 ((i + 1 : Nat) : Int)), (4, .sl 0 0 (size l) true), (3, .int .i64 (size l : Int)), (0, .ints .u64 l)] ⟨1, [(0, .ints .u64 _)], [], []⟩ (by omega) (Sub.norm ⟨rfl, rfl, rfl, rfl, trivial⟩ ⟨rfl, trivial⟩ (Nat.le_refl _) rfl rfl rfl rfl) ⟨i + 1, _, by omega, hst, rfl, rfl⟩
theorem ref02_order (a b : List Int) (ha : Limbs a) (hb : Limbs b) (hla : a.length ≤ 17592186043904) (hlb : b.length ≤ 17592186043904) : Meets Tryz.prog 108 [.ints .u64 a, .ints .u64 b] (.int .i64 (cmpN a b)) := by
  have s1 := ref02_top a hla
  have s2 := ref02_top b hlb
  have z1 := size_le a
  have z2 := size_le b
  by_cases c1 : size a < size b
  · rw [cmpN_short ha hb c1]
    have d1 : decide (((size a : Nat) : Int) < ((size b : Nat) : Int)) = true := decide_eq_true (by omega)
    refine meets_by ttOk Tryz.func108 Tryz.ntmps108 Tryz.results108 (by kernel_rfl) (c := _) rfl rfl rfl fun E => ?_
    simp only [argsFrame]
    have W := d1
    exact walk
  have d1 : decide (((size a : Nat) : Int) < ((size b : Nat) : Int)) = false := decide_eq_false (by omega)
  by_cases c2 : size b < size a
  · rw [cmpN_long ha hb c2]
    have d2 : decide (((size b : Nat) : Int) < ((size a : Nat) : Int)) = true := decide_eq_true (by omega)
    refine meets_by ttOk Tryz.func108 Tryz.ntmps108 Tryz.results108 (by kernel_rfl) (c := _) rfl rfl rfl fun E => ?_
    simp only [argsFrame]
    have W := cj d1 d2
    exact walk
  have d2 : decide (((size b : Nat) : Int) < ((size a : Nat) : Int)) = false := decide_eq_false (by omega)
  obtain ⟨n, hn⟩ : ∃ n, size b = n := ⟨_, rfl⟩
  have hn1 : size a = n := by omega
  rw [hn1] at s1
  rw [hn] at s2
  rw [hn1, hn] at d1 d2
  have w0 : IntKind.wrap .i64 ((n : Int) - 1) = (n : Int) - 1 := wrap_i64 (by omega)
  refine meets_by ttOk Tryz.func108 Tryz.ntmps108 Tryz.results108 (by kernel_rfl) (c := _) rfl rfl rfl fun E => ?_
  simp only [argsFrame]
  have W := cj d1 (cj d2 w0)
  refine walk1 ?_
  refine PW.loopA (fun m F H => m ≤ n ∧ (∀ j, m ≤ j → j < n → a.getD j 0 = b.getD j 0) ∧ F = [(7, .int .i64 ((m : Int) - 1)), (0, .ints .u64 a), (1, .ints .u64 b)] ∧ H = ⟨0, [], [], []⟩) n [(7, .int .i64 ((n : Int) - 1)), (0, .ints .u64 a), (1, .ints .u64 b)] ⟨0, [], [], []⟩ (Sub.norm ⟨rfl, rfl, rfl, trivial⟩ trivial (Nat.le_refl _) rfl rfl rfl rfl) ⟨Nat.le_refl _, fun j h1 h2 => by omega, rfl, rfl⟩ ?_
  rintro m F H ⟨hm, he, rfl, rfl⟩
  cases m with
  | zero =>
    rw [cmpN_same hn1 hn fun j hj => he j (by omega) hj]
    exact walk
  | succ m =>
    have e1 : (((m + 1 : Nat)) : Int) - 1 = (m : Int) := by omega
    have w1 : IntKind.wrap .i64 ((m : Int) - 1) = (m : Int) - 1 := wrap_i64 (by omega)
    by_cases k1 : a.getD m 0 < b.getD m 0
    · have d3 : decide (a.getD m 0 < b.getD m 0) = true := decide_eq_true k1
      rw [cmpN_low ha hb hn1 hn (show m < n by omega) (fun j h1 h2 => he j (by omega) h2) k1]
      have W := cj e1 (cj w1 (cj d3 Int.toNat_natCast))
      exact walk
    have d3 : decide (a.getD m 0 < b.getD m 0) = false := decide_eq_false k1
    by_cases k2 : b.getD m 0 < a.getD m 0
    · have d4 : decide (b.getD m 0 < a.getD m 0) = true := decide_eq_true k2
      rw [cmpN_high ha hb hn1 hn (show m < n by omega) (fun j h1 h2 => he j (by omega) h2) k2]
      have W := cj e1 (cj w1 (cj d3 (cj d4 Int.toNat_natCast)))
      exact walk
    have d4 : decide (b.getD m 0 < a.getD m 0) = false := decide_eq_false k2
    have W := cj e1 (cj w1 (cj d3 (cj d4 Int.toNat_natCast)))
    refine walk1 ?_
    exact Again.mk m [(7, .int .i64 ((m : Int) - 1)), (0, .ints .u64 a), (1, .ints .u64 b)] ⟨0, [], [], []⟩ (by omega) (Sub.norm ⟨rfl, rfl, rfl, trivial⟩ trivial (Nat.le_refl _) rfl rfl rfl rfl) ⟨by omega, fun j h1 h2 => by
      by_cases h3 : j = m
      · subst h3; omega
      · exact he j (by omega) h2, rfl, rfl⟩
theorem ref02_same (a b : List Int) (ha : Limbs a) (hb : Limbs b) (hla : a.length ≤ 17592186043904) (hlb : b.length ≤ 17592186043904) : Meets Tryz.prog 152 [.ints .u64 a, .ints .u64 b] (.bool (decide (cmpN a b = 0))) := by
  have h1 := ref02_order a b ha hb hla hlb
  refine meets_by ttOk Tryz.func152 Tryz.ntmps152 Tryz.results152 (by kernel_rfl) (c := _) rfl rfl rfl fun E => ?_
  simp only [argsFrame]
  exact walk
theorem or_bit {x c : Int} (hx : 0 ≤ x ∧ x < 18446744073709551616) (hc : 0 ≤ c ∧ c ≤ 1) : ibits .or .u64 (x * 2 % 18446744073709551616) c = x * 2 % 18446744073709551616 + c := by
  have h := or_low (x % 9223372036854775808) c 1 (by omega) (by omega) (by omega)
  rw [show x % 9223372036854775808 * 2 ^ 1 = x * 2 % 18446744073709551616 by omega] at h
  exact h
theorem ref02_doubled (a : List Int) (ha : Limbs a) (hla : a.length ≤ 100000) (bit : Int) (hbit : 0 ≤ bit ∧ bit ≤ 1) : Meets Tryz.prog 109 [.ints .u64 a, .int .u64 bit] (.ints .u64 (limbsOf (a.length + 1) (2 * val a + bit).toNat)) := by
  have w0 : IntKind.wrap .i64 ((a.length : Int) + 1) = ((a.length + 1 : Nat) : Int) := wrap_i64 (by omega)
  have hfin : ∀ o c, DblS a o bit a.length c → o.set a.length c = limbsOf (a.length + 1) (2 * val a + bit).toNat := fun o c h => h.fin
  generalize limbsOf (a.length + 1) (2 * val a + bit).toNat = res at *
  refine meets_by ttOk Tryz.func109 Tryz.ntmps109 Tryz.results109 (by kernel_rfl) (c := _) rfl rfl rfl fun E => ?_
  simp only [argsFrame]
  have W := cj w0 Int.toNat_natCast
  refine walk1 ?_
  refine PW.loopA (fun m F H => ∃ i o c, i + m = a.length ∧ DblS a o bit i c ∧ F = [(7, .int .i64 (i : Int)), (6, .int .u64 c), (5, .sl 0 0 (a.length + 1) true), (0, .ints .u64 a)] ∧ H = ⟨1, [(0, .ints .u64 o)], [], []⟩) a.length [(7, .int .i64 ((0 : Nat) : Int)), (6, .int .u64 bit), (5, .sl 0 0 (a.length + 1) true), (0, .ints .u64 a)] ⟨1, [(0, .ints .u64 (List.replicate (a.length + 1) 0))], [], []⟩ (Sub.norm ⟨rfl, rfl, rfl, rfl, trivial⟩ ⟨rfl, trivial⟩ (Nat.le_refl _) rfl rfl rfl rfl) ⟨0, _, _, by omega, ⟨by simp, limbs_zeros _, hbit, by simp [vt]⟩, rfl, rfl⟩ ?_
  rintro m F H ⟨i, o, c, hi, hS, rfl, rfl⟩
  have hol := hS.len
  have hcar := hS.car
  cases m with
  | zero =>
    obtain rfl : i = a.length := by omega
    have hf := hfin o c hS
    have htk : List.take (a.length + 1) res = res := List.take_of_length_le (by rw [← hf, List.length_set]; omega)
    have hrl : a.length + 1 ≤ res.length := by rw [← hf, List.length_set]; omega
    have W := cj w0 (cj hf Int.toNat_natCast)
    refine walk1 ?_
    all_goals first | omega | rw [htk]
  | succ m =>
    have hx := getD_limb ha i
    simp only [B64] at hx
    have hst := hS.step ha (by omega)
    have w1 : IntKind.wrap .i64 ((i : Int) + 1) = ((i + 1 : Nat) : Int) := wrap_i64 (by omega)
    have w2 : IntKind.wrap .u64 (a.getD i 0 * 2 ^ min 1 64) = a.getD i 0 * 2 % 18446744073709551616 := by rw [show (2 : Int) ^ min 1 64 = 2 from rfl]; exact wrap_u64' _
    have h3 := or_bit hx hcar
    have h4 : (a.getD i 0).fdiv (2 ^ min 63 64) = a.getD i 0 / 9223372036854775808 := by rw [Int.fdiv_eq_ediv_of_nonneg _ (by decide)]; rfl
    have W := cj w1 (cj w2 (cj h3 (cj h4 Int.toNat_natCast)))
    refine walk1 ?_
    exact Again.mk m [(7, .int .i64 ((i + 1 : Nat) : Int)), (6, .int .u64 _), (5, .sl 0 0 (a.length + 1) true), (0, .ints .u64 a)] ⟨1, [(0, .ints .u64 _)], [], []⟩ (by omega) (Sub.norm ⟨rfl, rfl, rfl, rfl, trivial⟩ ⟨rfl, trivial⟩ (Nat.le_refl _) rfl rfl rfl rfl) ⟨i + 1, _, _, by omega, hst, rfl, rfl⟩
theorem ref02_holds (a b : List Int) (ha : Limbs a) (hb : Limbs b) (j n : Nat) (hbn : b.length = n) (hj : j + n ≤ a.length) (hl : a.length ≤ 100000) : Meets Tryz.prog 110 [.ints .u64 a, .int .i64 (j : Int), .ints .u64 b] (.bool (decide (vt b n ≤ vt (a.drop j) n))) := by
  have w0 : IntKind.wrap .i64 ((n : Int) - 1) = (n : Int) - 1 := wrap_i64 (by omega)
  have had := limbs_drop ha j
  refine meets_by ttOk Tryz.func110 Tryz.ntmps110 Tryz.results110 (by kernel_rfl) (c := _) rfl rfl rfl fun E => ?_
  simp only [argsFrame]
  have W := cj w0 hbn
  refine walk1 ?_
  refine PW.loopA (fun m F H => m ≤ n ∧ (∀ k, m ≤ k → k < n → (a.drop j).getD k 0 = b.getD k 0) ∧ F = [(7, .int .i64 ((m : Int) - 1)), (0, .ints .u64 a), (1, .int .i64 (j : Int)), (2, .ints .u64 b)] ∧ H = ⟨0, [], [], []⟩) n [(7, .int .i64 ((n : Int) - 1)), (0, .ints .u64 a), (1, .int .i64 (j : Int)), (2, .ints .u64 b)] ⟨0, [], [], []⟩ (Sub.norm ⟨rfl, rfl, rfl, rfl, trivial⟩ trivial (Nat.le_refl _) rfl rfl rfl rfl) ⟨Nat.le_refl _, fun j h1 h2 => by omega, rfl, rfl⟩ ?_
  rintro m F H ⟨hm, he, rfl, rfl⟩
  cases m with
  | zero =>
    rw [vt_same n fun k hk => he k (by omega) hk, decide_eq_true (Int.le_refl _)]
    exact walk
  | succ m =>
    have e1 : (((m + 1 : Nat)) : Int) - 1 = (m : Int) := by omega
    have w1 : IntKind.wrap .i64 ((m : Int) - 1) = (m : Int) - 1 := wrap_i64 (by omega)
    have w2 : IntKind.wrap .i64 ((j : Int) + (m : Int)) = ((j + m : Nat) : Int) := by rw [wrap_i64 (by omega)]; omega
    have hg : (a.drop j).getD m 0 = a.getD (j + m) 0 := getD_drop'
    by_cases k1 : b.getD m 0 < a.getD (j + m) 0
    · have d3 : decide (b.getD m 0 < a.getD (j + m) 0) = true := decide_eq_true k1
      have := vt_top hb had (show b.getD m 0 < (a.drop j).getD m 0 by rw [hg]; exact k1) n (by omega) fun k h1 h2 => (he k (by omega) h2).symm
      rw [decide_eq_true (Int.le_of_lt this)]
      have W := cj e1 (cj w1 (cj w2 (cj d3 Int.toNat_natCast)))
      exact walk
    have d3 : decide (b.getD m 0 < a.getD (j + m) 0) = false := decide_eq_false k1
    by_cases k2 : a.getD (j + m) 0 < b.getD m 0
    · have d4 : decide (a.getD (j + m) 0 < b.getD m 0) = true := decide_eq_true k2
      have := vt_top had hb (show (a.drop j).getD m 0 < b.getD m 0 by rw [hg]; exact k2) n (by omega) fun k h1 h2 => he k (by omega) h2
      rw [decide_eq_false (Int.not_le.2 this)]
      have W := cj e1 (cj w1 (cj w2 (cj d3 (cj d4 Int.toNat_natCast))))
      exact walk
    have d4 : decide (a.getD (j + m) 0 < b.getD m 0) = false := decide_eq_false k2
    have W := cj e1 (cj w1 (cj w2 (cj d3 (cj d4 Int.toNat_natCast))))
    refine walk1 ?_
    exact Again.mk m [(7, .int .i64 ((m : Int) - 1)), (0, .ints .u64 a), (1, .int .i64 (j : Int)), (2, .ints .u64 b)] ⟨0, [], [], []⟩ (by omega) (Sub.norm ⟨rfl, rfl, rfl, rfl, trivial⟩ trivial (Nat.le_refl _) rfl rfl rfl rfl) ⟨by omega, fun k h1 h2 => by
      by_cases h3 : k = m
      · subst h3; rw [hg]; omega
      · exact he k (by omega) h2, rfl, rfl⟩
abbrev tkF (v : List Int) (r off len : Nat) (full : Bool) (i : Nat) (b : Int) : PV.Frame := [(7, .int .i64 (i : Int)), (6, .int .u64 b), (0, .sl r 0 len full), (1, .int .i64 (off : Int)), (2, .ints .u64 v)]
theorem take_bits {x y b : Int} (hx : 0 ≤ x ∧ x < 18446744073709551616) (hy : 0 ≤ y ∧ y < 18446744073709551616) (hb : 0 ≤ b ∧ b ≤ 1) : (x - y - b) / 18446744073709551616 = if x < y ∨ (x = y ∧ b = 1) then -1 else 0 := by
  split <;> omega
theorem ref02_take_off (l v : List Int) (hl : Limbs l) (hv : Limbs v) (off n : Nat) (hvn : v.length = n) (hll : off + n ≤ l.length) (hl2 : l.length ≤ 100000) (full : Bool) (r nx : Nat) (rows : List (Nat × PV.Row)) (gg : List PV.Frame) (ty : List (Nat × TypeId)) (hr : getRow rows r = some (.ints .u64 l)) :
    HMeets Tryz.prog 111 [.sl r 0 l.length full, .int .i64 (off : Int), .ints .u64 v] ⟨nx, rows, gg, ty⟩ fun res H' => ∃ l' b, PartS l l' off n ∧ 0 ≤ b ∧ b ≤ 1 ∧ vt (l'.drop off) n = vt (l.drop off) n - vt v n + B64 ^ n * b ∧ H' = ⟨nx, setRow rows r (.ints .u64 l'), gg, ty⟩ := by
  refine hmeets_by ttOk Tryz.func111 Tryz.ntmps111 Tryz.results111 (by kernel_rfl) (c := _) rfl rfl fun E => ?_
  simp only [argsFrame]
  refine walk1 ?_
  refine PW.loopA (fun m F H => ∃ i l' b, i + m = n ∧ PartS l l' off i ∧ (0 ≤ b ∧ b ≤ 1) ∧ vt (l'.drop off) i = vt (l.drop off) i - vt v i + B64 ^ i * b ∧ F = tkF v r off l.length full i b ∧ H = ⟨nx, setRow rows r (.ints .u64 l'), gg, ty⟩) n (tkF v r off l.length full 0 0) ⟨nx, setRow rows r (.ints .u64 l), gg, ty⟩ (Sub.less ⟨rfl, rfl, rfl, rfl, rfl, trivial⟩ (fun k row h => by
    rw [getRow_setRow] at h
    split at h
    · rename_i e; subst e; rw [← h]; exact hr
    · exact h) rfl rfl) ⟨0, l, 0, by omega, PartS.refl hl off, by decide, by simp [vt], rfl, rfl⟩ ?_
  rintro m F H ⟨i, l', b, hi, hS, hb, he, rfl, rfl⟩
  have hll' := hS.len
  cases m with
  | zero =>
    obtain rfl : i = n := by omega
    have W := hvn
    refine walk1 ?_
    exact ⟨l', b, hS, hb.1, hb.2, he, rfl⟩
  | succ m =>
    have hoi : off + i < l.length := by omega
    have hx := getD_limb hl (off + i)
    have hout := hS.out (off + i) (.inr (Nat.le_refl _))
    have hy := getD_limb hv i
    simp only [B64] at hx hy
    have w1 : IntKind.wrap .i64 ((i : Int) + 1) = ((i + 1 : Nat) : Int) := wrap_i64 (by omega)
    have w2 : IntKind.wrap .i64 ((off : Int) + (i : Int)) = ((off + i : Nat) : Int) := by rw [wrap_i64 (by omega)]; omega
    have hfin : vt ((l'.set (off + i) ((l.getD (off + i) 0 - v.getD i 0 - b) % 18446744073709551616)).drop off) (i + 1) = vt (l.drop off) (i + 1) - vt v (i + 1) + B64 ^ (i + 1) * (-((l.getD (off + i) 0 - v.getD i 0 - b) / 18446744073709551616)) := by
      rw [part_vt hS hoi, he]
      have hsum := Int.mul_ediv_add_emod (l.getD (off + i) 0 - v.getD i 0 - b) 18446744073709551616
      simp only [vt]
      rw [getD_drop', Int.pow_succ]
      simp only [B64]
      generalize (18446744073709551616 : Int) ^ i = p at *
      generalize (l.getD (off + i) 0 - v.getD i 0 - b) / 18446744073709551616 = q at *
      generalize (l.getD (off + i) 0 - v.getD i 0 - b) % 18446744073709551616 = t at *
      grind
    have hmod : 0 ≤ (l.getD (off + i) 0 - v.getD i 0 - b) % 18446744073709551616 ∧ (l.getD (off + i) 0 - v.getD i 0 - b) % 18446744073709551616 < B64 := ⟨Int.emod_nonneg _ (by decide), Int.emod_lt_of_pos _ (by decide)⟩
    have hset := hS.set hoi hmod
    have w3 : IntKind.wrap .u64 (IntKind.wrap .u64 (l.getD (off + i) 0 - v.getD i 0) - b) = (l.getD (off + i) 0 - v.getD i 0 - b) % 18446744073709551616 := by rw [wrap_u64', wrap_u64']; omega
    rw [take_bits hx hy hb] at hfin
    clear hmod he
    by_cases k1 : l.getD (off + i) 0 < v.getD i 0
    · have d1 : decide (l.getD (off + i) 0 < v.getD i 0) = true := decide_eq_true k1
      rw [if_pos (.inl k1)] at hfin
      have W := cj hvn (cj hout (cj w1 (cj w2 (cj w3 (cj d1 (cj Int.toNat_natCast (cj getRow_setRow_self Go.PV.setRow_setRow)))))))
      refine walk1 ?_
      exact Again.mk m (tkF v r off l.length full (i + 1) 1) ⟨nx, setRow rows r (.ints .u64 _), gg, ty⟩ (by omega) (Sub.less ⟨rfl, rfl, rfl, rfl, rfl, trivial⟩ (fun _ _ h => h) rfl rfl) ⟨i + 1, _, 1, by omega, hset, by decide, hfin, rfl, rfl⟩
    have d1 : decide (l.getD (off + i) 0 < v.getD i 0) = false := decide_eq_false k1
    by_cases k2 : l.getD (off + i) 0 = v.getD i 0
    · have d2 : decide (l.getD (off + i) 0 = v.getD i 0) = true := decide_eq_true k2
      rcases (show b = 0 ∨ b = 1 by omega) with rfl | rfl
      · rw [if_neg (fun h => by rcases h with h | h <;> omega)] at hfin
        have W := cj hvn (cj hout (cj w1 (cj w2 (cj w3 (cj d1 (cj d2 (cj Int.toNat_natCast (cj getRow_setRow_self Go.PV.setRow_setRow))))))))
        refine walk1 ?_
        exact Again.mk m (tkF v r off l.length full (i + 1) 0) ⟨nx, setRow rows r (.ints .u64 _), gg, ty⟩ (by omega) (Sub.less ⟨rfl, rfl, rfl, rfl, rfl, trivial⟩ (fun _ _ h => h) rfl rfl) ⟨i + 1, _, 0, by omega, hset, by decide, hfin, rfl, rfl⟩
      · rw [if_pos (.inr ⟨k2, rfl⟩)] at hfin
        have W := cj hvn (cj hout (cj w1 (cj w2 (cj w3 (cj d1 (cj d2 (cj Int.toNat_natCast (cj getRow_setRow_self Go.PV.setRow_setRow))))))))
        refine walk1 ?_
        exact Again.mk m (tkF v r off l.length full (i + 1) 1) ⟨nx, setRow rows r (.ints .u64 _), gg, ty⟩ (by omega) (Sub.less ⟨rfl, rfl, rfl, rfl, rfl, trivial⟩ (fun _ _ h => h) rfl rfl) ⟨i + 1, _, 1, by omega, hset, by decide, hfin, rfl, rfl⟩
    · have d2 : decide (l.getD (off + i) 0 = v.getD i 0) = false := decide_eq_false k2
      rw [if_neg (fun h => by rcases h with h | h <;> omega)] at hfin
      have W := cj hvn (cj hout (cj w1 (cj w2 (cj w3 (cj d1 (cj d2 (cj Int.toNat_natCast (cj getRow_setRow_self Go.PV.setRow_setRow))))))))
      refine walk1 ?_
      exact Again.mk m (tkF v r off l.length full (i + 1) 0) ⟨nx, setRow rows r (.ints .u64 _), gg, ty⟩ (by omega) (Sub.less ⟨rfl, rfl, rfl, rfl, rfl, trivial⟩ (fun _ _ h => h) rfl rfl) ⟨i + 1, _, 0, by omega, hset, by decide, hfin, rfl, rfl⟩
section
variable {P : Program} {tt : Tab}
theorem opsE_nil {all : List Oper} {F : PV.Frame} {H H1 : PV.Heap} {K : PV.Frame → PV.Heap → Prop} : opsE P tt all [] F H H1 K = K F H1 := rfl
theorem opsE_cons {all : List Oper} {o : Oper} {rest : List Oper} {F : PV.Frame} {H H1 : PV.Heap} {K : PV.Frame → PV.Heap → Prop} : opsE P tt all (o :: rest) F H H1 K = match o.op with
    | .store t p v => storeW tt t (ev F.get p) (ev F.get v) H fun H' => opsE P tt all rest (F.put o.dst (.tup [])) H H' K
    | _ => wantW all F o (stepD P tt o (ev F.get) H fun q => opsE P tt all rest (F.put o.dst q) H H1 K) (opsE P tt all rest (F.put o.dst (.tup [])) H H1 K) := by
  obtain ⟨d, op, _, _, _, _⟩ := o
  cases op <;> rfl
theorem opsX_nil {all : List Oper} {F : PV.Frame} {H : PV.Heap} {K : PV.Frame → Prop} : opsX P tt all [] F H K = K F := rfl
theorem opsX_cons {all : List Oper} {o : Oper} {rest : List Oper} {F : PV.Frame} {H : PV.Heap} {K : PV.Frame → Prop} : opsX P tt all (o :: rest) F H K = match o.op with
    | .store t p v => opsX P tt all rest (F.put o.dst (.tup [])) H K
    | _ => wantW all F o (stepD P tt o (ev F.get) H fun q => opsX P tt all rest (F.put o.dst q) H K) (opsX P tt all rest (F.put o.dst (.tup [])) H K) := by
  obtain ⟨d, op, _, _, _, _⟩ := o
  cases op <;> rfl
end
theorem getD_left {s t : List Int} {j : Nat} (h : j < s.length) : (s ++ t).getD j 0 = s.getD j 0 := by
  rw [List.getD_eq_getElem?_getD, List.getD_eq_getElem?_getD, List.getElem?_append_left h]
theorem spN_get (a : List Int) {i : Nat} : ∀ n, i < n → (spN a n).getD (2 * i) 0 = a.getD i 0 % 4294967296 ∧ (spN a n).getD (2 * i + 1) 0 = a.getD i 0 / 4294967296
  | 0, h => by omega
  | n + 1, h => by
    have hl := spN_len a n
    unfold spN
    by_cases e : i = n
    · subst e
      refine ⟨?_, ?_⟩
      · rw [getD_left (by rw [len_snoc, hl]; omega), ← hl]; exact getD_snoc _ _
      · rw [show 2 * i + 1 = (spN a i ++ [a.getD i 0 % 4294967296]).length by rw [len_snoc, hl]]; exact getD_snoc _ _
    · obtain ⟨h1, h2⟩ := spN_get a n (show i < n by omega)
      rw [getD_left (by rw [len_snoc, hl]; omega), getD_left (by rw [hl]; omega), getD_left (by rw [len_snoc, hl]; omega), getD_left (by rw [hl]; omega)]
      exact ⟨h1, h2⟩
structure HwS (r o : List Int) (i : Nat) : Prop where
  len : o.length = r.length
  eq : ∀ j, j < 2 * i → o.getD j 0 = r.getD j 0
theorem HwS.step {r o : List Int} {i : Nat} {x y : Int} (h : HwS r o i) (hi : 2 * i + 1 < r.length) (hx : r.getD (2 * i) 0 = x) (hy : r.getD (2 * i + 1) 0 = y) : HwS r ((o.set (2 * i) x).set (2 * i + 1) y) (i + 1) :=
  ⟨by rw [List.length_set, List.length_set, h.len], fun j hj => by
    have h1 := h.len
    rw [getD_set _ _ _ _ (by rw [List.length_set]; omega)]
    split
    · rename_i e; rw [e, hy]
    · rw [getD_set _ _ _ _ (by omega)]
      split
      · rename_i e; rw [e, hx]
      · exact h.eq j (by omega)⟩
theorem HwS.fin {r o : List Int} {i : Nat} (h : HwS r o i) (hi : r.length = 2 * i) : o = r := list_ext h.len fun j hj => h.eq j (by rw [h.len, hi] at hj; exact hj)
theorem ref02_half_words (a : List Int) (ha : Limbs a) (hla : a.length ≤ 100000) : Meets Tryz.prog 172 [.ints .u64 a] (.ints .u64 (spN a (size a))) := by
  have h1 := ref02_top a (by omega)
  have hsz := size_le a
  have hrl := spN_len a (size a)
  have hget := fun i h => spN_get a (i := i) (size a) h
  generalize spN a (size a) = r at *
  have w0 : IntKind.wrap .i64 (2 * ((size a : Nat) : Int)) = ((2 * size a : Nat) : Int) := by rw [wrap_i64 (by omega)]; omega
  refine meets_by ttOk Tryz.func172 Tryz.ntmps172 Tryz.results172 (by kernel_rfl) (c := _) rfl rfl rfl fun E => ?_
  simp only [argsFrame]
  have W := cj w0 Int.toNat_natCast
  refine walk1 ?_
  refine PW.loopA (fun m F H => ∃ i o, i + m = size a ∧ HwS r o i ∧ F = [(5, .int .i64 (i : Int)), (4, .sl 0 0 (2 * size a) true), (3, .int .i64 (size a : Int)), (0, .ints .u64 a)] ∧ H = ⟨1, [(0, .ints .u64 o)], [], []⟩) (size a) [(5, .int .i64 ((0 : Nat) : Int)), (4, .sl 0 0 (2 * size a) true), (3, .int .i64 (size a : Int)), (0, .ints .u64 a)] ⟨1, [(0, .ints .u64 (List.replicate (2 * size a) 0))], [], []⟩ (Sub.norm ⟨rfl, rfl, rfl, rfl, trivial⟩ ⟨rfl, trivial⟩ (Nat.le_refl _) rfl rfl rfl rfl) ⟨0, _, by omega, ⟨by simp [hrl], fun j hj => by omega⟩, rfl, rfl⟩ ?_
  rintro m F H ⟨i, o, hi, hS, rfl, rfl⟩
  have hol := hS.len
  cases m with
  | zero =>
    obtain rfl : i = size a := by omega
    obtain rfl := hS.fin hrl
    have htk : List.take (2 * size a) o = o := List.take_of_length_le (by omega)
    refine walk1 ?_
    all_goals first | omega | rw [htk]
  | succ m =>
    obtain ⟨g1, g2⟩ := hget i (by omega)
    have hx := getD_limb ha i
    simp only [B64] at hx
    have h32 := and32 (a := a.getD i 0) (by omega)
    have hst := hS.step (by omega) g1 g2
    have w1 : IntKind.wrap .i64 ((i : Int) + 1) = ((i + 1 : Nat) : Int) := wrap_i64 (by omega)
    have w2 : IntKind.wrap .i64 (2 * (i : Int)) = ((2 * i : Nat) : Int) := by rw [wrap_i64 (by omega)]; omega
    have w3 : IntKind.wrap .i64 (((2 * i : Nat) : Int) + 1) = ((2 * i + 1 : Nat) : Int) := wrap_i64 (by omega)
    have W := cj w1 (cj w2 (cj w3 (cj h32 (cj fdiv32 Int.toNat_natCast))))
    refine walk1 ?_
    exact Again.mk m [(5, .int .i64 ((i + 1 : Nat) : Int)), (4, .sl 0 0 (2 * size a) true), (3, .int .i64 (size a : Int)), (0, .ints .u64 a)] ⟨1, [(0, .ints .u64 _)], [], []⟩ (by omega) (Sub.norm ⟨rfl, rfl, rfl, rfl, trivial⟩ ⟨rfl, trivial⟩ (Nat.le_refl _) rfl rfl rfl rfl) ⟨i + 1, _, by omega, hst, rfl, rfl⟩
theorem or_words {x y : Int} (hx : 0 ≤ x ∧ x < 4294967296) (hy : 0 ≤ y ∧ y < 4294967296) : ibits .or .u64 x (y * 4294967296) = x + y * 4294967296 := by
  obtain ⟨n, rfl⟩ := Int.eq_ofNat_of_zero_le hx.1
  obtain ⟨m, rfl⟩ := Int.eq_ofNat_of_zero_le hy.1
  have h := or_nat (x := n) (y := m * 4294967296) (k := 32) (by omega) (by omega) (by omega) (by omega)
  rw [show ((m * 4294967296 : Nat) : Int) = (m : Int) * 4294967296 by omega] at h
  rw [h]; omega
abbrev t2O (x y : List Int) (i : Nat) : PV.Frame := [(8, .int .i64 (i : Int)), (7, .sl 0 0 (x.length + y.length) true), (5, .ints .u64 x), (6, .ints .u64 y)]
abbrev t2I (x y : List Int) (i j : Nat) (c : Int) : PV.Frame := [(10, .int .i64 (j : Int)), (9, .int .u64 c), (8, .int .i64 (i : Int)), (7, .sl 0 0 (x.length + y.length) true), (5, .ints .u64 x), (6, .ints .u64 y)]
structure JoS (z o : List Int) (N i : Nat) : Prop where
  len : o.length = N
  eq : ∀ j, j < i → o.getD j 0 = (jnN z N).getD j 0
theorem jnN_get (h : List Int) {i : Nat} : ∀ n, i < n → (jnN h n).getD i 0 = h.getD (2 * i) 0 + h.getD (2 * i + 1) 0 * 4294967296
  | 0, hi => by omega
  | n + 1, hi => by
    have hl := jnN_len h n
    unfold jnN
    by_cases e : i = n
    · subst e
      conv => lhs; rw [← hl]
      rw [show (jnN h (jnN h i).length) = jnN h i by rw [hl]]
      rw [getD_snoc, hl]
    · rw [getD_left (by rw [hl]; omega)]
      exact jnN_get h n (by omega)
theorem JoS.step {z o : List Int} {N i : Nat} (h : JoS z o N i) (hi : i < N) : JoS z (o.set i (z.getD (2 * i) 0 + z.getD (2 * i + 1) 0 * 4294967296)) N (i + 1) :=
  ⟨by rw [List.length_set, h.len], fun j hj => by
    rw [getD_set _ _ _ _ (by rw [h.len]; exact hi)]
    split
    · rename_i e; rw [e, jnN_get z N hi]
    · exact h.eq j (by omega)⟩
theorem JoS.fin {z o : List Int} {N : Nat} (h : JoS z o N N) : o = jnN z N := list_ext (by rw [h.len, jnN_len]) fun j hj => h.eq j (by rw [h.len] at hj; exact hj)
theorem times02_walk (a b x y : List Int) (N : Nat) (ha : Meets Tryz.prog 172 [.ints .u64 a] (.ints .u64 x)) (hb : Meets Tryz.prog 172 [.ints .u64 b] (.ints .u64 y)) (hx : Words x) (hy : Words y) (hxl : x.length ≤ 1000000) (hyl : y.length ≤ 1000000) (hN : x.length + y.length = 2 * N) (v : Nat) (hv : wal x * wal y = v) :
    Meets Tryz.prog 166 [.ints .u64 a, .ints .u64 b] (.ints .u64 (natL v)) := by
  have w0 : IntKind.wrap .i64 ((x.length : Int) + (y.length : Int)) = ((x.length + y.length : Nat) : Int) := by rw [wrap_i64 (by omega)]; omega
  have hlim : ∀ o, MulOutW x y o x.length → Meets Tryz.prog 107 [.ints .u64 (jnN o N)] (.ints .u64 (natL v)) := fun o hS => by
    have h := ref02_short (jnN o N) (by rw [jnN_len]; omega)
    rw [trim_natLv (jnN_limbs hS.lim N) (v := v) (by rw [jnN_val, ← hN, hS.eq]; exact hv)] at h
    exact h
  generalize natL v = res at *
  clear hv
  refine meets_by ttOk Tryz.func166 Tryz.ntmps166 Tryz.results166 (by kernel_rfl) (c := _) rfl rfl rfl fun E => ?_
  simp only [argsFrame]
  have W := cj w0 Int.toNat_natCast
  refine walk1 ?_
  refine PW.loopA (fun m F H => ∃ i o, i + m = x.length ∧ MulOutW x y o i ∧ F = t2O x y i ∧ H = ⟨1, [(0, .ints .u64 o)], [], []⟩) x.length (t2O x y 0) ⟨1, [(0, .ints .u64 (List.replicate (x.length + y.length) 0))], [], []⟩ (Sub.norm ⟨rfl, rfl, rfl, rfl, trivial⟩ ⟨rfl, trivial⟩ (Nat.le_refl _) rfl rfl rfl rfl) ⟨0, _, by omega, mul_beginW x y, rfl, rfl⟩ ?_
  rintro m F H ⟨i, o, hi, hS, rfl, rfl⟩
  have hol := hS.len
  cases m with
  | zero =>
    obtain rfl : i = x.length := by omega
    have hm := hlim o hS
    have how := hS.lim
    have w1 : IntKind.wrap .i64 (Int.tdiv ((x.length + y.length : Nat) : Int) 2) = (N : Int) := by rw [hN, show (2 : Int) = ((2 : Nat) : Int) from rfl, ← Int.ofNat_tdiv, Nat.mul_div_cancel_left _ (by decide)]; exact wrap_i64 (by omega)
    have W := cj w1 Int.toNat_natCast
    refine walk1 ?_
    refine PW.loopA (fun m F H => ∃ i q, i + m = N ∧ JoS o q N i ∧ F = [(13, .int .i64 (i : Int)), (12, .sl 1 0 N true), (7, .sl 0 0 (x.length + y.length) true)] ∧ H = ⟨2, [(0, .ints .u64 o), (1, .ints .u64 q)], [], []⟩) N [(13, .int .i64 ((0 : Nat) : Int)), (12, .sl 1 0 N true), (7, .sl 0 0 (x.length + y.length) true)] ⟨2, [(0, .ints .u64 o), (1, .ints .u64 (List.replicate N 0))], [], []⟩ (Sub.norm ⟨rfl, rfl, rfl, trivial⟩ ⟨rfl, rfl, trivial⟩ (Nat.le_refl _) rfl rfl rfl rfl) ⟨0, _, by omega, ⟨by simp, fun j hj => by omega⟩, rfl, rfl⟩ ?_
    clear hi hS
    rintro m F H ⟨i, q, hi, hS, rfl, rfl⟩
    have hql := hS.len
    cases m with
    | zero =>
      obtain rfl : i = N := by omega
      rw [← hS.fin] at hm
      have htk : List.take i q = q := List.take_of_length_le (by omega)
      repeat' first
        | (with_reducible first | refine PW.seq ?_ | refine PW.block ?_ | refine PW.fork ?_ | refine PW.skip ?_ | refine PW.exit ?_ | refine PW.ret ?_ | refine PW.scope ?_ | refine PW.label ?_ | refine PW.goto ?_)
        | (simp only [htk])
        | (with_reducible refine PW.region ttOk ?_ ?_
           · rfl)
        | (with_reducible refine PW.regionD ttOk mixed ?_ ?_ ?_
           · rfl
           · rfl)
        | (with_reducible refine ifW_dec (fun g => ?_) (fun g => ?_) <;> first | (exfalso; omega) | (simp -dsimp only [g, wkI]))
        | (with_reducible refine condE_dec (fun g => ?_) (fun g => ?_) <;> try (exfalso; omega))
        | (with_reducible refine condE_not (fun g => ?_) (fun g => ?_) <;> try (exfalso; omega))
        | (simp -dsimp only [↓wkA, ↓wkE, ↓wkJ, wkB, ↓tt, Nat.reduceBEq, Nat.reduceEqDiff, ↓reduceIte, Nat.reduceLT, Array.toList, Nat.reduceAdd, Nat.reduceMul, Int.reduceToNat, Int.reducePow, UInt8.reduceToNat])
        | (refine call_drop (args' := [.ints .u64 q]) (by simp -dsimp only [↓wkA, ↓wkE, ↓wkJ, wkB, ↓tt, Nat.reduceBEq, Nat.reduceEqDiff, ↓reduceIte, Nat.reduceLT, Array.toList, Nat.reduceAdd, Nat.reduceMul, Int.reduceToNat, Int.reducePow, UInt8.reduceToNat] <;> rw [htk]) hm (by simp -dsimp only [okViews, ↓wkA, ↓wkE, ↓wkJ, wkB, ↓tt, Nat.reduceBEq, Nat.reduceEqDiff, ↓reduceIte, Nat.reduceLT, Array.toList, Nat.reduceAdd, Nat.reduceMul, Int.reduceToNat, Int.reducePow, UInt8.reduceToNat] <;> omega) rfl ?_)
        | (simp -dsimp (disch := first | assumption | omega) only [dec_t, dec_f])
        | (refine andI ?_)
        | (simp (disch := omega) only [wkW, Int.reduceToNat, Int.reducePow])
        | fail
    | succ m =>
      have h1 := getD_word how (2 * i)
      have h2 := getD_word how (2 * i + 1)
      simp only [B32] at h1 h2
      have hst := hS.step (by omega)
      have w2 : IntKind.wrap .i64 ((i : Int) + 1) = ((i + 1 : Nat) : Int) := wrap_i64 (by omega)
      have w3 : IntKind.wrap .i64 (2 * (i : Int)) = ((2 * i : Nat) : Int) := by rw [wrap_i64 (by omega)]; omega
      have w4 : IntKind.wrap .i64 (((2 * i : Nat) : Int) + 1) = ((2 * i + 1 : Nat) : Int) := wrap_i64 (by omega)
      have w5 : IntKind.wrap .u64 (o.getD (2 * i + 1) 0 * 2 ^ min 32 64) = o.getD (2 * i + 1) 0 * 4294967296 := by rw [show (2 : Int) ^ min 32 64 = 4294967296 from rfl]; exact wrap_u64 (by omega)
      have h3 := or_words h1 h2
      repeat' first
        | (with_reducible first | refine PW.seq ?_ | refine PW.block ?_ | refine PW.fork ?_ | refine PW.skip ?_ | refine PW.exit ?_ | refine PW.ret ?_ | refine PW.scope ?_ | refine PW.label ?_ | refine PW.goto ?_)
        | (simp only [w2, w3, w4, w5, h3, Int.toNat_natCast])
        | (with_reducible refine PW.region ttOk ?_ ?_
           · rfl)
        | (with_reducible refine PW.regionS ttOk mixed ?_ ?_ ?_ ?_
           · rfl
           · rfl
           · rfl)
        | (with_reducible refine PW.regionD ttOk mixed ?_ ?_ ?_
           · rfl
           · rfl)
        | (with_reducible refine ifW_dec (fun g => ?_) (fun g => ?_) <;> first | (exfalso; omega) | (simp -dsimp only [g, wkI]))
        | (with_reducible refine condE_dec (fun g => ?_) (fun g => ?_) <;> try (exfalso; omega))
        | (with_reducible refine condE_not (fun g => ?_) (fun g => ?_) <;> try (exfalso; omega))
        | (simp -dsimp only [↓opsE_nil, ↓opsE_cons, ↓opsX_nil, ↓opsX_cons, same_self, and_true, true_and, ↓wkA, ↓wkE, ↓wkJ, wkB, ↓tt, Nat.reduceBEq, Nat.reduceEqDiff, ↓reduceIte, Nat.reduceLT, Array.toList, Nat.reduceAdd, Nat.reduceMul, Int.reduceToNat, Int.reducePow, UInt8.reduceToNat])
        | (with_reducible_and_instances refine And.intro rfl ?_)
        | (refine And.intro (Eq.refl 1) ?_)
        | (simp -dsimp (disch := first | assumption | omega) only [dec_t, dec_f])
        | (refine andI ?_)
        | (simp (disch := omega) only [wkW, Int.reduceToNat, Int.reducePow])
        | fail
      exact Again.mk m [(13, .int .i64 ((i + 1 : Nat) : Int)), (12, .sl 1 0 N true), (7, .sl 0 0 (x.length + y.length) true)] ⟨2, [(0, .ints .u64 o), (1, .ints .u64 _)], [], []⟩ (by omega) (Sub.norm ⟨rfl, rfl, rfl, trivial⟩ ⟨rfl, rfl, trivial⟩ (Nat.le_refl _) rfl rfl rfl rfl) ⟨i + 1, _, by omega, hst, rfl, rfl⟩
  | succ m =>
    have w1 : IntKind.wrap .i64 ((i : Int) + 1) = ((i + 1 : Nat) : Int) := wrap_i64 (by omega)
    have w2 : IntKind.wrap .i64 ((i : Int) + (y.length : Int)) = ((i + y.length : Nat) : Int) := by rw [wrap_i64 (by omega)]; omega
    refine walk1 ?_
    refine PW.loopA (fun m F H => ∃ j q c, j + m = y.length ∧ MulInW x y o q i j c ∧ F = t2I x y i j c ∧ H = ⟨1, [(0, .ints .u64 q)], [], []⟩) y.length (t2I x y i 0 0) ⟨1, [(0, .ints .u64 o)], [], []⟩ (Sub.norm ⟨rfl, rfl, rfl, rfl, rfl, rfl, trivial⟩ ⟨rfl, trivial⟩ (Nat.le_refl _) rfl rfl rfl rfl) ⟨0, o, 0, by omega, MulInW.start hS, rfl, rfl⟩ ?_
    rintro k F H ⟨j, q, c, hj, hq, rfl, rfl⟩
    have hql := hq.len
    have hcar := hq.car
    cases k with
    | zero =>
      obtain rfl : j = y.length := by omega
      have hf := hq.fin hS (by omega)
      have W := cj w1 (cj w2 Int.toNat_natCast)
      refine walk1 ?_
      exact Again.mk m (t2O x y (i + 1)) ⟨1, [(0, .ints .u64 _)], [], []⟩ (by omega) (Sub.norm ⟨rfl, rfl, rfl, rfl, trivial⟩ ⟨rfl, trivial⟩ (by simp) rfl rfl rfl rfl) ⟨i + 1, _, by omega, hf, rfl, rfl⟩
    | succ k =>
      have h1 := getD_word hx i
      have h2 := getD_word hy j
      have h3 := getD_word hq.lim (i + j)
      simp only [B32] at h1 h2 h3 hcar
      have hm := mul_word h1 h2
      have hst := hq.step (by omega) (by omega) rfl (by simp only [B32]; omega)
      have w3 : IntKind.wrap .i64 ((i : Int) + (j : Int)) = ((i + j : Nat) : Int) := by rw [wrap_i64 (by omega)]; omega
      have w4 : IntKind.wrap .i64 ((j : Int) + 1) = ((j + 1 : Nat) : Int) := wrap_i64 (by omega)
      have w5 : IntKind.wrap .u64 (x.getD i 0 * y.getD j 0) = x.getD i 0 * y.getD j 0 := wrap_u64 (by omega)
      have w6 : IntKind.wrap .u64 (x.getD i 0 * y.getD j 0 + q.getD (i + j) 0) = x.getD i 0 * y.getD j 0 + q.getD (i + j) 0 := wrap_u64 (by omega)
      have w7 : IntKind.wrap .u64 (x.getD i 0 * y.getD j 0 + q.getD (i + j) 0 + c) = x.getD i 0 * y.getD j 0 + q.getD (i + j) 0 + c := wrap_u64 (by omega)
      have h4 := and32 (a := x.getD i 0 * y.getD j 0 + q.getD (i + j) 0 + c) (by omega)
      have W := cj w3 (cj w4 (cj w5 (cj w6 (cj w7 (cj h4 (cj fdiv32 Int.toNat_natCast))))))
      refine walk1 ?_
      exact Again.mk k (t2I x y i (j + 1) _) ⟨1, [(0, .ints .u64 _)], [], []⟩ (by omega) (Sub.norm ⟨rfl, rfl, rfl, rfl, rfl, rfl, trivial⟩ ⟨rfl, trivial⟩ (by simp) rfl rfl rfl rfl) ⟨j + 1, _, _, by omega, hst, rfl, rfl⟩
theorem ref02_times {a b : List Int} (ha : Limbs a) (hb : Limbs b) (hla : a.length ≤ 100000) (hlb : b.length ≤ 100000) {u v : Nat} (hu : val a = u) (hv : val b = v) : Meets Tryz.prog 166 [.ints .u64 a, .ints .u64 b] (.ints .u64 (natL (u * v))) := by
  have z1 := size_le a
  have z2 := size_le b
  refine times02_walk a b _ _ (size a + size b) (ref02_half_words a ha hla) (ref02_half_words b hb hlb) (spN_words ha _) (spN_words hb _) (by rw [spN_len]; omega) (by rw [spN_len]; omega) (by rw [spN_len, spN_len]; omega) _ ?_
  rw [spN_wal, spN_wal, vt_size, vt_size, hu, hv, Int.natCast_mul]
theorem natL_len_le {v n : Nat} (h : v < 18446744073709551616 ^ n) : (natL v).length ≤ n := by
  refine Nat.le_of_not_lt fun h1 => ?_
  have h0 : v ≠ 0 := fun e => by rw [e, natL_zero] at h1; exact absurd h1 (by simp)
  obtain ⟨_, h2⟩ := natL_ge h0
  exact absurd (Nat.lt_of_le_of_lt h2 h) (Nat.not_lt.2 (Nat.pow_le_pow_right (by decide) (by omega)))
theorem pow_small {β n : Nat} (hβ : β ≤ 10) (hn : n ≤ 10000) : (natL (β ^ n)).length ≤ 700 := by
  refine natL_len_le ?_
  refine Nat.lt_of_le_of_lt (Nat.pow_le_pow_left hβ n) (Nat.lt_of_le_of_lt (Nat.pow_le_pow_right (by decide) hn) ?_)
  decide +kernel
theorem ref02_power (β : Nat) (hβ : 2 ≤ β ∧ β ≤ 10) : ∀ n : Nat, n ≤ 10000 → Meets Tryz.prog 153 [.ints .u64 [(β : Int)], .int .i64 (n : Int)] (.tup [.ints .u64 (natL (β ^ n)), .bool true]) := by
  intro n
  induction n using Nat.strongRecOn with
  | _ n ih =>
    intro hn
    by_cases h0 : n = 0
    · subst h0
      rw [Nat.pow_zero, natL_oneL]
      refine meets_by ttOk Tryz.func153 Tryz.ntmps153 Tryz.results153 (by kernel_rfl) (c := _) rfl rfl rfl fun E => ?_
      simp only [argsFrame]
      refine walk1 ?_
      all_goals simp
    have hr := ih (n / 2) (by omega) (by omega)
    have l1 := pow_small (n := n / 2) hβ.2 (by omega)
    have l2 := pow_small (n := n / 2 + n / 2) hβ.2 (by omega)
    have l3 := pow_small hβ.2 hn
    have hb := limbs_one (x := β) (by omega)
    have ht := ref02_times (natL_limbs (β ^ (n / 2))) (natL_limbs (β ^ (n / 2))) (by omega) (by omega) (val_natL _) (val_natL _)
    rw [← Nat.pow_add] at ht
    have h2 := ref02_times (natL_limbs (β ^ (n / 2 + n / 2))) hb.1 (by omega) (by simp) (val_natL _) hb.2
    have htop := ref02_top [(β : Int)] (by simp)
    have hsz : size [(β : Int)] = 1 := by
      unfold size
      show sizeN [(β : Int)] (0 + 1) = 1
      unfold sizeN
      rw [if_neg (by show ¬ (β : Int) = 0; omega)]
    rw [hsz] at htop
    have wq : IntKind.wrap .i64 (Int.tdiv (n : Int) 2) = ((n / 2 : Nat) : Int) := by rw [show (2 : Int) = ((2 : Nat) : Int) from rfl, ← Int.ofNat_tdiv]; exact wrap_i64 (by omega)
    have wr : Int.tmod (n : Int) 2 = ((n % 2 : Nat) : Int) := by rw [tmod_pos (by omega)]; omega
    have d0 : decide ((n : Int) = 0) = false := decide_eq_false (by omega)
    have e1 : β ^ n = if n % 2 = 1 then β ^ (n / 2 + n / 2) * β else β ^ (n / 2 + n / 2) := by
      split
      · rw [← Nat.pow_succ]; congr 1; omega
      · congr 1; omega
    generalize β ^ (n / 2 + n / 2) * β = p2 at *
    generalize β ^ (n / 2 + n / 2) = p1 at *
    generalize β ^ (n / 2) = p0 at *
    generalize β ^ n = pn at *
    rcases (show n % 2 = 0 ∨ n % 2 = 1 by omega) with hp | hp
    · rw [hp] at e1 wr
      rw [if_neg (by decide)] at e1
      subst e1
      generalize natL p0 = a0 at *
      generalize natL pn = a1 at *
      have d1 : decide (4096 < IntKind.wrap .i64 (IntKind.wrap .i64 (2 * (a0.length : Int)) - 1)) = false := decide_eq_false (by rw [wrap_i64 (n := 2 * (a0.length : Int)) (by omega), wrap_i64 (by omega)]; omega)
      refine meets_by ttOk Tryz.func153 Tryz.ntmps153 Tryz.results153 (by kernel_rfl) (c := _) rfl rfl rfl fun E => ?_
      simp only [argsFrame]
      have W := cj d0 (cj d1 (cj wq wr))
      exact walk
    · rw [hp] at e1 wr
      rw [if_pos rfl] at e1
      subst e1
      generalize natL p0 = a0 at *
      generalize natL p1 = a1 at *
      generalize natL pn = a2 at *
      have d1 : decide (4096 < IntKind.wrap .i64 (IntKind.wrap .i64 (2 * (a0.length : Int)) - 1)) = false := decide_eq_false (by rw [wrap_i64 (n := 2 * (a0.length : Int)) (by omega), wrap_i64 (by omega)]; omega)
      have d2 : decide (4096 < IntKind.wrap .i64 (IntKind.wrap .i64 ((a1.length : Int) + ((1 : Nat) : Int)) - 1)) = false := decide_eq_false (by rw [wrap_i64 (n := (a1.length : Int) + ((1 : Nat) : Int)) (by omega), wrap_i64 (by omega)]; omega)
      have d3 : decide (4096 < IntKind.wrap .i64 (IntKind.wrap .i64 ((a1.length : Int) + 1) - 1)) = false := d2
      refine meets_by ttOk Tryz.func153 Tryz.ntmps153 Tryz.results153 (by kernel_rfl) (c := _) rfl rfl rfl fun E => ?_
      simp only [argsFrame]
      have W := cj d0 (cj d1 (cj d2 (cj d3 (cj wq wr))))
      exact walk
theorem ref02_pow (β n : Nat) (hβ : 2 ≤ β ∧ β ≤ 10) (hn : n ≤ 10000) : Meets Tryz.prog 117 [.ints .u64 [(β : Int)], .int .i64 (n : Int)] (.tup [.ints .u64 (natL (β ^ n)), .int .i64 0]) := by
  have hb := limbs_one (x := β) (by omega)
  have h1 : Limbs [(1 : Int)] ∧ val [(1 : Int)] = ((1 : Nat) : Int) := limbs_one (x := 1) (by decide)
  have hs := ref02_same [(β : Int)] [1] hb.1 h1.1 (by simp) (by simp)
  have hne : decide (cmpN [(β : Int)] [1] = 0) = false := decide_eq_false (by
    rw [cmpN_nat hb.2 h1.2, if_neg (by omega), if_pos (by omega)]; decide)
  rw [hne] at hs
  have htop := ref02_top [(β : Int)] (by simp)
  have hsz : size [(β : Int)] = 1 := by
    unfold size
    show sizeN [(β : Int)] (0 + 1) = 1
    unfold sizeN
    rw [if_neg (by show ¬ (β : Int) = 0; omega)]
  rw [hsz] at htop
  have hp := ref02_power β hβ n hn
  by_cases h0 : n = 0
  · subst h0
    rw [Nat.pow_zero, natL_oneL]
    refine meets_by ttOk Tryz.func117 Tryz.ntmps117 Tryz.results117 (by kernel_rfl) (c := _) rfl rfl rfl fun E => ?_
    simp only [argsFrame]
    refine walk1 ?_
    all_goals simp
  · have d0 : decide ((n : Int) = 0) = false := decide_eq_false (by omega)
    generalize natL (β ^ n) = r at *
    refine meets_by ttOk Tryz.func117 Tryz.ntmps117 Tryz.results117 (by kernel_rfl) (c := _) rfl rfl rfl fun E => ?_
    simp only [argsFrame]
    repeat' first
      | (with_reducible first | refine PW.seq ?_ | refine PW.block ?_ | refine PW.fork ?_ | refine PW.skip ?_ | refine PW.exit ?_ | refine PW.ret ?_ | refine PW.scope ?_ | refine PW.label ?_ | refine PW.goto ?_)
      | (simp only [d0])
      | (with_reducible refine PW.region ttOk ?_ ?_
         · rfl)
      | (with_reducible refine PW.regionD ttOk mixed ?_ ?_ ?_
         · rfl
         · rfl)
      | (with_reducible refine ifW_dec (fun g => ?_) (fun g => ?_) <;> first | (exfalso; omega) | (simp -dsimp only [g, wkI]))
      | (with_reducible refine condE_dec (fun g => ?_) (fun g => ?_) <;> try (exfalso; omega))
      | (with_reducible refine condE_not (fun g => ?_) (fun g => ?_) <;> try (exfalso; omega))
      | (simp -dsimp only [↓wkA, ↓wkE, ↓wkJ, wkB, ↓tt, Nat.reduceBEq, Nat.reduceEqDiff, ↓reduceIte, Nat.reduceLT, Array.toList, Nat.reduceAdd, Nat.reduceMul, Int.reduceToNat, Int.reducePow, UInt8.reduceToNat])
      | (refine call_by (htop) (views_data rfl) ⟨trivial, trivial⟩ rfl ?_)
      | (refine call_by (hp) (views_data rfl) ⟨trivial, trivial, trivial⟩ rfl ?_)
      | (refine call_by' (args' := [.ints .u64 [(β : Int)], .ints .u64 [1]]) rfl hs ⟨trivial, Nat.le_refl _, trivial⟩ rfl ?_)
      | (simp -dsimp (disch := first | assumption | omega) only [dec_t, dec_f])
      | (refine andI ?_)
      | (simp (disch := omega) only [wkW, Int.reduceToNat, Int.reducePow])
      | fail
theorem ref02_pow5 (n : Nat) (hn : n ≤ 10000) : Meets Tryz.prog 79 [.int .i64 (n : Int)] (.tup [.ints .u64 (natL (5 ^ n)), .int .i64 0]) := by
  have h1 := ref02_pow 5 n (by decide) hn
  generalize natL (5 ^ n) = r at *
  refine meets_by ttOk Tryz.func79 Tryz.ntmps79 Tryz.results79 (by kernel_rfl) (c := _) rfl rfl rfl fun E => ?_
  simp only [argsFrame]
  repeat' first
    | (with_reducible first | refine PW.seq ?_ | refine PW.block ?_ | refine PW.fork ?_ | refine PW.skip ?_ | refine PW.exit ?_ | refine PW.ret ?_ | refine PW.scope ?_ | refine PW.label ?_ | refine PW.goto ?_)
    | (with_reducible refine PW.region ttOk ?_ ?_
       · rfl)
    | (with_reducible refine PW.regionD ttOk mixed ?_ ?_ ?_
       · rfl
       · rfl)
    | (with_reducible refine ifW_dec (fun g => ?_) (fun g => ?_) <;> first | (exfalso; omega) | (simp -dsimp only [g, wkI]))
    | (with_reducible refine condE_dec (fun g => ?_) (fun g => ?_) <;> try (exfalso; omega))
    | (with_reducible refine condE_not (fun g => ?_) (fun g => ?_) <;> try (exfalso; omega))
    | (simp -dsimp only [↓wkA, ↓wkE, ↓wkJ, wkB, ↓tt, Nat.reduceBEq, Nat.reduceEqDiff, ↓reduceIte, Nat.reduceLT, Array.toList, Nat.reduceAdd, Nat.reduceMul, Int.reduceToNat, Int.reducePow, UInt8.reduceToNat])
    | (refine call_drop (args' := [.ints .u64 [5], .int .i64 (n : Int)]) rfl h1 ⟨Nat.le_refl _, trivial, trivial⟩ rfl ?_; simp only [wkD, Nat.reduceBEq])
    | (simp -dsimp (disch := first | assumption | omega) only [dec_t, dec_f])
    | (refine andI ?_)
    | (simp (disch := omega) only [wkW, Int.reduceToNat, Int.reducePow])
    | fail
theorem ref02_pow10 (n : Nat) (hn : n ≤ 10000) : Meets Tryz.prog 144 [.int .i64 (n : Int)] (.tup [.ints .u64 (natL (10 ^ n)), .int .i64 0]) := by
  have h1 := ref02_pow 10 n (by decide) hn
  generalize natL (10 ^ n) = r at *
  refine meets_by ttOk Tryz.func144 Tryz.ntmps144 Tryz.results144 (by kernel_rfl) (c := _) rfl rfl rfl fun E => ?_
  simp only [argsFrame]
  repeat' first
    | (with_reducible first | refine PW.seq ?_ | refine PW.block ?_ | refine PW.fork ?_ | refine PW.skip ?_ | refine PW.exit ?_ | refine PW.ret ?_ | refine PW.scope ?_ | refine PW.label ?_ | refine PW.goto ?_)
    | (with_reducible refine PW.region ttOk ?_ ?_
       · rfl)
    | (with_reducible refine PW.regionD ttOk mixed ?_ ?_ ?_
       · rfl
       · rfl)
    | (with_reducible refine ifW_dec (fun g => ?_) (fun g => ?_) <;> first | (exfalso; omega) | (simp -dsimp only [g, wkI]))
    | (with_reducible refine condE_dec (fun g => ?_) (fun g => ?_) <;> try (exfalso; omega))
    | (with_reducible refine condE_not (fun g => ?_) (fun g => ?_) <;> try (exfalso; omega))
    | (simp -dsimp only [↓wkA, ↓wkE, ↓wkJ, wkB, ↓tt, Nat.reduceBEq, Nat.reduceEqDiff, ↓reduceIte, Nat.reduceLT, Array.toList, Nat.reduceAdd, Nat.reduceMul, Int.reduceToNat, Int.reducePow, UInt8.reduceToNat])
    | (refine call_drop (args' := [.ints .u64 [10], .int .i64 (n : Int)]) rfl h1 ⟨Nat.le_refl _, trivial, trivial⟩ rfl ?_; simp only [wkD, Nat.reduceBEq])
    | (simp -dsimp (disch := first | assumption | omega) only [dec_t, dec_f])
    | (refine andI ?_)
    | (simp (disch := omega) only [wkW, Int.reduceToNat, Int.reducePow])
    | fail
def cmpU (u v : Nat) : Int := if u < v then -1 else if v < u then 1 else 0
theorem cmpU_nat {a b : List Int} {u v : Nat} (hu : val a = u) (hv : val b = v) : cmpN a b = cmpU u v := by
  unfold cmpN cmpU
  rw [hu, hv]
  by_cases h : u < v
  · rw [if_pos (by omega), if_pos h]
  · rw [if_neg (by omega), if_neg h]
    by_cases h : v < u
    · rw [if_pos (by omega), if_pos h]
    · rw [if_neg (by omega), if_neg h]
theorem cmpU_cases (u v : Nat) : (cmpU u v = -1 ∧ u < v) ∨ (cmpU u v = 0 ∧ u = v) ∨ (cmpU u v = 1 ∧ v < u) := by
  unfold cmpU
  split
  · exact .inl ⟨rfl, by assumption⟩
  · split
    · exact .inr (.inr ⟨rfl, by assumption⟩)
    · exact .inr (.inl ⟨rfl, by omega⟩)
theorem cmp_natU {u v : Nat} (hu : u < NMax) (hv : v < NMax) : Meets Tryz.prog 55 [.ints .u64 (natL u), .ints .u64 (natL v)] (.int .i64 (cmpU u v)) := by
  have l1 := natL_small hu
  have l2 := natL_small hv
  have h := nat_cmp (natL u) (natL v) (natL_limbs u) (natL_limbs v) (by omega) (by omega)
  rw [cmpU_nat (val_natL u) (val_natL v)] at h
  exact h
def hdB (lo hi x : Nat) (cl : Bool) : Bool := decide (cmpU lo x < 0) && decide (cmpU x hi < 0) || (cl && decide (cmpU lo x ≤ 0) && decide (cmpU x hi ≤ 0))
theorem hdB_iff {lo hi x : Nat} {cl : Bool} : hdB lo hi x cl = true ↔ (lo < x ∧ x < hi) ∨ (cl = true ∧ lo ≤ x ∧ x ≤ hi) := by
  unfold hdB
  rcases cmpU_cases lo x with ⟨h1, h2⟩ | ⟨h1, h2⟩ | ⟨h1, h2⟩ <;> rcases cmpU_cases x hi with ⟨h3, h4⟩ | ⟨h3, h4⟩ | ⟨h3, h4⟩ <;> rw [h1, h3] <;> cases cl <;> simp <;> omega
theorem span_holds (lo V hi B k : Nat) (cl : Bool) (hlo : lo < NMax) (hhi : hi < NMax) (hB : B < NMax) (hk : k < NMax) (hkB : k * B < NMax) :
    Meets Tryz.prog 58 [.agg [.ints .u64 (natL lo), .ints .u64 (natL V), .ints .u64 (natL hi), .ints .u64 (natL B), .bool cl], .ints .u64 (natL k)] (.bool (hdB lo hi (k * B) cl)) := by
  have h1 := short_mul hk hB hkB
  have h2 := cmp_natU hlo hkB
  have h3 := cmp_natU hkB hhi
  unfold hdB
  have c1 := cmpU_cases lo (k * B)
  have c2 := cmpU_cases (k * B) hi
  generalize cmpU lo (k * B) = x at *
  generalize cmpU (k * B) hi = y at *
  generalize natL (k * B) = P at *
  generalize natL lo = L1 at *
  generalize natL V = L2 at *
  generalize natL hi = L3 at *
  generalize natL B = L4 at *
  generalize natL k = L5 at *
  rcases c1 with ⟨rfl, _⟩ | ⟨rfl, _⟩ | ⟨rfl, _⟩
  all_goals rcases c2 with ⟨rfl, _⟩ | ⟨rfl, _⟩ | ⟨rfl, _⟩
  all_goals cases cl
  all_goals (refine meets_by ttOk Tryz.func58 Tryz.ntmps58 Tryz.results58 (by kernel_rfl) (c := _) rfl rfl rfl fun E => ?_; simp only [argsFrame])
  all_goals
    refine walk1 ?_
  all_goals rfl
def GeT (m : Nat) (e k : Int) : Prop := beS e k ≤ m * upS e k
instance (m : Nat) (e k : Int) : Decidable (GeT m e k) := by unfold GeT; infer_instance
theorem ge_step {m : Nat} {e k : Int} (h : GeT m e (k + 1)) : GeT m e k := by
  unfold GeT beS upS at *
  by_cases hk : 0 ≤ k
  · rw [show (k + 1).toNat = k.toNat + 1 by omega, show (-(k + 1)).toNat = 0 by omega, Nat.pow_succ] at h
    rw [show (-k).toNat = 0 by omega]
    refine Nat.le_trans (Nat.mul_le_mul_left _ (Nat.le_mul_of_pos_right _ (by decide))) h
  · rw [show (k + 1).toNat = 0 by omega] at h
    rw [show k.toNat = 0 by omega, show (-k).toNat = (-(k + 1)).toNat + 1 by omega, Nat.pow_succ]
    refine Nat.le_trans h (Nat.mul_le_mul_left _ (Nat.mul_le_mul_left _ (Nat.le_mul_of_pos_right _ (by decide))))
theorem ge_mono {m : Nat} {e : Int} : ∀ (n : Nat) {k : Int}, GeT m e (k + n) → GeT m e k
  | 0, k, h => by rw [show k + ((0 : Nat) : Int) = k by omega] at h; exact h
  | n + 1, k, h => ge_mono n (ge_step (by rw [show k + ((n : Nat) : Int) + 1 = k + ((n + 1 : Nat) : Int) by omega]; exact h))
theorem ge_le {m : Nat} {e k l : Int} (h : GeT m e k) (hl : l ≤ k) : GeT m e l := ge_mono (k - l).toNat (by rw [show l + (((k - l).toNat : Nat) : Int) = k by omega]; exact h)
structure Ten (m : Nat) (e k : Int) : Prop where
  lo : GeT m e k
  hi : ¬ GeT m e (k + 1)
theorem ten_ex {m : Nat} {e : Int} : ∀ (n : Nat) {a : Int}, GeT m e a → ¬ GeT m e (a + n) → ∃ k, a ≤ k ∧ k < a + n ∧ Ten m e k
  | 0, a, h1, h2 => absurd (by rw [show a + ((0 : Nat) : Int) = a by omega]; exact h1) h2
  | n + 1, a, h1, h2 => by
    by_cases h : GeT m e (a + 1)
    · obtain ⟨k, h3, h4, h5⟩ := ten_ex n h (by rw [show a + 1 + ((n : Nat) : Int) = a + ((n + 1 : Nat) : Int) by omega]; exact h2)
      exact ⟨k, by omega, by omega, h5⟩
    · exact ⟨a, by omega, by omega, h1, h⟩
theorem ge_low {m : Nat} {e : Int} (hm : 1 ≤ m) (he : -1100 ≤ e) : GeT m e (-400) := by
  unfold GeT beS upS
  rw [show (-400 : Int).toNat = 0 by decide, show (-(-400) : Int).toNat = 400 by decide, Nat.pow_zero, Nat.mul_one]
  refine Nat.le_trans (Nat.pow_le_pow_right (by decide) (show (-e).toNat ≤ 1100 by omega)) ?_
  refine Nat.le_trans (show 2 ^ 1100 ≤ 1 * (1 * 10 ^ 400) by decide +kernel) (Nat.mul_le_mul hm (Nat.mul_le_mul_right _ (Nat.two_pow_pos _)))
theorem ge_high {m : Nat} {e : Int} (hm : m < 2 ^ 60) (he : e ≤ 1000) : ¬ GeT m e 400 := by
  unfold GeT beS upS
  rw [show (400 : Int).toNat = 400 by decide, show (-400 : Int).toNat = 0 by decide, Nat.pow_zero, Nat.mul_one]
  refine Nat.not_le.2 (Nat.lt_of_lt_of_le (Nat.mul_lt_mul_of_lt_of_le hm (Nat.pow_le_pow_right (by decide) (show e.toNat ≤ 1000 by omega)) (Nat.two_pow_pos _)) ?_)
  refine Nat.le_trans (show 2 ^ 60 * 2 ^ 1000 ≤ 1 * 10 ^ 400 by decide +kernel) (Nat.mul_le_mul_right _ (Nat.two_pow_pos _))
theorem ten_of {m : Nat} {e : Int} (hm : 1 ≤ m) (hm2 : m < 2 ^ 60) (he : -1100 ≤ e ∧ e ≤ 1000) : ∃ k, -400 ≤ k ∧ k < 400 ∧ Ten m e k := by
  obtain ⟨k, h1, h2, h3⟩ := ten_ex 800 (ge_low hm he.1) (by rw [show (-400 : Int) + ((800 : Nat) : Int) = 400 by decide]; exact ge_high hm2 he.2)
  exact ⟨k, h1, by omega, h3⟩
def startS (z : Int) : Int := (z * 30103).tdiv 100000 - 2
def startOk (i : Nat) : Bool :=
  let z : Int := (i : Int) - 1074
  Nat.ble (2 ^ (-z).toNat * 10 ^ (startS z).toNat) (2 ^ z.toNat * 10 ^ (-(startS z)).toNat) && decide (-340 ≤ startS z)
theorem start_table : (List.range 2100).all startOk = true := by decide +kernel
theorem start_at {z : Int} (hz : -1074 ≤ z ∧ z < 1026) : 2 ^ (-z).toNat * 10 ^ (startS z).toNat ≤ 2 ^ z.toNat * 10 ^ (-(startS z)).toNat ∧ -340 ≤ startS z := by
  have h := List.all_eq_true.1 start_table (z + 1074).toNat (List.mem_range.2 (by omega))
  unfold startOk at h
  rw [show (((z + 1074).toNat : Nat) : Int) - 1074 = z by omega] at h
  simp only [Bool.and_eq_true, decide_eq_true_eq] at h
  exact ⟨Nat.le_of_ble_eq_true h.1, h.2⟩
theorem start_ge {M : Nat} {E z : Int} (hM : M ≠ 0) (hz : (bitlen M : Int) + E - 1 = z) (hz2 : -1074 ≤ z ∧ z < 1026) : GeT (4 * M) (E - 2) (startS z) := by
  obtain ⟨b, hb, h1, h2⟩ := bitlen_spec hM
  obtain ⟨ht, _⟩ := start_at hz2
  unfold GeT beS upS
  generalize startS z = s at *
  have h4 : 2 ^ (b + 2) ≤ 4 * M := by rw [Nat.pow_add]; omega
  refine Nat.le_of_mul_le_mul_right (c := 2 ^ z.toNat) ?_ (Nat.two_pow_pos _)
  have e1 : 2 ^ (-(E - 2)).toNat * 10 ^ s.toNat * 2 ^ z.toNat = 2 ^ (b + 2) * 2 ^ (E - 2).toNat * (2 ^ (-z).toNat * 10 ^ s.toNat) := by
    have : 2 ^ (-(E - 2)).toNat * 2 ^ z.toNat = 2 ^ (b + 2) * 2 ^ (E - 2).toNat * 2 ^ (-z).toNat := by
      rw [← Nat.pow_add, ← Nat.pow_add, ← Nat.pow_add]
      congr 1
      omega
    rw [Nat.mul_right_comm, this, Nat.mul_assoc, Nat.mul_assoc]
  rw [e1]
  refine Nat.le_trans (Nat.mul_le_mul_left _ ht) ?_
  have e2 : 4 * M * (2 ^ (E - 2).toNat * 10 ^ (-s).toNat) * 2 ^ z.toNat = 4 * M * 2 ^ (E - 2).toNat * (2 ^ z.toNat * 10 ^ (-s).toNat) := by ac_rfl
  rw [e2]
  exact Nat.mul_le_mul_right _ (Nat.mul_le_mul_right _ h4)
end Go.Proofs.YtmoilbeomnapfaaGreatDoor

/- Contracts and laws that the row leans on, part 10: texts that were built one by one, laid together. -/
import Derived.Test.YtbmhnjghpjkjpaaGreatDoorPart9
set_option maxHeartbeats 4000000
set_option maxRecDepth 4000
set_option exponentiation.threshold 300000
set_option linter.unusedVariables false
set_option linter.unusedSimpArgs false
namespace Go.Proofs.YtbmhnjghpjkjpaaGreatDoor
open Go Go.PV
theorem cut_ne {s : List Int} (hs : s ≠ []) : cutS s ≠ [] := by
  unfold cutS
  split
  · simp
  · exact hs
theorem cut_head {s : List Int} : (cutS s).getD 0 0 = s.getD 0 0 := by
  unfold cutS
  split
  · cases s with
    | nil => rename_i h; simp at h
    | cons a s => rfl
  · rfl
theorem round_one (neg : Bool) : Meets Tryz.prog 101 [.bool neg, .ints .u64 [1], .int .i64 3200, .bool false] (.tup [.int .u64 (signed neg infB : Int), .int .i64 0]) := by
  have h := round_bin (n := 1) (nmax_of (k := 1) (by decide) (by decide)) neg 3200 (by decide)
  rw [natL_single (by decide) (by decide)] at h
  have e : rbin 1 3200 = infB := by
    unfold rbin
    refine rndU_eq (Nat.two_pow_pos _) (round_high (more := false) (n := 1) (a := 4274) (c := 0) (Nat.two_pow_pos _) (by decide) (.inl ⟨rfl, ?_⟩) ?_)
    · rw [show ((3200 : Int) + 1074).toNat = 4274 from rfl, show (-((3200 : Int) + 1074)).toNat = 0 from rfl, Nat.pow_zero, Nat.mul_one]
    · have : bitlen 1 = 1 := by decide +kernel
      omega
  rw [e] at h
  exact h
theorem rrat_five (v n : Nat) : rrat v (5 ^ n) (-(n : Int)) = rdec v (-(n : Int)) := by
  unfold rrat rdec
  rw [show (-(n : Int)).toNat = 0 by omega, show (- -(n : Int)).toNat = n by omega, Nat.pow_zero, Nat.mul_one]
  refine rndU_congr (Nat.mul_pos (Nat.pow_pos (by decide)) (Nat.two_pow_pos _)) (ten_pos n) ?_
  rw [show (10 : Nat) = 2 * 5 from rfl, Nat.mul_pow]
  have e : 2 ^ (-(n : Int) + 1074).toNat * 2 ^ n = 2 ^ 1074 * 2 ^ (-(-(n : Int) + 1074)).toNat := by
    rw [← Nat.pow_add, ← Nat.pow_add]
    congr 1
    omega
  calc v * 2 ^ (-(n : Int) + 1074).toNat * (2 ^ n * 5 ^ n) = v * 5 ^ n * (2 ^ (-(n : Int) + 1074).toNat * 2 ^ n) := by ac_rfl
    _ = v * 5 ^ n * (2 ^ 1074 * 2 ^ (-(-(n : Int) + 1074)).toNat) := by rw [e]
    _ = v * 2 ^ 1074 * (5 ^ n * 2 ^ (-(-(n : Int) + 1074)).toNat) := by ac_rfl
theorem naturals_ok (neg : Bool) {s : List Int} {x : Int} (h : NormalD s x) (hsl : s.length ≤ 281474976710656) :
    Meets Tryz.prog 235 [.agg [], .agg [.bool neg, .str s, .int .i64 x]] (.tup [.int .u64 (signed neg (rdec (num 10 s) x) : Int), .bool true]) := by
  obtain ⟨hd, hne, hx, -, hends⟩ := normal_iff.1 h
  have hx' : -2000000000000000000 ≤ x ∧ x ≤ 2000000000000000000 := ⟨by have := hx.1; omega, by have := hx.2; omega⟩
  have hcl := cutS_len s
  have hcx := cut_len s x
  have hcd := cut_all hd
  have hcn := cut_ne hne
  have hread := read_nat (digs_all hcd) hcn (by omega)
  by_cases hs : s = [48]
  · subst hs
    have e0 : num 10 (cutS [48]) = 0 := num_zero 10
    rw [e0, natL_zero] at hread
    rw [num_zero, rdec_zero]
    exact naturals_walk neg [48] _ x _ _ 0 [] [] [] hsl hx' rfl rfl hread (.inl ⟨.inl rfl, round_nil neg⟩)
  · obtain ⟨h0, hl⟩ := hends hs
    have hlow := num_low hcd (by rw [cut_head]; exact h0) hcn
    have hpos : num 10 (cutS s) ≠ 0 := fun e => by
      have := ten_pos ((cutS s).length - 1)
      omega
    have hln := List.length_pos_iff.2 hcn
    have hup : num 10 (cutS s) < 10 ^ 771 := Nat.lt_of_lt_of_le (num_digs_lt (digs_all hcd)) (Nat.pow_le_pow_right (by decide) hcl)
    have hnm : num 10 (cutS s) < NMax := nmax_of (k := 4 * 771) (Nat.lt_of_lt_of_le hup (by decide +kernel)) (by decide)
    have hna : natL (num 10 (cutS s)) ≠ [] := fun e => hpos (natL_len0.1 (by rw [e]; rfl))
    by_cases h1 : x + s.length < -400
    · rw [rdec_small hd h1]
      exact naturals_walk neg s _ x _ _ 0 _ [] [] hsl hx' rfl rfl hread (.inl ⟨.inr ⟨hna, h1⟩, round_nil neg⟩)
    by_cases h2 : 400 < x + s.length
    · rw [rdec_great hd hne h0 h2]
      exact naturals_walk neg s _ x _ _ 0 _ [] [] hsl hx' rfl rfl hread (.inr ⟨hna, h1, .inl ⟨h2, round_one neg⟩⟩)
    have hc := cut_rdec hd hne h0 hl (by omega : x + s.length ≤ 400)
    rw [← hc]
    by_cases hy : 0 ≤ cutX s x
    · obtain ⟨n, hn⟩ : ∃ n : Nat, cutX s x = (n : Int) := ⟨(cutX s x).toNat, by omega⟩
      have hn4 : n ≤ 400 := by omega
      have ht : 10 ^ n < NMax := nmax_of (k := 4 * 400) (Nat.lt_of_le_of_lt (Nat.pow_le_pow_right (by decide) hn4) (by decide +kernel)) (by decide)
      have hv2 : num 10 (cutS s) * 10 ^ n < NMax := nmax_of (k := 4 * 1171) (Nat.lt_of_lt_of_le (Nat.mul_lt_mul_of_lt_of_le hup (Nat.pow_le_pow_right (by decide) hn4) (ten_pos _)) (by decide +kernel)) (by decide)
      have g1 := pow10_ok n (by omega) ht
      have g2 := mul_nat0 hnm ht hv2
      have g3 := round_bin hv2 neg 0 (by decide)
      rw [show rbin (num 10 (cutS s) * 10 ^ n) 0 = rdec (num 10 (cutS s)) n by unfold rbin rdec; rw [Int.toNat_natCast, show (-(n : Int)).toNat = 0 by omega]; rfl] at g3
      rw [hn]
      rw [← hn] at g1
      exact naturals_walk neg s _ x _ _ 0 _ _ _ hsl hx' rfl rfl hread (.inr ⟨hna, h1, .inr ⟨h2, .inl ⟨hy, g1, g2, g3⟩⟩⟩)
    · obtain ⟨n, hn⟩ : ∃ n : Nat, cutX s x = -(n : Int) := ⟨(-cutX s x).toNat, by omega⟩
      have hn4 : n ≤ 1200 := by omega
      have hf : 5 ^ n < NMax := nmax_of (k := 3 * 1200) (Nat.lt_of_le_of_lt (Nat.pow_le_pow_right (by decide) hn4) (by decide +kernel)) (by decide)
      have g1 := pow5_ok n (by omega) hf
      have g2 := round_ratio hnm hf (Nat.ne_of_gt (Nat.pow_pos (by decide))) neg (cutX s x) (by omega)
      rw [hn, rrat_five, ← hn] at g2
      exact naturals_walk neg s _ x _ _ (n : Int) _ _ [] hsl hx' rfl rfl hread (.inr ⟨hna, h1, .inr ⟨h2, .inr ⟨by omega, by rw [show (0 : Int) - cutX s x = (n : Int) by omega]; exact wrap_i64 (by omega), g1, g2⟩⟩⟩)
theorem meth_of {t : TypeId} {f : FuncId} (h : ∀ w, (method (Tryz.prog.types.size + Made.depth) t (.agg #[]) "abacus/strtod.nearest").run Tryz.prog w = .ok (f, .agg #[]) w) : methW Tryz.prog (.iface t (.agg #[])) "abacus/strtod.nearest" f (.agg #[]) := fun args w => by
  simp only [callMethod, Sem.run_bind, run_program, Result.andThen_ok, h]
theorem meth_nat : methW Tryz.prog (.iface 89 (.agg #[])) "abacus/strtod.nearest" 235 (.agg #[]) := meth_of fun w => by kernel_rfl
theorem meth_tab : methW Tryz.prog (.iface 90 (.agg #[])) "abacus/strtod.nearest" 236 (.agg #[]) := meth_of fun w => by kernel_rfl
abbrev alF (neg : Bool) (s : List Int) (x : Int) (L : List PV) (i : Nat) : PV.Frame := [(22, .int .i64 (i : Int)), (21, .int .i64 (L.length : Int)), (20, .list 1 L), (6, .ptr 1 0 0), (5, .int .i64 0), (4, .int .u64 0)]
abbrev alH (neg : Bool) (s : List Int) (x : Int) (t : List Int) (y : Int) : Heap := ⟨2, [(1, .var [.bool neg, .str t, .int .i64 y]), (0, .var [.bool neg, .str s, .int .i64 x])], [], [(1, 35), (0, 35)]⟩
theorem along_walk (neg : Bool) (s : List Int) (x : Int) (t : List Int) (y R : Int) (L : List PV) (v : Nat → Value) (hl : L.length ≤ 2) (hL : ∀ j, j < L.length → L.getD j .undef = .con (v j)) (k : Nat) (hk : k < L.length)
    (h : Meets Tryz.prog 25 [.agg [.bool neg, .str s, .int .i64 x]] (.tup [.agg [.bool neg, .str t, .int .i64 y], .int .i64 0]))
    (hm : ∀ j, j ≤ k → ∃ f o, methW Tryz.prog (v j) "abacus/strtod.nearest" f (.agg #[]) ∧ Meets Tryz.prog f [.agg [], .agg [.bool neg, .str t, .int .i64 y]] (.tup [.int .u64 o, .bool (decide (j = k))]) ∧ (j = k → o = R)) :
    Meets Tryz.prog 51 [.agg [.bool neg, .str s, .int .i64 x], .list 1 L] (.tup [.int .u64 R, .int .i64 0]) := by
  refine meets_by ttOk Tryz.func51 Tryz.ntmps51 Tryz.results51 (by kernel_rfl) (c := _) rfl rfl rfl fun E => ?_
  simp only [argsFrame]
  repeat' first
    | (with_reducible first | refine PW.seq ?_ | refine PW.block ?_ | refine PW.fork ?_ | refine PW.skip ?_ | refine PW.exit ?_ | refine PW.ret ?_ | refine PW.scope ?_ | refine PW.label ?_ | refine PW.goto ?_)
    | (with_reducible refine PW.region ttOk ?_ ?_
       · rfl)
    | (with_reducible refine PW.regionD ttOk mixed ?_ ?_ ?_
       · rfl
       · rfl) | (with_reducible refine ifW_dec (fun g => ?_) (fun g => ?_) <;> first | (exfalso; omega) | (simp -dsimp only [g, wkI])) | (with_reducible refine condE_dec (fun g => ?_) (fun g => ?_) <;> try (exfalso; omega)) | (with_reducible refine condE_not (fun g => ?_) (fun g => ?_) <;> try (exfalso; omega)) | (simp -dsimp only [↓wkA, ↓wkE, ↓wkJ, wkB, ↓tt, Nat.reduceBEq, Nat.reduceEqDiff, ↓reduceIte, Nat.reduceLT, Array.toList, Nat.reduceAdd, Nat.reduceMul, Int.reduceToNat, Int.reducePow, UInt8.reduceToNat]) | (refine call_by (h) (views_data rfl) (by simp only [okViews, okView, okViews0, okView0, and_self]) rfl ?_) | (simp -dsimp (disch := first | assumption | omega) only [dec_t, dec_f])
    | (refine And.intro ?_ ?_
       · first | omega | decide | (simp (disch := omega) only [wkW, Int.reduceToNat, Int.reducePow] <;> omega) | (simp <;> omega)) | (simp (disch := omega) only [wkW, Int.reduceToNat, Int.reducePow]) | fail
  refine PW.loopA (fun m F H => ∃ i : Nat, i + m = k ∧ F = alF neg s x L i ∧ H = alH neg s x t y) k (alF neg s x L 0) (alH neg s x t y) (Sub.norm ⟨rfl, rfl, rfl, rfl, rfl, rfl, trivial⟩ ⟨rfl, rfl, trivial⟩ (Nat.le_refl _) rfl rfl rfl rfl (tyOk_spec rfl)) ⟨0, by omega, rfl, rfl⟩ ?_
  rintro m F H ⟨i, hi, rfl, rfl⟩
  obtain ⟨f, o, h1, h2, h3⟩ := hm i (by omega)
  have hg := hL i (by omega)
  have d1 : decide ((i : Int) < (L.length : Int)) = true := decide_eq_true (by omega)
  cases m with
  | zero =>
    have e0 : i = k := by omega
    rw [decide_eq_true e0] at h2
    rw [h3 e0] at h2
    repeat' first
      | (with_reducible first | refine PW.seq ?_ | refine PW.block ?_ | refine PW.fork ?_ | refine PW.skip ?_ | refine PW.exit ?_ | refine PW.ret ?_ | refine PW.scope ?_ | refine PW.label ?_ | refine PW.goto ?_) | (simp only [d1, hg, Int.toNat_natCast])
      | (refine ⟨f, .agg #[], h1, ?_⟩)
      | (with_reducible refine PW.region ttOk ?_ ?_
         · rfl)
      | (with_reducible refine PW.regionD ttOk mixed ?_ ?_ ?_
         · rfl
         · rfl) | (with_reducible refine ifW_dec (fun g => ?_) (fun g => ?_) <;> first | (exfalso; omega) | (simp -dsimp only [g, wkI])) | (with_reducible refine condE_dec (fun g => ?_) (fun g => ?_) <;> try (exfalso; omega)) | (with_reducible refine condE_not (fun g => ?_) (fun g => ?_) <;> try (exfalso; omega)) | (simp -dsimp only [↓wkA, ↓wkE, ↓wkJ, wkB, ↓tt, Nat.reduceBEq, Nat.reduceEqDiff, ↓reduceIte, Nat.reduceLT, Array.toList, Nat.reduceAdd, Nat.reduceMul, Int.reduceToNat, Int.reducePow, UInt8.reduceToNat]) | (refine call_by (h2) (views_data rfl) (by simp only [okViews, okView, okViews0, okView0, and_self]) rfl ?_) | (simp -dsimp (disch := first | assumption | omega) only [dec_t, dec_f])
      | (refine And.intro ?_ ?_
         · first | omega | decide | (simp (disch := omega) only [wkW, Int.reduceToNat, Int.reducePow] <;> omega) | (simp <;> omega)) | (simp (disch := omega) only [wkW, Int.reduceToNat, Int.reducePow]) | fail
  | succ m =>
    have e0 : ¬ i = k := by omega
    rw [decide_eq_false e0] at h2
    have w1 : IntKind.wrap .i64 ((i : Int) + 1) = ((i + 1 : Nat) : Int) := wrap_i64 (by omega)
    repeat' first
      | (with_reducible first | refine PW.seq ?_ | refine PW.block ?_ | refine PW.fork ?_ | refine PW.skip ?_ | refine PW.exit ?_ | refine PW.ret ?_ | refine PW.scope ?_ | refine PW.label ?_ | refine PW.goto ?_) | (simp only [d1, hg, w1, Int.toNat_natCast])
      | (refine ⟨f, .agg #[], h1, ?_⟩)
      | (with_reducible refine PW.region ttOk ?_ ?_
         · rfl)
      | (with_reducible refine PW.regionD ttOk mixed ?_ ?_ ?_
         · rfl
         · rfl) | (with_reducible refine ifW_dec (fun g => ?_) (fun g => ?_) <;> first | (exfalso; omega) | (simp -dsimp only [g, wkI])) | (with_reducible refine condE_dec (fun g => ?_) (fun g => ?_) <;> try (exfalso; omega)) | (with_reducible refine condE_not (fun g => ?_) (fun g => ?_) <;> try (exfalso; omega)) | (simp -dsimp only [↓wkA, ↓wkE, ↓wkJ, wkB, ↓tt, Nat.reduceBEq, Nat.reduceEqDiff, ↓reduceIte, Nat.reduceLT, Array.toList, Nat.reduceAdd, Nat.reduceMul, Int.reduceToNat, Int.reducePow, UInt8.reduceToNat]) | (refine call_by (h2) (views_data rfl) (by simp only [okViews, okView, okViews0, okView0, and_self]) rfl ?_) | (simp -dsimp (disch := first | assumption | omega) only [dec_t, dec_f])
      | (refine And.intro ?_ ?_
         · first | omega | decide | (simp (disch := omega) only [wkW, Int.reduceToNat, Int.reducePow] <;> omega) | (simp <;> omega)) | (simp (disch := omega) only [wkW, Int.reduceToNat, Int.reducePow]) | fail
    exact Again.mk m (alF neg s x L (i + 1)) (alH neg s x t y) (by omega) (Sub.norm ⟨rfl, rfl, rfl, rfl, rfl, rfl, trivial⟩ ⟨rfl, rfl, trivial⟩ (Nat.le_refl _) rfl rfl rfl rfl (tyOk_spec rfl)) ⟨i + 1, by omega, rfl, rfl⟩
theorem exact_walk (neg : Bool) (s : List Int) (x R e : Int) (h : Meets Tryz.prog 51 [.agg [.bool neg, .str s, .int .i64 x], .list 1 [.con (.iface 89 (.agg #[]))]] (.tup [.int .u64 R, .int .i64 e])) : Meets Tryz.prog 20 [.agg [.bool neg, .str s, .int .i64 x]] (.tup [.int .u64 R, .int .i64 e]) := by
  refine meets_by ttOk Tryz.func20 Tryz.ntmps20 Tryz.results20 (by kernel_rfl) (c := _) rfl rfl rfl fun E => ?_
  simp only [argsFrame]
  repeat' first
    | (with_reducible first | refine PW.seq ?_ | refine PW.block ?_ | refine PW.fork ?_ | refine PW.skip ?_ | refine PW.exit ?_ | refine PW.ret ?_ | refine PW.scope ?_ | refine PW.label ?_ | refine PW.goto ?_)
    | (with_reducible refine PW.region ttOk ?_ ?_
       · rfl)
    | (with_reducible refine PW.regionD ttOk mixed ?_ ?_ ?_
       · rfl
       · rfl) | (with_reducible refine ifW_dec (fun g => ?_) (fun g => ?_) <;> first | (exfalso; omega) | (simp -dsimp only [g, wkI])) | (with_reducible refine condE_dec (fun g => ?_) (fun g => ?_) <;> try (exfalso; omega)) | (with_reducible refine condE_not (fun g => ?_) (fun g => ?_) <;> try (exfalso; omega)) | (simp -dsimp only [↓wkA, ↓wkE, ↓wkJ, wkB, ↓tt, Nat.reduceBEq, Nat.reduceEqDiff, ↓reduceIte, Nat.reduceLT, Array.toList, Nat.reduceAdd, Nat.reduceMul, Int.reduceToNat, Int.reducePow, UInt8.reduceToNat])
    | (refine And.intro (by simp [partsOk, known, dataB, dataB0, cellsOf]) ?_) | (refine call_by' (args' := [.agg [.bool neg, .str s, .int .i64 x], .list 1 [.con (.iface 89 (.agg #[]))]]) rfl h ⟨⟨trivial, trivial, trivial, trivial⟩, Nat.le_refl _, trivial⟩ rfl ?_) | (simp -dsimp (disch := first | assumption | omega) only [dec_t, dec_f])
    | (refine And.intro ?_ ?_
       · first | omega | decide | (simp (disch := omega) only [wkW, Int.reduceToNat, Int.reducePow] <;> omega) | (simp <;> omega)) | (simp (disch := omega) only [wkW, Int.reduceToNat, Int.reducePow]) | fail
theorem double_walk (neg : Bool) (s : List Int) (x R e : Int) (h : Meets Tryz.prog 51 [.agg [.bool neg, .str s, .int .i64 x], .list 1 [.con (.iface 90 (.agg #[])), .con (.iface 89 (.agg #[]))]] (.tup [.int .u64 R, .int .i64 e])) : Meets Tryz.prog 21 [.agg [.bool neg, .str s, .int .i64 x]] (.tup [.int .u64 R, .int .i64 e]) := by
  refine meets_by ttOk Tryz.func21 Tryz.ntmps21 Tryz.results21 (by kernel_rfl) (c := _) rfl rfl rfl fun E => ?_
  simp only [argsFrame]
  repeat' first
    | (with_reducible first | refine PW.seq ?_ | refine PW.block ?_ | refine PW.fork ?_ | refine PW.skip ?_ | refine PW.exit ?_ | refine PW.ret ?_ | refine PW.scope ?_ | refine PW.label ?_ | refine PW.goto ?_)
    | (with_reducible refine PW.region ttOk ?_ ?_
       · rfl)
    | (with_reducible refine PW.regionD ttOk mixed ?_ ?_ ?_
       · rfl
       · rfl) | (with_reducible refine ifW_dec (fun g => ?_) (fun g => ?_) <;> first | (exfalso; omega) | (simp -dsimp only [g, wkI])) | (with_reducible refine condE_dec (fun g => ?_) (fun g => ?_) <;> try (exfalso; omega)) | (with_reducible refine condE_not (fun g => ?_) (fun g => ?_) <;> try (exfalso; omega)) | (simp -dsimp only [↓wkA, ↓wkE, ↓wkJ, wkB, ↓tt, Nat.reduceBEq, Nat.reduceEqDiff, ↓reduceIte, Nat.reduceLT, Array.toList, Nat.reduceAdd, Nat.reduceMul, Int.reduceToNat, Int.reducePow, UInt8.reduceToNat])
    | (refine And.intro (by simp [partsOk, known, dataB, dataB0, cellsOf]) ?_) | (refine call_by' (args' := [.agg [.bool neg, .str s, .int .i64 x], .list 1 [.con (.iface 90 (.agg #[])), .con (.iface 89 (.agg #[]))]]) rfl h ⟨⟨trivial, trivial, trivial, trivial⟩, Nat.le_refl _, trivial⟩ rfl ?_) | (simp -dsimp (disch := first | assumption | omega) only [dec_t, dec_f])
    | (refine And.intro ?_ ?_
       · first | omega | decide | (simp (disch := omega) only [wkW, Int.reduceToNat, Int.reducePow] <;> omega) | (simp <;> omega)) | (simp (disch := omega) only [wkW, Int.reduceToNat, Int.reducePow]) | fail
theorem headL_first : ∀ l : List Int, headL 48 l ≠ [] → (headL 48 l).getD 0 0 ≠ 48
  | [], h => absurd rfl h
  | x :: r, h => by
    rw [headL] at h ⊢
    split
    · rename_i e
      rw [if_pos e] at h
      exact headL_first r h
    · rename_i e
      exact e
theorem headL_digs : ∀ l : List Int, Digs l → Digs (headL 48 l)
  | [], h => h
  | x :: r, h => by
    rw [headL]
    split
    · exact headL_digs r fun y hy => h y (List.mem_cons_of_mem _ hy)
    · exact h
theorem headL_num : ∀ l : List Int, Digs l → num 10 (headL 48 l) = num 10 l
  | [], h => rfl
  | x :: r, h => by
    rw [headL]
    split
    · rename_i e
      subst e
      rw [headL_num r fun y hy => h y (List.mem_cons_of_mem _ hy), num_split 10 (s := 48 :: r) (k := 1) (by simp)]
      show num 10 r = num 10 [48] * _ + num 10 r
      rw [num_zero, Nat.zero_mul, Nat.zero_add]
    · rfl
theorem norm_val {s : List Int} {x : Int} (hd : AllD s) : (num 10 s = 0 ∧ normS s = [48] ∧ normX s x = 0) ∨ (num 10 s ≠ 0 ∧ ∃ j : Nat, normX s x = x + j ∧ j ≤ s.length ∧ num 10 s = num 10 (normS s) * 10 ^ j ∧ AllD (normS s) ∧ normS s ≠ [] ∧ (normS s).getD 0 0 ≠ 48 ∧ (normS s).getD ((normS s).length - 1) 0 ≠ 48) := by
  have hg := headL_digs s (digs_all hd)
  have hn := headL_num s (digs_all hd)
  have hf := headL_first s
  have hl := headL_le 48 s
  unfold normS normX
  rw [← hn]
  generalize headL 48 s = t at *
  by_cases ht : t = []
  · subst ht
    exact .inl ⟨rfl, if_pos rfl, if_pos rfl⟩
  · rw [if_neg ht, if_neg ht]
    have hp := List.length_pos_iff.2 ht
    have h0 : num 10 t ≠ 0 := by
      have := num_low (all_digs hg) (hf ht) ht
      have := ten_pos (t.length - 1)
      omega
    obtain ⟨h1, h2, h3⟩ := endN_split hg h0
    have h4 := endN_le t 48 t.length
    have h5 := endN_last t.length (Nat.ne_of_gt h1)
    have hlen : (t.take (endN t 48 t.length)).length = endN t 48 t.length := by rw [List.length_take]; omega
    refine .inr ⟨h0, t.length - endN t 48 t.length, by omega, by omega, h2, all_digs (digs_take hg _), fun e => ?_, ?_, ?_⟩
    · rw [e] at hlen; simp at hlen; omega
    · rw [getD_take' h1]; exact hf ht
    · rw [hlen, getD_take' (by omega)]; exact h5
theorem norm_normal {s : List Int} {x : Int} (hd : AllD s) (hx : -1152921504606846976 ≤ x) (hx2 : normX s x ≤ 1152921504606846976) : NormalD (normS s) (normX s x) := by
  rw [normal_iff]
  rcases norm_val (x := x) hd with ⟨h1, h2, h3⟩ | ⟨h1, j, h2, h3, h4, h5, h6, h7, h8⟩
  · rw [h2, h3]
    exact ⟨fun i hi => by
      match i, hi with
      | 0, _ => decide
      | i + 1, h => simp at h, by decide, ⟨by decide, by decide⟩, fun _ => rfl, fun h => absurd rfl h⟩
  · exact ⟨h5, h6, ⟨by omega, hx2⟩, fun e => absurd (by rw [e]; rfl) h7, fun _ => ⟨h7, h8⟩⟩
theorem norm_rdec {s : List Int} {x : Int} (hd : AllD s) : rdec (num 10 (normS s)) (normX s x) = rdec (num 10 s) x := by
  rcases norm_val (x := x) hd with ⟨h1, h2, h3⟩ | ⟨h1, j, h2, h3, h4, h5, h6, h7, h8⟩
  · rw [h1, h2, num_zero, rdec_zero, rdec_zero]
  · rw [h4, rdec_scale, h2]
theorem norm_len {s : List Int} : s ≠ [] → (normS s).length ≤ s.length := fun hs => by
  have hl := headL_le 48 s
  have hp := List.length_pos_iff.2 hs
  unfold normS
  split
  · exact hp
  · rw [List.length_take]
    omega
def dblV (neg : Bool) (s : List Int) (x : Int) : Nat := signed neg (rdec (num 10 s) x)
theorem strtod_exact (neg : Bool) {s : List Int} {x : Int} (h : NormOk s x) (hsl : s.length ≤ 281474976710656) : Meets Tryz.prog 20 [.agg [.bool neg, .str s, .int .i64 x]] (.tup [.int .u64 (dblV neg s x : Int), .int .i64 0]) := by
  obtain ⟨hs, hx, hd, hx2⟩ := h
  have hN := norm_normal hd hx.1 hx2
  have hl := norm_len hs
  have h1 := naturals_ok neg hN (by omega)
  rw [norm_rdec hd] at h1
  refine exact_walk neg s x _ _ (along_walk neg s x (normS s) (normX s x) _ _ (fun _ => .iface 89 (.agg #[])) (by decide) (fun j hj => ?_) 0 (by decide) (scan_norm_ok neg ⟨hs, hx, hd, hx2⟩ hsl) fun j hj => ?_)
  · match j, hj with
    | 0, _ => rfl
    | j + 1, h => simp at h
  · obtain rfl : j = 0 := by omega
    exact ⟨_, _, meth_nat, h1, fun _ => rfl⟩
theorem strtod_double (neg : Bool) {s : List Int} {x : Int} (h : NormOk s x) (hsl : s.length ≤ 281474976710656) : Meets Tryz.prog 21 [.agg [.bool neg, .str s, .int .i64 x]] (.tup [.int .u64 (dblV neg s x : Int), .int .i64 0]) := by
  obtain ⟨hs, hx, hd, hx2⟩ := h
  have hN := norm_normal hd hx.1 hx2
  have hl := norm_len hs
  have h1 := naturals_ok neg hN (by omega)
  rw [norm_rdec hd] at h1
  have h2 := by_table neg _ _ _ _ (quick_try neg hN (by omega))
  refine double_walk neg s x _ _ (along_walk neg s x (normS s) (normX s x) _ _ (fun j => if j = 0 then .iface 90 (.agg #[]) else .iface 89 (.agg #[])) (by decide) (fun j hj => ?_) (if tryK (normS s) (normX s x) then 0 else 1) (by split <;> decide) (scan_norm_ok neg ⟨hs, hx, hd, hx2⟩ hsl) fun j hj => ?_)
  · match j, hj with
    | 0, _ => rfl
    | 1, _ => rfl
    | j + 2, h => simp at h; omega
  · by_cases hk : tryK (normS s) (normX s x)
    · rw [if_pos hk] at hj ⊢
      obtain rfl : j = 0 := by omega
      unfold tryV at h2
      rw [if_pos hk, decide_eq_true hk, norm_rdec hd] at h2
      exact ⟨_, _, meth_tab, h2, fun _ => rfl⟩
    · rw [if_neg hk] at hj ⊢
      rw [decide_eq_false hk] at h2
      match j, hj with
      | 0, _ => exact ⟨_, _, meth_tab, h2, fun h => by omega⟩
      | 1, _ => exact ⟨_, _, meth_nat, h1, fun _ => rfl⟩
      | j + 2, h => omega
def runE (p : Int → Bool) (s : List Int) (i : Nat) : Nat := i + ((s.drop i).takeWhile p).length
section
variable {p : Int → Bool} {s : List Int} {i : Nat}
theorem get_lt (hp : p 0 = false) (h : p (s.getD i 0) = true) : i < s.length := by
  refine Nat.lt_of_not_le fun hle => ?_
  rw [List.getD_eq_getElem?_getD, List.getElem?_eq_none hle] at h
  exact absurd h (by rw [show (none : Option Int).getD 0 = 0 from rfl, hp]; decide)
theorem run_step (hp : p 0 = false) (h : p (s.getD i 0) = true) : runE p s i = runE p s (i + 1) := by
  have hi := get_lt hp h
  have e : s[i] = s.getD i 0 := by rw [List.getD_eq_getElem?_getD, List.getElem?_eq_getElem hi]; rfl
  unfold runE
  rw [List.drop_eq_getElem_cons hi, List.takeWhile_cons, e, if_pos h, List.length_cons]
  omega
theorem run_stop (h : p (s.getD i 0) = false) : runE p s i = i := by
  unfold runE
  by_cases hi : i < s.length
  · have e : s[i] = s.getD i 0 := by rw [List.getD_eq_getElem?_getD, List.getElem?_eq_getElem hi]; rfl
    rw [List.drop_eq_getElem_cons hi, List.takeWhile_cons, e, if_neg (by rw [h]; decide)]
    rfl
  · rw [List.drop_eq_nil_of_le (by omega)]
    rfl
theorem run_ge (p : Int → Bool) (s : List Int) (i : Nat) : i ≤ runE p s i := Nat.le_add_right ..
theorem run_le (p : Int → Bool) (h : i ≤ s.length) : runE p s i ≤ s.length := by
  have := (List.takeWhile_prefix (l := s.drop i) p).length_le
  rw [List.length_drop] at this
  unfold runE
  omega
theorem run_spec (hp : p 0 = false) (s : List Int) (i : Nat) : (∀ j, i ≤ j → j < runE p s i → p (s.getD j 0) = true) ∧ p (s.getD (runE p s i) 0) = false := by
  generalize hn : s.length - i = n
  induction n generalizing i with
  | zero =>
    have h : p (s.getD i 0) = false := by
      cases h : p (s.getD i 0) with
      | false => rfl
      | true => have := get_lt hp h; omega
    rw [run_stop h]
    exact ⟨fun j h1 h2 => by omega, h⟩
  | succ n ih =>
    cases h : p (s.getD i 0) with
    | true =>
      rw [run_step hp h]
      obtain ⟨h1, h2⟩ := ih (i + 1) (by omega)
      refine ⟨fun j hj hj2 => ?_, h2⟩
      rcases Nat.eq_or_lt_of_le hj with rfl | hj
      · exact h
      · exact h1 j hj hj2
    | false =>
      rw [run_stop h]
      exact ⟨fun j h1 h2 => by omega, h⟩
theorem run_eq (hp : p 0 = false) {k : Nat} (hik : i ≤ k) (h1 : ∀ j, i ≤ j → j < k → p (s.getD j 0) = true) (h2 : p (s.getD k 0) = false) : runE p s i = k := by
  obtain ⟨g1, g2⟩ := run_spec hp s i
  have := run_ge p s i
  rcases Nat.lt_trichotomy (runE p s i) k with h | h | h
  · rw [h1 _ this h] at g2; cases g2
  · exact h
  · rw [g1 _ hik h] at h2; cases h2
end
def digB (c : Int) : Bool := decide (isDig c)
def dend (s : List Int) (i : Nat) : Nat := runE digB s i
theorem digB0 : digB 0 = false := by decide
theorem dig_lt {s : List Int} {i : Nat} (h : isDig (s.getD i 0)) : i < s.length := get_lt digB0 (decide_eq_true h)
theorem dend_dig {s : List Int} {i : Nat} (h : isDig (s.getD i 0)) : dend s i = dend s (i + 1) := run_step digB0 (decide_eq_true h)
theorem dend_not {s : List Int} {i : Nat} (h : ¬ isDig (s.getD i 0)) : dend s i = i := run_stop (decide_eq_false h)
theorem dend_ge (s : List Int) (i : Nat) : i ≤ dend s i := run_ge digB s i
theorem dend_le {s : List Int} {i : Nat} (h : i ≤ s.length) : dend s i ≤ s.length := run_le digB h
theorem dend_spec (s : List Int) (i : Nat) : (∀ j, i ≤ j → j < dend s i → isDig (s.getD j 0)) ∧ ¬ isDig (s.getD (dend s i) 0) := by
  obtain ⟨h1, h2⟩ := run_spec digB0 s i
  exact ⟨fun j hj hk => of_decide_eq_true (h1 j hj hk), of_decide_eq_false h2⟩
theorem dend_eq {s : List Int} {i k : Nat} (hik : i ≤ k) (h1 : ∀ j, i ≤ j → j < k → isDig (s.getD j 0)) (h2 : ¬ isDig (s.getD k 0)) : dend s i = k :=
  run_eq digB0 hik (fun j hj hk => decide_eq_true (h1 j hj hk)) (decide_eq_false h2)
def blB (c : Int) : Bool := decide (c = 32) || (decide (9 ≤ c) && decide (c ≤ 13))
theorem blB0 : blB 0 = false := by decide
def bend (s : List Int) (i : Nat) : Nat := runE blB s i
def sgn (s : List Int) (i : Nat) : Nat := if s.getD i 0 = 43 ∨ s.getD i 0 = 45 then i + 1 else i
def pnt (s : List Int) (i : Nat) : Prop := s.getD (dend s i) 0 = 46 ∧ (dend s i ≠ i ∨ isDig (s.getD (dend s i + 1) 0))
instance (s : List Int) (i : Nat) : Decidable (pnt s i) := inferInstanceAs (Decidable (_ ∧ _))
def mend (s : List Int) (i : Nat) : Nat := if pnt s i then dend s (dend s i + 1) else dend s i
def mdigs (s : List Int) (i : Nat) : List Int := if pnt s i then (s.take (dend s i)).drop i ++ (s.take (mend s i)).drop (dend s i + 1) else (s.take (dend s i)).drop i
def mplaces (s : List Int) (i : Nat) : Nat := if pnt s i then dend s (dend s i + 1) - (dend s i + 1) else 0
def expo (s : List Int) (k : Nat) : Prop := (s.getD k 0 = 101 ∨ s.getD k 0 = 69) ∧ isDig (s.getD (sgn s (k + 1)) 0)
instance (s : List Int) (k : Nat) : Decidable (expo s k) := inferInstanceAs (Decidable (_ ∧ _))
def eend (s : List Int) (k : Nat) : Nat := if expo s k then dend s (sgn s (k + 1)) else k
def capN (s : List Int) (i k : Nat) : Nat := min (num 10 ((s.take k).drop i)) 1000000000000000
def eval (s : List Int) (k : Nat) : Int := if expo s k then (if s.getD (k + 1) 0 = 45 then -(capN s (sgn s (k + 1)) (eend s k) : Int) else capN s (sgn s (k + 1)) (eend s k)) else 0
theorem sgn_ge (s : List Int) (i : Nat) : i ≤ sgn s i ∧ sgn s i ≤ i + 1 := by unfold sgn; split <;> omega
theorem getD_lt {s : List Int} {i : Nat} (h : s.getD i 0 ≠ 0) : i < s.length := by
  refine Nat.lt_of_not_le fun hle => h ?_
  rw [List.getD_eq_getElem?_getD, List.getElem?_eq_none hle]
  rfl
theorem sgn_le {s : List Int} {i : Nat} (h : i ≤ s.length) : sgn s i ≤ s.length := by
  unfold sgn
  split
  · rename_i h1
    have := getD_lt (s := s) (i := i) (by omega)
    omega
  · exact h
theorem mend_ge (s : List Int) (i : Nat) : i ≤ mend s i := by
  unfold mend
  have := dend_ge s i
  have := dend_ge s (dend s i + 1)
  split <;> omega
theorem mend_le {s : List Int} {i : Nat} (h : i ≤ s.length) : mend s i ≤ s.length := by
  unfold mend
  split
  · rename_i h1
    exact dend_le (getD_lt (by rw [h1.1]; decide))
  · exact dend_le h
theorem eend_ge (s : List Int) (k : Nat) : k ≤ eend s k := by
  unfold eend
  have := dend_ge s (sgn s (k + 1))
  have := (sgn_ge s (k + 1)).1
  split <;> omega
theorem eend_le {s : List Int} {k : Nat} (h : k ≤ s.length) : eend s k ≤ s.length := by
  unfold eend
  split
  · rename_i h1
    exact dend_le (Nat.le_of_lt (dig_lt h1.2))
  · exact h
theorem mplaces_le {s : List Int} {i : Nat} (h : i ≤ s.length) : mplaces s i ≤ s.length := by
  unfold mplaces
  split
  · rename_i h1
    have := dend_le (s := s) (i := dend s i + 1) (getD_lt (by rw [h1.1]; decide))
    omega
  · omega
theorem capN_le (s : List Int) (i k : Nat) : capN s i k ≤ 1000000000000000 := Nat.min_le_right ..
theorem eval_le (s : List Int) (k : Nat) : -1000000000000000 ≤ eval s k ∧ eval s k ≤ 1000000000000000 := by
  unfold eval
  have := capN_le s (sgn s (k + 1)) (eend s k)
  split
  · split <;> omega
  · omega
theorem capN_nil (s : List Int) (i : Nat) : capN s i i = 0 := by
  unfold capN
  rw [List.drop_eq_nil_of_le (by rw [List.length_take]; omega)]
  rfl
theorem take_drop_succ {s : List Int} {i k : Nat} (hi : i ≤ k) (hk : k < s.length) : (s.take (k + 1)).drop i = (s.take k).drop i ++ [s.getD k 0] := by
  rw [List.take_add_one, List.getElem?_eq_getElem hk, List.getD_eq_getElem?_getD, List.getElem?_eq_getElem hk, List.drop_append_of_le_length (by rw [List.length_take]; omega)]
  rfl
theorem capN_succ {s : List Int} {i k : Nat} (hi : i ≤ k) (h : isDig (s.getD k 0)) : capN s i (k + 1) = min (capN s i k * 10 + (s.getD k 0 - 48).toNat) 1000000000000000 := by
  have hk := dig_lt h
  unfold capN
  rw [take_drop_succ hi hk, num_append]
  have e : (worth (s.getD k 0)).toNat = (s.getD k 0 - 48).toNat := by
    have h' : 48 ≤ s.getD k 0 ∧ s.getD k 0 ≤ 57 := h
    unfold worth
    rw [if_pos h']
  rw [e]
  omega
theorem run_digs {s : List Int} {i k : Nat} (h : ∀ j, i ≤ j → j < k → isDig (s.getD j 0)) : Digs ((s.take k).drop i) := fun x hx => by
  obtain ⟨n, hn, rfl⟩ := List.mem_iff_getElem.1 hx
  rw [List.length_drop, List.length_take] at hn
  rw [List.getElem_drop, List.getElem_take]
  have := h (i + n) (by omega) (by omega)
  rw [List.getD_eq_getElem?_getD, List.getElem?_eq_getElem (by omega)] at this
  exact this
theorem mdigs_digs (s : List Int) (i : Nat) : Digs (mdigs s i) := by
  unfold mdigs mend
  split
  · exact digs_append (run_digs (dend_spec s i).1) (run_digs (dend_spec s _).1)
  · exact run_digs (dend_spec s i).1
theorem mdigs_len {s : List Int} {i : Nat} (h : i ≤ s.length) : (mdigs s i).length + (if pnt s i then 1 else 0) = mend s i - i := by
  have h1 := dend_ge s i
  have h2 := dend_le h
  unfold mdigs mend
  split
  · rename_i hp
    have h3 := dend_ge s (dend s i + 1)
    have h4 := dend_le (s := s) (i := dend s i + 1) (getD_lt (by rw [hp.1]; decide))
    rw [List.length_append, List.length_drop, List.length_drop, List.length_take, List.length_take]
    omega
  · rw [List.length_drop, List.length_take]
    omega
theorem mdigs_ne {s : List Int} {i : Nat} (h : i ≤ s.length) (hm : mend s i ≠ i) : mdigs s i ≠ [] := fun e => by
  have hl := mdigs_len h
  have hg := mend_ge s i
  rw [e, List.length_nil] at hl
  split at hl
  · rename_i hp
    have h1 := dend_ge s i
    have h3 := dend_ge s (dend s i + 1)
    unfold mend at hl
    rw [if_pos hp] at hl
    rcases hp.2 with h5 | h5
    · omega
    · have := dend_dig h5
      have := dend_ge s (dend s i + 1 + 1)
      omega
  · omega
theorem mdigs_le {s : List Int} {i : Nat} (h : i ≤ s.length) : (mdigs s i).length ≤ s.length := by
  have hl := mdigs_len h
  have hg := mend_le h
  omega
end Go.Proofs.YtbmhnjghpjkjpaaGreatDoor
namespace Go.PV
open Go
section
variable {P : Program} {nt : Nat} {E : Entry P} {H : Heap} {F : Frame}
def At (P : Program) (E : Entry P) (nt : Nat) (c : Code) (Q : Exit → Frame → Heap → Prop) (I : Nat → Nat → Frame → Heap → Prop) (l : Nat) : Prop :=
  ∀ n F H, I l n F H → ∃ R, findLabel c l = some (.seq .skip R) ∧ PW P E nt R (jumpQ (Jump E nt I n) Q) F H
theorem PW.scope5 {c : Code} {Q : Exit → Frame → Heap → Prop} (I : Nat → Nat → Frame → Heap → Prop) (n₀ l1 l2 l3 l4 l5 : Nat) (hI : ∀ l n F H, I l n F H → l = l1 ∨ l = l2 ∨ l = l3 ∨ l = l4 ∨ l = l5)
    (h1 : At P E nt c Q I l1) (h2 : At P E nt c Q I l1 → At P E nt c Q I l2) (h3 : At P E nt c Q I l2 → At P E nt c Q I l3) (h4 : At P E nt c Q I l3 → At P E nt c Q I l4) (h5 : At P E nt c Q I l4 → At P E nt c Q I l5)
    (first : At P E nt c Q I l5 → PW P E nt c (jumpQ (Jump E nt I n₀) Q) F H) : PW P E nt (.scope c) Q F H := by
  have a2 := h2 h1
  have a3 := h3 a2
  have a4 := h4 a3
  have a5 := h5 a4
  have go : ∀ {l}, At P E nt c Q I l → ∀ n F H, I l n F H → ∃ rest, findLabel c l = some rest ∧ PW P E nt rest (jumpQ (Jump E nt I n) Q) F H := fun hA n F H hi => by
    obtain ⟨R, hr, hp⟩ := hA n F H hi
    exact ⟨_, hr, PW.seq (PW.skip hp)⟩
  refine PW.scopeG I n₀ (first a5) fun l n F H hi => ?_
  rcases hI l n F H hi with rfl | rfl | rfl | rfl | rfl
  · exact go h1 n F H hi
  · exact go a2 n F H hi
  · exact go a3 n F H hi
  · exact go a4 n F H hi
  · exact go a5 n F H hi
theorem PW.fall {c R : Code} {l n : Nat} {I : Nat → Nat → Frame → Heap → Prop} {Q : Exit → Frame → Heap → Prop} (hA : At P E nt c Q I l) (hR : findLabel c l = some (.seq .skip R)) (h : Jump E nt I (n + 1) l F H) : PW P E nt (.seq (.label l) R) (jumpQ (Jump E nt I n) Q) F H := by
  obtain ⟨n', F', H', hn, hs, hi⟩ := h.ex
  obtain ⟨R', hr, hp⟩ := hA n' F' H' hi
  rw [hR] at hr
  cases hr
  refine PW.sub hs (PW.seq (PW.label (PW.mono hp fun e F2 H2 h1 => ?_)))
  cases e <;> try exact h1
  obtain ⟨n2, F3, H3, hn2, hs2, hi2⟩ := Jump.ex h1
  exact ⟨n2, F3, H3, by omega, hs2, hi2⟩
end
end Go.PV
namespace Go.Proofs.YtbmhnjghpjkjpaaGreatDoor
open Go Go.PV
theorem digit_any (s : List Int) (i : Nat) (hi : i ≤ 1000000000000000000) (hsl : s.length ≤ 281474976710656) : Meets Tryz.prog 57 [.str s, .int .i64 (i : Int)] (.bool (decide (isDig (s.getD i 0)))) := by
  by_cases h : i < s.length
  · exact digit_at s i h hsl
  · have d1 : decide ((i : Int) < (s.length : Int)) = false := decide_eq_false (by omega)
    have e : s.getD i 0 = 0 := by rw [List.getD_eq_getElem?_getD, List.getElem?_eq_none (by omega)]; rfl
    rw [e, show decide (isDig 0) = false by decide]
    refine meets_by ttOk Tryz.func57 Tryz.ntmps57 Tryz.results57 (by kernel_rfl) (c := _) rfl rfl rfl fun E => ?_
    simp only [argsFrame]
    repeat' first
      | (with_reducible first | refine PW.seq ?_ | refine PW.block ?_ | refine PW.fork ?_ | refine PW.skip ?_ | refine PW.exit ?_ | refine PW.ret ?_ | refine PW.scope ?_ | refine PW.label ?_ | refine PW.goto ?_) | (simp only [d1])
      | (with_reducible refine PW.region ttOk ?_ ?_
         · rfl)
      | (with_reducible refine PW.regionD ttOk mixed ?_ ?_ ?_
         · rfl
         · rfl) | (with_reducible refine ifW_dec (fun g => ?_) (fun g => ?_) <;> first | (exfalso; omega) | (simp -dsimp only [g, wkI])) | (with_reducible refine condE_dec (fun g => ?_) (fun g => ?_) <;> try (exfalso; omega)) | (with_reducible refine condE_not (fun g => ?_) (fun g => ?_) <;> try (exfalso; omega)) | (simp -dsimp only [↓wkA, ↓wkE, ↓wkJ, wkB, ↓tt, Nat.reduceBEq, Nat.reduceEqDiff, ↓reduceIte, Nat.reduceLT, Array.toList, Nat.reduceAdd, Nat.reduceMul, Int.reduceToNat, Int.reducePow, UInt8.reduceToNat]) | (simp -dsimp (disch := first | assumption | omega) only [dec_t, dec_f])
      | (refine And.intro ?_ ?_
         · first | omega | decide | (simp (disch := omega) only [wkW, Int.reduceToNat, Int.reducePow] <;> omega) | (simp <;> omega)) | (simp (disch := omega) only [wkW, Int.reduceToNat, Int.reducePow]) | fail
theorem one_of (s : List Int) (i : Nat) (a b : Int) (ha : a ≠ 0) (hb : b ≠ 0) (hi : i ≤ 1000000000000000000) (hsl : s.length ≤ 281474976710656) : Meets Tryz.prog 91 [.str s, .int .i64 (i : Int), .int .u8 a, .int .u8 b] (.bool (decide (s.getD i 0 = a ∨ s.getD i 0 = b))) := by
  rw [show decide (s.getD i 0 = a ∨ s.getD i 0 = b) = (decide (s.getD i 0 = a) || decide (s.getD i 0 = b)) from Bool.decide_or ..]
  by_cases h : i < s.length
  · have d1 : decide ((i : Int) < (s.length : Int)) = true := decide_eq_true (by omega)
    by_cases h1 : s.getD i 0 = a
    case' pos => have d2 : decide (s.getD i 0 = a) = true := decide_eq_true h1
    case' neg => have d2 : decide (s.getD i 0 = a) = false := decide_eq_false h1
    all_goals rw [d2]
    all_goals (refine meets_by ttOk Tryz.func91 Tryz.ntmps91 Tryz.results91 (by kernel_rfl) (c := _) rfl rfl rfl fun E => ?_; simp only [argsFrame])
    all_goals
      repeat' first
        | (with_reducible first | refine PW.seq ?_ | refine PW.block ?_ | refine PW.fork ?_ | refine PW.skip ?_ | refine PW.exit ?_ | refine PW.ret ?_ | refine PW.scope ?_ | refine PW.label ?_ | refine PW.goto ?_) | (simp only [d1, d2, Int.toNat_natCast, Bool.true_or, Bool.false_or])
        | (with_reducible refine PW.region ttOk ?_ ?_
           · rfl)
        | (with_reducible refine PW.regionD ttOk mixed ?_ ?_ ?_
           · rfl
           · rfl) | (with_reducible refine ifW_dec (fun g => ?_) (fun g => ?_) <;> first | (exfalso; omega) | (simp -dsimp only [g, wkI])) | (with_reducible refine condE_dec (fun g => ?_) (fun g => ?_) <;> try (exfalso; omega)) | (with_reducible refine condE_not (fun g => ?_) (fun g => ?_) <;> try (exfalso; omega)) | (simp -dsimp only [↓wkA, ↓wkE, ↓wkJ, wkB, ↓tt, Nat.reduceBEq, Nat.reduceEqDiff, ↓reduceIte, Nat.reduceLT, Array.toList, Nat.reduceAdd, Nat.reduceMul, Int.reduceToNat, Int.reducePow, UInt8.reduceToNat]) | (simp -dsimp (disch := first | assumption | omega) only [dec_t, dec_f])
        | (refine And.intro ?_ ?_
           · first | omega | decide | (simp (disch := omega) only [wkW, Int.reduceToNat, Int.reducePow] <;> omega) | (simp <;> omega)) | (simp (disch := omega) only [wkW, Int.reduceToNat, Int.reducePow]) | fail
  · have d1 : decide ((i : Int) < (s.length : Int)) = false := decide_eq_false (by omega)
    have e : s.getD i 0 = 0 := by rw [List.getD_eq_getElem?_getD, List.getElem?_eq_none (by omega)]; rfl
    rw [e, decide_eq_false (Ne.symm ha), decide_eq_false (Ne.symm hb), show (false || false) = false from rfl]
    refine meets_by ttOk Tryz.func91 Tryz.ntmps91 Tryz.results91 (by kernel_rfl) (c := _) rfl rfl rfl fun E => ?_
    simp only [argsFrame]
    repeat' first
      | (with_reducible first | refine PW.seq ?_ | refine PW.block ?_ | refine PW.fork ?_ | refine PW.skip ?_ | refine PW.exit ?_ | refine PW.ret ?_ | refine PW.scope ?_ | refine PW.label ?_ | refine PW.goto ?_) | (simp only [d1])
      | (with_reducible refine PW.region ttOk ?_ ?_
         · rfl)
      | (with_reducible refine PW.regionD ttOk mixed ?_ ?_ ?_
         · rfl
         · rfl) | (with_reducible refine ifW_dec (fun g => ?_) (fun g => ?_) <;> first | (exfalso; omega) | (simp -dsimp only [g, wkI])) | (with_reducible refine condE_dec (fun g => ?_) (fun g => ?_) <;> try (exfalso; omega)) | (with_reducible refine condE_not (fun g => ?_) (fun g => ?_) <;> try (exfalso; omega)) | (simp -dsimp only [↓wkA, ↓wkE, ↓wkJ, wkB, ↓tt, Nat.reduceBEq, Nat.reduceEqDiff, ↓reduceIte, Nat.reduceLT, Array.toList, Nat.reduceAdd, Nat.reduceMul, Int.reduceToNat, Int.reducePow, UInt8.reduceToNat]) | (simp -dsimp (disch := first | assumption | omega) only [dec_t, dec_f])
      | (refine And.intro ?_ ?_
         · first | omega | decide | (simp (disch := omega) only [wkW, Int.reduceToNat, Int.reducePow] <;> omega) | (simp <;> omega)) | (simp (disch := omega) only [wkW, Int.reduceToNat, Int.reducePow]) | fail
abbrev liF (s : List Int) (i fr : Nat) (pt : Int) (places : Nat) (ex : Int) (at' : Nat) (less : Bool) : PV.Frame := [(12, .bool less), (11, .int .i64 (at' : Int)), (10, .int .i64 ex), (9, .int .i64 (places : Int)), (8, .int .i64 pt), (7, .int .i64 (fr : Int)), (6, .bool false), (5, .int .i64 0), (4, .ptr 0 0 0), (1, .int .i64 (i : Int)), (0, .str s)]
abbrev liH (neg : Bool) (ds : List Int) : Heap := ⟨1, [(0, .var [.bool neg, .str ds, .int .i64 0])], [], [(0, 35)]⟩
def pntZ (s : List Int) (i : Nat) : Int := if pnt s i then (dend s i : Int) else -1
def litI (s : List Int) (neg : Bool) (f : Nat) : Nat → Nat → PV.Frame → Heap → Prop
  | 0, n, F, H => ∃ i : Nat, f ≤ i ∧ i ≤ s.length ∧ dend s i = dend s f ∧ n = 4 * (s.length + 1) + (s.length - i) ∧ F = liF s i f (-1) 0 0 0 false ∧ H = liH neg []
  | 1, n, F, H => n = 2 * (s.length + 1) ∧ F = liF s (mend s f) f (pntZ s f) (mplaces s f) 0 0 false ∧ H = liH neg []
  | 2, n, F, H => ∃ q : Nat, pnt s f ∧ dend s f + q < s.length ∧ dend s (dend s f + q + 1) = dend s (dend s f + 1) ∧ n = 3 * (s.length + 1) + (s.length - (dend s f + q)) ∧ F = liF s (dend s f + q) f (dend s f) q 0 0 false ∧ H = liH neg []
  | 3, n, F, H => ∃ (a : Nat) (less : Bool), mend s f ≠ f ∧ n = 0 ∧ F = liF s (eend s (mend s f)) f (pntZ s f) (mplaces s f) (eval s (mend s f)) a less ∧ H = liH neg (mdigs s f)
  | 4, n, F, H => ∃ k : Nat, mend s f ≠ f ∧ expo s (mend s f) ∧ sgn s (mend s f + 1) ≤ k ∧ isDig (s.getD k 0) ∧ dend s k = dend s (sgn s (mend s f + 1)) ∧ n = (s.length + 1) + (s.length - k) ∧
      F = liF s (mend s f) f (pntZ s f) (mplaces s f) (capN s (sgn s (mend s f + 1)) k) k (decide (s.getD (mend s f + 1) 0 = 45)) ∧ H = liH neg (mdigs s f)
  | _, _, _, _ => False
theorem litI_l {s : List Int} {neg : Bool} {f : Nat} : ∀ l n F H, litI s neg f l n F H → l = 3 ∨ l = 4 ∨ l = 1 ∨ l = 2 ∨ l = 0
  | 0, _, _, _, _ => by omega
  | 1, _, _, _, _ => by omega
  | 2, _, _, _, _ => by omega
  | 3, _, _, _, _ => by omega
  | 4, _, _, _, _ => by omega
  | n + 5, _, _, _, h => h.elim
theorem lit_walk (s : List Int) (i : Nat) (hi : i ≤ s.length) (hsl : s.length ≤ 281474976710656) (res : PV) (hr1 : mend s (sgn s i) = sgn s i → res = .tup [.agg [.bool false, .str [], .int .i64 0], .int .i64 0, .bool false])
    (hr2 : mend s (sgn s i) ≠ sgn s i → res = .tup [.agg [.bool (decide (s.getD i 0 = 45)), .str (mdigs s (sgn s i)), .int .i64 (eval s (mend s (sgn s i)) - mplaces s (sgn s i))], .int .i64 (eend s (mend s (sgn s i)) : Int), .bool true]) :
    Meets Tryz.prog 48 [.str s, .int .i64 (i : Int)] res := by
  have hone := fun (k : Nat) (hk : k ≤ 1000000000000000000) (a b : Int) (ha : a ≠ 0) (hb : b ≠ 0) => one_of s k a b ha hb hk hsl
  have hdig := fun (k : Nat) (hk : k ≤ 1000000000000000000) => digit_any s k hk hsl
  have hf := sgn_le hi
  have hm := mend_le hf
  have he := eend_le hm
  have hev := eval_le s (mend s (sgn s i))
  have hpl := mplaces_le hf
  have hN0 : s.getD i 0 ≠ 43 → s.getD i 0 ≠ 45 → decide (s.getD i 0 = 45) = false := fun _ h => decide_eq_false h
  generalize hN : decide (s.getD i 0 = 45) = N at *
  have hs1 : s.getD i 0 = 43 ∨ s.getD i 0 = 45 → sgn s i = i + 1 := fun h => if_pos h
  have hs2 : ¬ (s.getD i 0 = 43 ∨ s.getD i 0 = 45) → sgn s i = i := fun h => if_neg h
  generalize hfe : sgn s i = f at *
  refine meets_by ttOk Tryz.func48 Tryz.ntmps48 Tryz.results48 (by kernel_rfl) (c := _) rfl rfl rfl fun E => ?_
  simp only [argsFrame]
  refine PW.seq ?_
  (with_reducible refine PW.region ttOk ?_ ?_
   · rfl)
  simp -dsimp only [↓wkA, ↓wkE, ↓wkJ, wkB, ↓tt, Nat.reduceBEq, Nat.reduceEqDiff, ↓reduceIte, Nat.reduceLT, Array.toList, Nat.reduceAdd, Nat.reduceMul, Int.reduceToNat, Int.reducePow, UInt8.reduceToNat]
  refine PW.scope5 (litI s N f) (5 * (s.length + 1)) 3 4 1 2 0 litI_l ?_ ?_ ?_ ?_ ?_ ?_
  · rintro n F H ⟨a, less, hne, rfl, rfl, rfl⟩
    refine ⟨_, rfl, ?_⟩
    have h := hr2 hne
    subst h
    have w1 : IntKind.wrap .i64 (eval s (mend s f) - (mplaces s f : Int)) = eval s (mend s f) - mplaces s f := wrap_i64 (by omega)
    repeat' first
      | (with_reducible first | refine PW.seq ?_ | refine PW.block ?_ | refine PW.fork ?_ | refine PW.skip ?_ | refine PW.exit ?_ | refine PW.ret ?_ | refine PW.scope ?_ | refine PW.label ?_ | refine PW.goto ?_) | (simp only [w1])
      | (with_reducible refine PW.region ttOk ?_ ?_
         · rfl)
      | (with_reducible refine PW.regionD ttOk mixed ?_ ?_ ?_
         · rfl
         · rfl) | (with_reducible refine ifW_dec (fun g => ?_) (fun g => ?_) <;> first | (exfalso; omega) | (simp -dsimp only [g, wkI])) | (with_reducible refine condE_dec (fun g => ?_) (fun g => ?_) <;> try (exfalso; omega)) | (with_reducible refine condE_not (fun g => ?_) (fun g => ?_) <;> try (exfalso; omega)) | (simp -dsimp only [↓wkA, ↓wkE, ↓wkJ, wkB, ↓tt, Nat.reduceBEq, Nat.reduceEqDiff, ↓reduceIte, Nat.reduceLT, Array.toList, Nat.reduceAdd, Nat.reduceMul, Int.reduceToNat, Int.reducePow, UInt8.reduceToNat]) | (simp -dsimp (disch := first | assumption | omega) only [dec_t, dec_f])
      | (refine And.intro ?_ ?_
         · first | omega | decide | (simp (disch := omega) only [wkW, Int.reduceToNat, Int.reducePow] <;> omega) | (simp <;> omega)) | (simp (disch := omega) only [wkW, Int.reduceToNat, Int.reducePow]) | fail
  · rintro a3 n F H ⟨k, hne, hx, hk, hd, hde, rfl, rfl, rfl⟩
    refine ⟨_, rfl, ?_⟩
    have hd' : 48 ≤ s.getD k 0 ∧ s.getD k 0 ≤ 57 := hd
    have hkl := dig_lt hd
    have hcs := capN_succ hk hd
    have hcl := capN_le s (sgn s (mend s f + 1)) k
    have w1 : IntKind.wrap .u8 (s.getD k 0 - 48) = s.getD k 0 - 48 := wrap_u8 (by omega)
    have w2 : IntKind.wrap .i64 (s.getD k 0 - 48) = s.getD k 0 - 48 := wrap_i64 (by omega)
    have w3 : IntKind.wrap .i64 ((capN s (sgn s (mend s f + 1)) k : Int) * 10) = (capN s (sgn s (mend s f + 1)) k : Int) * 10 := wrap_i64 (by omega)
    obtain ⟨v, hv⟩ : ∃ v : Int, v = (capN s (sgn s (mend s f + 1)) k : Int) * 10 + (s.getD k 0 - 48) := ⟨_, rfl⟩
    have w4 : IntKind.wrap .i64 ((capN s (sgn s (mend s f + 1)) k : Int) * 10 + (s.getD k 0 - 48)) = v := by rw [hv]; exact wrap_i64 (by omega)
    have w5 : IntKind.wrap .i64 ((k : Int) + 1) = ((k + 1 : Nat) : Int) := wrap_i64 (by omega)
    have d0 : decide ((k : Int) < (s.length : Int)) = true := decide_eq_true (by omega)
    have hg := hdig (k + 1) (by omega)
    have heval : eval s (mend s f) = if s.getD (mend s f + 1) 0 = 45 then -(capN s (sgn s (mend s f + 1)) (eend s (mend s f)) : Int) else capN s (sgn s (mend s f + 1)) (eend s (mend s f)) := if_pos hx
    have heend : eend s (mend s f) = dend s (sgn s (mend s f + 1)) := if_pos hx
    generalize hc0 : capN s (sgn s (mend s f + 1)) k = c0 at *
    generalize hc1 : capN s (sgn s (mend s f + 1)) (k + 1) = c1 at *
    have w7 : IntKind.wrap .i64 (0 - 1000000000000000) = -1000000000000000 := by decide
    have w6 : IntKind.wrap .i64 (0 - (c1 : Int)) = -(c1 : Int) := by rw [show (0 : Int) - c1 = -(c1 : Int) by omega]; exact wrap_i64 (by omega)
    have hcase : (1000000000000000 < v ∧ c1 = 1000000000000000) ∨ (¬ 1000000000000000 < v ∧ v = c1) := by omega
    by_cases hg1 : isDig (s.getD (k + 1) 0)
    · rw [decide_eq_true hg1] at hg
      have hl1 := dig_lt hg1
      have hnx : ∀ ex : Int, ex = c1 → litI s N f 4 ((s.length + 1) + (s.length - (k + 1))) (liF s (mend s f) f (pntZ s f) (mplaces s f) ex (k + 1) (decide (s.getD (mend s f + 1) 0 = 45))) (liH N (mdigs s f)) := fun ex hex => ⟨k + 1, hne, hx, by omega, hg1, by rw [← hde]; exact (dend_dig hd).symm, rfl, by rw [hex, hc1], rfl⟩
      rcases hcase with ⟨hov, e2⟩ | ⟨hov, e2⟩
      · have d1 : decide (1000000000000000 < v) = true := decide_eq_true hov
        repeat' first
          | (refine PW.fall a3 rfl ?_)
          | (with_reducible first | refine PW.seq ?_ | refine PW.block ?_ | refine PW.fork ?_ | refine PW.skip ?_ | refine PW.exit ?_ | refine PW.ret ?_ | refine PW.scope ?_ | refine PW.label ?_ | refine PW.goto ?_) | (simp only [w1, w2, w3, w4, w5, d0, d1, Int.toNat_natCast])
          | (with_reducible refine PW.region ttOk ?_ ?_
             · rfl)
          | (with_reducible refine PW.regionD ttOk mixed ?_ ?_ ?_
             · rfl
             · rfl) | (with_reducible refine ifW_dec (fun g => ?_) (fun g => ?_) <;> first | (exfalso; omega) | (simp -dsimp only [g, wkI])) | (with_reducible refine condE_dec (fun g => ?_) (fun g => ?_) <;> try (exfalso; omega)) | (with_reducible refine condE_not (fun g => ?_) (fun g => ?_) <;> try (exfalso; omega)) | (simp -dsimp only [↓wkA, ↓wkE, ↓wkJ, wkB, ↓tt, Nat.reduceBEq, Nat.reduceEqDiff, ↓reduceIte, Nat.reduceLT, Array.toList, Nat.reduceAdd, Nat.reduceMul, Int.reduceToNat, Int.reducePow, UInt8.reduceToNat]) | (refine call_by (hg) (views_data rfl) ⟨trivial, trivial, trivial⟩ rfl ?_) | (simp -dsimp (disch := first | assumption | omega) only [dec_t, dec_f])
          | (refine And.intro ?_ ?_
             · first | omega | decide | (simp (disch := omega) only [wkW, Int.reduceToNat, Int.reducePow] <;> omega) | (simp <;> omega)) | (simp (disch := omega) only [wkW, Int.reduceToNat, Int.reducePow]) | fail
        exact Jump.mk' _ (liF s (mend s f) f (pntZ s f) (mplaces s f) 1000000000000000 (k + 1) _) (liH N (mdigs s f)) (by omega) (Sub.norm ⟨rfl, rfl, rfl, rfl, rfl, rfl, rfl, rfl, rfl, rfl, rfl, trivial⟩ ⟨rfl, trivial⟩ (Nat.le_refl _) rfl rfl rfl rfl (tyOk_spec rfl)) (hnx _ (by rw [e2]; rfl))
      · subst e2
        have d1 : decide (1000000000000000 < (c1 : Int)) = false := decide_eq_false hov
        repeat' first
          | (refine PW.fall a3 rfl ?_)
          | (with_reducible first | refine PW.seq ?_ | refine PW.block ?_ | refine PW.fork ?_ | refine PW.skip ?_ | refine PW.exit ?_ | refine PW.ret ?_ | refine PW.scope ?_ | refine PW.label ?_ | refine PW.goto ?_) | (simp only [w1, w2, w3, w4, w5, d0, d1, Int.toNat_natCast])
          | (with_reducible refine PW.region ttOk ?_ ?_
             · rfl)
          | (with_reducible refine PW.regionD ttOk mixed ?_ ?_ ?_
             · rfl
             · rfl) | (with_reducible refine ifW_dec (fun g => ?_) (fun g => ?_) <;> first | (exfalso; omega) | (simp -dsimp only [g, wkI])) | (with_reducible refine condE_dec (fun g => ?_) (fun g => ?_) <;> try (exfalso; omega)) | (with_reducible refine condE_not (fun g => ?_) (fun g => ?_) <;> try (exfalso; omega)) | (simp -dsimp only [↓wkA, ↓wkE, ↓wkJ, wkB, ↓tt, Nat.reduceBEq, Nat.reduceEqDiff, ↓reduceIte, Nat.reduceLT, Array.toList, Nat.reduceAdd, Nat.reduceMul, Int.reduceToNat, Int.reducePow, UInt8.reduceToNat]) | (refine call_by (hg) (views_data rfl) ⟨trivial, trivial, trivial⟩ rfl ?_) | (simp -dsimp (disch := first | assumption | omega) only [dec_t, dec_f])
          | (refine And.intro ?_ ?_
             · first | omega | decide | (simp (disch := omega) only [wkW, Int.reduceToNat, Int.reducePow] <;> omega) | (simp <;> omega)) | (simp (disch := omega) only [wkW, Int.reduceToNat, Int.reducePow]) | fail
        exact Jump.mk' _ (liF s (mend s f) f (pntZ s f) (mplaces s f) (c1 : Int) (k + 1) _) (liH N (mdigs s f)) (by omega) (Sub.norm ⟨rfl, rfl, rfl, rfl, rfl, rfl, rfl, rfl, rfl, rfl, rfl, trivial⟩ ⟨rfl, trivial⟩ (Nat.le_refl _) rfl rfl rfl rfl (tyOk_spec rfl)) (hnx _ rfl)
    · rw [decide_eq_false hg1] at hg
      have hen : eend s (mend s f) = k + 1 := by rw [heend, ← hde, dend_dig hd, dend_not hg1]
      rw [hen, hc1] at heval
      have hnx : ∀ (ex : Int) (less : Bool), eval s (mend s f) = ex → litI s N f 3 0 (liF s (k + 1) f (pntZ s f) (mplaces s f) ex (k + 1) less) (liH N (mdigs s f)) := fun ex less hex => ⟨k + 1, less, hne, rfl, by rw [hex, hen], rfl⟩
      by_cases h45 : s.getD (mend s f + 1) 0 = 45
      · have d2 : decide (s.getD (mend s f + 1) 0 = 45) = true := decide_eq_true h45
        rw [if_pos h45] at heval
        rw [d2]
        rcases hcase with ⟨hov, e2⟩ | ⟨hov, e2⟩
        · have d1 : decide (1000000000000000 < v) = true := decide_eq_true hov
          repeat' first
            | (refine PW.fall a3 rfl ?_)
            | (with_reducible first | refine PW.seq ?_ | refine PW.block ?_ | refine PW.fork ?_ | refine PW.skip ?_ | refine PW.exit ?_ | refine PW.ret ?_ | refine PW.scope ?_ | refine PW.label ?_ | refine PW.goto ?_) | (simp only [w1, w2, w3, w4, w5, w7, d0, d1, Int.toNat_natCast])
            | (with_reducible refine PW.region ttOk ?_ ?_
               · rfl)
            | (with_reducible refine PW.regionD ttOk mixed ?_ ?_ ?_
               · rfl
               · rfl) | (with_reducible refine ifW_dec (fun g => ?_) (fun g => ?_) <;> first | (exfalso; omega) | (simp -dsimp only [g, wkI])) | (with_reducible refine condE_dec (fun g => ?_) (fun g => ?_) <;> try (exfalso; omega)) | (with_reducible refine condE_not (fun g => ?_) (fun g => ?_) <;> try (exfalso; omega)) | (simp -dsimp only [↓wkA, ↓wkE, ↓wkJ, wkB, ↓tt, Nat.reduceBEq, Nat.reduceEqDiff, ↓reduceIte, Nat.reduceLT, Array.toList, Nat.reduceAdd, Nat.reduceMul, Int.reduceToNat, Int.reducePow, UInt8.reduceToNat]) | (refine call_by (hg) (views_data rfl) ⟨trivial, trivial, trivial⟩ rfl ?_) | (simp -dsimp (disch := first | assumption | omega) only [dec_t, dec_f])
            | (refine And.intro ?_ ?_
               · first | omega | decide | (simp (disch := omega) only [wkW, Int.reduceToNat, Int.reducePow] <;> omega) | (simp <;> omega)) | (simp (disch := omega) only [wkW, Int.reduceToNat, Int.reducePow]) | fail
          exact Jump.mk' _ (liF s (k + 1) f (pntZ s f) (mplaces s f) (-1000000000000000) (k + 1) true) (liH N (mdigs s f)) (by omega) (Sub.norm ⟨rfl, rfl, rfl, rfl, rfl, rfl, rfl, rfl, rfl, rfl, rfl, trivial⟩ ⟨rfl, trivial⟩ (Nat.le_refl _) rfl rfl rfl rfl (tyOk_spec rfl)) (hnx _ _ (by rw [heval, e2]; rfl))
        · subst e2
          have d1 : decide (1000000000000000 < (c1 : Int)) = false := decide_eq_false hov
          repeat' first
            | (refine PW.fall a3 rfl ?_)
            | (with_reducible first | refine PW.seq ?_ | refine PW.block ?_ | refine PW.fork ?_ | refine PW.skip ?_ | refine PW.exit ?_ | refine PW.ret ?_ | refine PW.scope ?_ | refine PW.label ?_ | refine PW.goto ?_) | (simp only [w1, w2, w3, w4, w5, w6, d0, d1, Int.toNat_natCast])
            | (with_reducible refine PW.region ttOk ?_ ?_
               · rfl)
            | (with_reducible refine PW.regionD ttOk mixed ?_ ?_ ?_
               · rfl
               · rfl) | (with_reducible refine ifW_dec (fun g => ?_) (fun g => ?_) <;> first | (exfalso; omega) | (simp -dsimp only [g, wkI])) | (with_reducible refine condE_dec (fun g => ?_) (fun g => ?_) <;> try (exfalso; omega)) | (with_reducible refine condE_not (fun g => ?_) (fun g => ?_) <;> try (exfalso; omega)) | (simp -dsimp only [↓wkA, ↓wkE, ↓wkJ, wkB, ↓tt, Nat.reduceBEq, Nat.reduceEqDiff, ↓reduceIte, Nat.reduceLT, Array.toList, Nat.reduceAdd, Nat.reduceMul, Int.reduceToNat, Int.reducePow, UInt8.reduceToNat]) | (refine call_by (hg) (views_data rfl) ⟨trivial, trivial, trivial⟩ rfl ?_) | (simp -dsimp (disch := first | assumption | omega) only [dec_t, dec_f])
            | (refine And.intro ?_ ?_
               · first | omega | decide | (simp (disch := omega) only [wkW, Int.reduceToNat, Int.reducePow] <;> omega) | (simp <;> omega)) | (simp (disch := omega) only [wkW, Int.reduceToNat, Int.reducePow]) | fail
          exact Jump.mk' _ (liF s (k + 1) f (pntZ s f) (mplaces s f) (-(c1 : Int)) (k + 1) true) (liH N (mdigs s f)) (by omega) (Sub.norm ⟨rfl, rfl, rfl, rfl, rfl, rfl, rfl, rfl, rfl, rfl, rfl, trivial⟩ ⟨rfl, trivial⟩ (Nat.le_refl _) rfl rfl rfl rfl (tyOk_spec rfl)) (hnx _ _ heval)
      · have d2 : decide (s.getD (mend s f + 1) 0 = 45) = false := decide_eq_false h45
        rw [if_neg h45] at heval
        rw [d2]
        rcases hcase with ⟨hov, e2⟩ | ⟨hov, e2⟩
        · have d1 : decide (1000000000000000 < v) = true := decide_eq_true hov
          repeat' first
            | (refine PW.fall a3 rfl ?_)
            | (with_reducible first | refine PW.seq ?_ | refine PW.block ?_ | refine PW.fork ?_ | refine PW.skip ?_ | refine PW.exit ?_ | refine PW.ret ?_ | refine PW.scope ?_ | refine PW.label ?_ | refine PW.goto ?_) | (simp only [w1, w2, w3, w4, w5, w7, d0, d1, Int.toNat_natCast])
            | (with_reducible refine PW.region ttOk ?_ ?_
               · rfl)
            | (with_reducible refine PW.regionD ttOk mixed ?_ ?_ ?_
               · rfl
               · rfl) | (with_reducible refine ifW_dec (fun g => ?_) (fun g => ?_) <;> first | (exfalso; omega) | (simp -dsimp only [g, wkI])) | (with_reducible refine condE_dec (fun g => ?_) (fun g => ?_) <;> try (exfalso; omega)) | (with_reducible refine condE_not (fun g => ?_) (fun g => ?_) <;> try (exfalso; omega)) | (simp -dsimp only [↓wkA, ↓wkE, ↓wkJ, wkB, ↓tt, Nat.reduceBEq, Nat.reduceEqDiff, ↓reduceIte, Nat.reduceLT, Array.toList, Nat.reduceAdd, Nat.reduceMul, Int.reduceToNat, Int.reducePow, UInt8.reduceToNat]) | (refine call_by (hg) (views_data rfl) ⟨trivial, trivial, trivial⟩ rfl ?_) | (simp -dsimp (disch := first | assumption | omega) only [dec_t, dec_f])
            | (refine And.intro ?_ ?_
               · first | omega | decide | (simp (disch := omega) only [wkW, Int.reduceToNat, Int.reducePow] <;> omega) | (simp <;> omega)) | (simp (disch := omega) only [wkW, Int.reduceToNat, Int.reducePow]) | fail
          exact Jump.mk' _ (liF s (k + 1) f (pntZ s f) (mplaces s f) 1000000000000000 (k + 1) false) (liH N (mdigs s f)) (by omega) (Sub.norm ⟨rfl, rfl, rfl, rfl, rfl, rfl, rfl, rfl, rfl, rfl, rfl, trivial⟩ ⟨rfl, trivial⟩ (Nat.le_refl _) rfl rfl rfl rfl (tyOk_spec rfl)) (hnx _ _ (by rw [heval, e2]; rfl))
        · subst e2
          have d1 : decide (1000000000000000 < (c1 : Int)) = false := decide_eq_false hov
          repeat' first
            | (refine PW.fall a3 rfl ?_)
            | (with_reducible first | refine PW.seq ?_ | refine PW.block ?_ | refine PW.fork ?_ | refine PW.skip ?_ | refine PW.exit ?_ | refine PW.ret ?_ | refine PW.scope ?_ | refine PW.label ?_ | refine PW.goto ?_) | (simp only [w1, w2, w3, w4, w5, w6, d0, d1, Int.toNat_natCast])
            | (with_reducible refine PW.region ttOk ?_ ?_
               · rfl)
            | (with_reducible refine PW.regionD ttOk mixed ?_ ?_ ?_
               · rfl
               · rfl) | (with_reducible refine ifW_dec (fun g => ?_) (fun g => ?_) <;> first | (exfalso; omega) | (simp -dsimp only [g, wkI])) | (with_reducible refine condE_dec (fun g => ?_) (fun g => ?_) <;> try (exfalso; omega)) | (with_reducible refine condE_not (fun g => ?_) (fun g => ?_) <;> try (exfalso; omega)) | (simp -dsimp only [↓wkA, ↓wkE, ↓wkJ, wkB, ↓tt, Nat.reduceBEq, Nat.reduceEqDiff, ↓reduceIte, Nat.reduceLT, Array.toList, Nat.reduceAdd, Nat.reduceMul, Int.reduceToNat, Int.reducePow, UInt8.reduceToNat]) | (refine call_by (hg) (views_data rfl) ⟨trivial, trivial, trivial⟩ rfl ?_) | (simp -dsimp (disch := first | assumption | omega) only [dec_t, dec_f])
            | (refine And.intro ?_ ?_
               · first | omega | decide | (simp (disch := omega) only [wkW, Int.reduceToNat, Int.reducePow] <;> omega) | (simp <;> omega)) | (simp (disch := omega) only [wkW, Int.reduceToNat, Int.reducePow]) | fail
          exact Jump.mk' _ (liF s (k + 1) f (pntZ s f) (mplaces s f) (c1 : Int) (k + 1) false) (liH N (mdigs s f)) (by omega) (Sub.norm ⟨rfl, rfl, rfl, rfl, rfl, rfl, rfl, rfl, rfl, rfl, rfl, trivial⟩ ⟨rfl, trivial⟩ (Nat.le_refl _) rfl rfl rfl rfl (tyOk_spec rfl)) (hnx _ _ heval)
  · rintro a4 n F H ⟨rfl, rfl, rfl⟩
    refine ⟨_, rfl, ?_⟩
    by_cases hne : mend s f = f
    · have h := hr1 hne
      subst h
      have d1 : decide ((mend s f : Int) = (f : Int)) = true := decide_eq_true (by omega)
      repeat' first
        | (with_reducible first | refine PW.seq ?_ | refine PW.block ?_ | refine PW.fork ?_ | refine PW.skip ?_ | refine PW.exit ?_ | refine PW.ret ?_ | refine PW.scope ?_ | refine PW.label ?_ | refine PW.goto ?_) | (simp only [d1])
        | (with_reducible refine PW.region ttOk ?_ ?_
           · rfl)
        | (with_reducible refine PW.regionD ttOk mixed ?_ ?_ ?_
           · rfl
           · rfl) | (with_reducible refine ifW_dec (fun g => ?_) (fun g => ?_) <;> first | (exfalso; omega) | (simp -dsimp only [g, wkI])) | (with_reducible refine condE_dec (fun g => ?_) (fun g => ?_) <;> try (exfalso; omega)) | (with_reducible refine condE_not (fun g => ?_) (fun g => ?_) <;> try (exfalso; omega)) | (simp -dsimp only [↓wkA, ↓wkE, ↓wkJ, wkB, ↓tt, Nat.reduceBEq, Nat.reduceEqDiff, ↓reduceIte, Nat.reduceLT, Array.toList, Nat.reduceAdd, Nat.reduceMul, Int.reduceToNat, Int.reducePow, UInt8.reduceToNat]) | (simp -dsimp (disch := first | assumption | omega) only [dec_t, dec_f])
        | (refine And.intro ?_ ?_
           · first | omega | decide | (simp (disch := omega) only [wkW, Int.reduceToNat, Int.reducePow] <;> omega) | (simp <;> omega)) | (simp (disch := omega) only [wkW, Int.reduceToNat, Int.reducePow]) | fail
    · have d1 : decide ((mend s f : Int) = (f : Int)) = false := decide_eq_false (by omega)
      have hmg := mend_ge s f
      have hgE := hone (mend s f) (by omega) 101 69 (by decide) (by decide)
      have hgS := hone (mend s f + 1) (by omega) 43 45 (by decide) (by decide)
      have hgD := hdig (sgn s (mend s f + 1)) (by have := (sgn_ge s (mend s f + 1)).2; omega)
      have w1 : IntKind.wrap .i64 ((mend s f : Int) + 1) = ((mend s f + 1 : Nat) : Int) := wrap_i64 (by omega)
      have w2 : IntKind.wrap .i64 (((mend s f + 1 : Nat) : Int) + 1) = ((mend s f + 1 + 1 : Nat) : Int) := wrap_i64 (by omega)
      have w3 : IntKind.wrap .i64 ((dend s f : Int) + 1) = ((dend s f + 1 : Nat) : Int) := wrap_i64 (by have := dend_le hf; omega)
      have hdl := dend_le hf
      have hdg := dend_ge s f
      -- the digits
      have hpt : (pnt s f ∧ decide ((0 : Int) ≤ pntZ s f) = true ∧ pntZ s f = (dend s f : Int) ∧ dend s f + 1 ≤ mend s f ∧ (s.take (dend s f)).drop f ++ (s.take (mend s f)).drop (dend s f + 1) = mdigs s f) ∨ (decide ((0 : Int) ≤ pntZ s f) = false ∧ (s.take (mend s f)).drop f = mdigs s f) := by
        by_cases hp : pnt s f
        · have e1 : pntZ s f = (dend s f : Int) := if_pos hp
          refine .inl ⟨hp, decide_eq_true (by omega), e1, ?_, (if_pos hp).symm⟩
          unfold mend
          rw [if_pos hp]
          exact dend_ge s _
        · have e1 : pntZ s f = -1 := if_neg hp
          refine .inr ⟨decide_eq_false (by omega), ?_⟩
          unfold mdigs mend
          rw [if_neg hp, if_neg hp]
      have hdone : ∀ (a : Nat) (less : Bool), ¬ expo s (mend s f) → litI s N f 3 0 (liF s (mend s f) f (pntZ s f) (mplaces s f) 0 a less) (liH N (mdigs s f)) := fun a less hx => by
        have e1 : eend s (mend s f) = mend s f := if_neg hx
        have e2 : eval s (mend s f) = 0 := if_neg hx
        exact ⟨a, less, hne, rfl, by rw [e1, e2], rfl⟩
      have hexp : expo s (mend s f) → litI s N f 4 ((s.length + 1) + (s.length - sgn s (mend s f + 1))) (liF s (mend s f) f (pntZ s f) (mplaces s f) 0 (sgn s (mend s f + 1)) (decide (s.getD (mend s f + 1) 0 = 45))) (liH N (mdigs s f)) := fun hx =>
        ⟨sgn s (mend s f + 1), hne, hx, Nat.le_refl _, hx.2, rfl, rfl, by rw [capN_nil]; rfl, rfl⟩
      have hlt : ∀ {j : Nat} {x : Int}, s.getD j 0 = x → x ≠ 0 → decide ((j : Int) < (s.length : Int)) = true := fun {j x} h h0 => decide_eq_true (by have := getD_lt (s := s) (i := j) (by omega); omega)
      rcases hpt with ⟨hp, d2, hz, hdm, hds⟩ | ⟨d2, hds⟩
      case' inr => have hz : pntZ s f = pntZ s f := rfl
      all_goals
        rw [hz] at d2 hexp hdone ⊢
        by_cases hE : s.getD (mend s f) 0 = 101 ∨ s.getD (mend s f) 0 = 69
        · rw [decide_eq_true hE] at hgE
          by_cases hS : s.getD (mend s f + 1) 0 = 43 ∨ s.getD (mend s f + 1) 0 = 45
          · rw [decide_eq_true hS] at hgS
            have eS : sgn s (mend s f + 1) = mend s f + 1 + 1 := if_pos hS
            rw [eS] at hgD hexp
            have hl3 : mend s f + 1 < s.length := by rcases hS with h | h <;> exact getD_lt (by rw [h]; decide)
            have d3 : decide (((mend s f + 1 : Nat) : Int) < (s.length : Int)) = true := by rcases hS with h | h <;> exact hlt h (by decide)
            by_cases hD : isDig (s.getD (mend s f + 1 + 1) 0)
            · rw [decide_eq_true hD] at hgD
              have hx : expo s (mend s f) := ⟨hE, by rw [eS]; exact hD⟩
              repeat' first
                | (refine PW.fall a4 rfl ?_)
                | (with_reducible first | refine PW.seq ?_ | refine PW.block ?_ | refine PW.fork ?_ | refine PW.skip ?_ | refine PW.exit ?_ | refine PW.ret ?_ | refine PW.scope ?_ | refine PW.label ?_ | refine PW.goto ?_) | (simp only [d1, d2, d3, w1, w2, w3, Int.toNat_natCast]) | (simp only [hds])
                | (with_reducible refine PW.region ttOk ?_ ?_
                   · rfl)
                | (with_reducible refine PW.regionS ttOk mixed ?_ ?_ ?_ ?_
                   · rfl
                   · rfl
                   · rfl)
                | (with_reducible refine PW.regionD ttOk mixed ?_ ?_ ?_
                   · rfl
                   · rfl) | (with_reducible refine ifW_dec (fun g => ?_) (fun g => ?_) <;> first | (exfalso; omega) | (simp -dsimp only [g, wkI])) | (with_reducible refine condE_dec (fun g => ?_) (fun g => ?_) <;> try (exfalso; omega)) | (with_reducible refine condE_not (fun g => ?_) (fun g => ?_) <;> try (exfalso; omega)) | (simp -dsimp only [↓opsE_nil, ↓opsE_cons, ↓opsX_nil, ↓opsX_cons, same_self, and_true, true_and, ↓wkA, ↓wkE, ↓wkJ, wkB, ↓tt, Nat.reduceBEq, Nat.reduceEqDiff, ↓reduceIte, Nat.reduceLT, Array.toList, Nat.reduceAdd, Nat.reduceMul, Int.reduceToNat, Int.reducePow, UInt8.reduceToNat]) | (refine call_by (hgE) (views_data rfl) ⟨trivial, trivial, trivial, trivial, trivial⟩ rfl ?_) | (refine call_by (hgS) (views_data rfl) ⟨trivial, trivial, trivial, trivial, trivial⟩ rfl ?_) | (refine call_by (hgD) (views_data rfl) ⟨trivial, trivial, trivial⟩ rfl ?_) | (simp -dsimp (disch := first | assumption | omega) only [dec_t, dec_f])
                | (refine And.intro ?_ ?_
                   · first | omega | decide | (simp (disch := omega) only [wkW, Int.reduceToNat, Int.reducePow] <;> omega) | (simp <;> omega)) | (simp (disch := omega) only [wkW, Int.reduceToNat, Int.reducePow]) | fail
              exact Jump.mk' _ (liF s (mend s f) f _ (mplaces s f) 0 (mend s f + 1 + 1) _) (liH N (mdigs s f)) (by omega) (Sub.norm ⟨rfl, rfl, rfl, rfl, rfl, rfl, rfl, rfl, rfl, rfl, rfl, trivial⟩ ⟨rfl, trivial⟩ (Nat.le_refl _) rfl rfl rfl rfl (tyOk_spec rfl)) (hexp hx)
            · rw [decide_eq_false hD] at hgD
              repeat' first
                | (refine PW.fall a4 rfl ?_)
                | (with_reducible first | refine PW.seq ?_ | refine PW.block ?_ | refine PW.fork ?_ | refine PW.skip ?_ | refine PW.exit ?_ | refine PW.ret ?_ | refine PW.scope ?_ | refine PW.label ?_ | refine PW.goto ?_) | (simp only [d1, d2, d3, w1, w2, w3, Int.toNat_natCast]) | (simp only [hds])
                | (with_reducible refine PW.region ttOk ?_ ?_
                   · rfl)
                | (with_reducible refine PW.regionS ttOk mixed ?_ ?_ ?_ ?_
                   · rfl
                   · rfl
                   · rfl)
                | (with_reducible refine PW.regionD ttOk mixed ?_ ?_ ?_
                   · rfl
                   · rfl) | (with_reducible refine ifW_dec (fun g => ?_) (fun g => ?_) <;> first | (exfalso; omega) | (simp -dsimp only [g, wkI])) | (with_reducible refine condE_dec (fun g => ?_) (fun g => ?_) <;> try (exfalso; omega)) | (with_reducible refine condE_not (fun g => ?_) (fun g => ?_) <;> try (exfalso; omega)) | (simp -dsimp only [↓opsE_nil, ↓opsE_cons, ↓opsX_nil, ↓opsX_cons, same_self, and_true, true_and, ↓wkA, ↓wkE, ↓wkJ, wkB, ↓tt, Nat.reduceBEq, Nat.reduceEqDiff, ↓reduceIte, Nat.reduceLT, Array.toList, Nat.reduceAdd, Nat.reduceMul, Int.reduceToNat, Int.reducePow, UInt8.reduceToNat]) | (refine call_by (hgE) (views_data rfl) ⟨trivial, trivial, trivial, trivial, trivial⟩ rfl ?_) | (refine call_by (hgS) (views_data rfl) ⟨trivial, trivial, trivial, trivial, trivial⟩ rfl ?_) | (refine call_by (hgD) (views_data rfl) ⟨trivial, trivial, trivial⟩ rfl ?_) | (simp -dsimp (disch := first | assumption | omega) only [dec_t, dec_f])
                | (refine And.intro ?_ ?_
                   · first | omega | decide | (simp (disch := omega) only [wkW, Int.reduceToNat, Int.reducePow] <;> omega) | (simp <;> omega)) | (simp (disch := omega) only [wkW, Int.reduceToNat, Int.reducePow]) | fail
              exact Jump.mk' _ (liF s (mend s f) f _ (mplaces s f) 0 (mend s f + 1 + 1) _) (liH N (mdigs s f)) (by omega) (Sub.norm ⟨rfl, rfl, rfl, rfl, rfl, rfl, rfl, rfl, rfl, rfl, rfl, trivial⟩ ⟨rfl, trivial⟩ (Nat.le_refl _) rfl rfl rfl rfl (tyOk_spec rfl)) (hdone _ _ fun hx => hD (by have := hx.2; rw [eS] at this; exact this))
          · rw [decide_eq_false hS] at hgS
            have eS : sgn s (mend s f + 1) = mend s f + 1 := if_neg hS
            have e45 : decide (s.getD (mend s f + 1) 0 = 45) = false := decide_eq_false fun h => hS (.inr h)
            rw [eS] at hgD hexp
            rw [e45] at hexp
            have d3 := d1
            by_cases hD : isDig (s.getD (mend s f + 1) 0)
            · rw [decide_eq_true hD] at hgD
              have hx : expo s (mend s f) := ⟨hE, by rw [eS]; exact hD⟩
              repeat' first
                | (refine PW.fall a4 rfl ?_)
                | (with_reducible first | refine PW.seq ?_ | refine PW.block ?_ | refine PW.fork ?_ | refine PW.skip ?_ | refine PW.exit ?_ | refine PW.ret ?_ | refine PW.scope ?_ | refine PW.label ?_ | refine PW.goto ?_) | (simp only [d1, d2, d3, w1, w2, w3, Int.toNat_natCast]) | (simp only [hds])
                | (with_reducible refine PW.region ttOk ?_ ?_
                   · rfl)
                | (with_reducible refine PW.regionS ttOk mixed ?_ ?_ ?_ ?_
                   · rfl
                   · rfl
                   · rfl)
                | (with_reducible refine PW.regionD ttOk mixed ?_ ?_ ?_
                   · rfl
                   · rfl) | (with_reducible refine ifW_dec (fun g => ?_) (fun g => ?_) <;> first | (exfalso; omega) | (simp -dsimp only [g, wkI])) | (with_reducible refine condE_dec (fun g => ?_) (fun g => ?_) <;> try (exfalso; omega)) | (with_reducible refine condE_not (fun g => ?_) (fun g => ?_) <;> try (exfalso; omega)) | (simp -dsimp only [↓opsE_nil, ↓opsE_cons, ↓opsX_nil, ↓opsX_cons, same_self, and_true, true_and, ↓wkA, ↓wkE, ↓wkJ, wkB, ↓tt, Nat.reduceBEq, Nat.reduceEqDiff, ↓reduceIte, Nat.reduceLT, Array.toList, Nat.reduceAdd, Nat.reduceMul, Int.reduceToNat, Int.reducePow, UInt8.reduceToNat]) | (refine call_by (hgE) (views_data rfl) ⟨trivial, trivial, trivial, trivial, trivial⟩ rfl ?_) | (refine call_by (hgS) (views_data rfl) ⟨trivial, trivial, trivial, trivial, trivial⟩ rfl ?_) | (refine call_by (hgD) (views_data rfl) ⟨trivial, trivial, trivial⟩ rfl ?_) | (simp -dsimp (disch := first | assumption | omega) only [dec_t, dec_f])
                | (refine And.intro ?_ ?_
                   · first | omega | decide | (simp (disch := omega) only [wkW, Int.reduceToNat, Int.reducePow] <;> omega) | (simp <;> omega)) | (simp (disch := omega) only [wkW, Int.reduceToNat, Int.reducePow]) | fail
              exact Jump.mk' _ (liF s (mend s f) f _ (mplaces s f) 0 (mend s f + 1) false) (liH N (mdigs s f)) (by omega) (Sub.norm ⟨rfl, rfl, rfl, rfl, rfl, rfl, rfl, rfl, rfl, rfl, rfl, trivial⟩ ⟨rfl, trivial⟩ (Nat.le_refl _) rfl rfl rfl rfl (tyOk_spec rfl)) (hexp hx)
            · rw [decide_eq_false hD] at hgD
              repeat' first
                | (refine PW.fall a4 rfl ?_)
                | (with_reducible first | refine PW.seq ?_ | refine PW.block ?_ | refine PW.fork ?_ | refine PW.skip ?_ | refine PW.exit ?_ | refine PW.ret ?_ | refine PW.scope ?_ | refine PW.label ?_ | refine PW.goto ?_) | (simp only [d1, d2, d3, w1, w2, w3, Int.toNat_natCast]) | (simp only [hds])
                | (with_reducible refine PW.region ttOk ?_ ?_
                   · rfl)
                | (with_reducible refine PW.regionS ttOk mixed ?_ ?_ ?_ ?_
                   · rfl
                   · rfl
                   · rfl)
                | (with_reducible refine PW.regionD ttOk mixed ?_ ?_ ?_
                   · rfl
                   · rfl) | (with_reducible refine ifW_dec (fun g => ?_) (fun g => ?_) <;> first | (exfalso; omega) | (simp -dsimp only [g, wkI])) | (with_reducible refine condE_dec (fun g => ?_) (fun g => ?_) <;> try (exfalso; omega)) | (with_reducible refine condE_not (fun g => ?_) (fun g => ?_) <;> try (exfalso; omega)) | (simp -dsimp only [↓opsE_nil, ↓opsE_cons, ↓opsX_nil, ↓opsX_cons, same_self, and_true, true_and, ↓wkA, ↓wkE, ↓wkJ, wkB, ↓tt, Nat.reduceBEq, Nat.reduceEqDiff, ↓reduceIte, Nat.reduceLT, Array.toList, Nat.reduceAdd, Nat.reduceMul, Int.reduceToNat, Int.reducePow, UInt8.reduceToNat]) | (refine call_by (hgE) (views_data rfl) ⟨trivial, trivial, trivial, trivial, trivial⟩ rfl ?_) | (refine call_by (hgS) (views_data rfl) ⟨trivial, trivial, trivial, trivial, trivial⟩ rfl ?_) | (refine call_by (hgD) (views_data rfl) ⟨trivial, trivial, trivial⟩ rfl ?_) | (simp -dsimp (disch := first | assumption | omega) only [dec_t, dec_f])
                | (refine And.intro ?_ ?_
                   · first | omega | decide | (simp (disch := omega) only [wkW, Int.reduceToNat, Int.reducePow] <;> omega) | (simp <;> omega)) | (simp (disch := omega) only [wkW, Int.reduceToNat, Int.reducePow]) | fail
              exact Jump.mk' _ (liF s (mend s f) f _ (mplaces s f) 0 (mend s f + 1) false) (liH N (mdigs s f)) (by omega) (Sub.norm ⟨rfl, rfl, rfl, rfl, rfl, rfl, rfl, rfl, rfl, rfl, rfl, trivial⟩ ⟨rfl, trivial⟩ (Nat.le_refl _) rfl rfl rfl rfl (tyOk_spec rfl)) (hdone _ _ fun hx => hD (by have := hx.2; rw [eS] at this; exact this))
        · rw [decide_eq_false hE] at hgE
          have d3 := d1
          repeat' first
            | (refine PW.fall a4 rfl ?_)
            | (with_reducible first | refine PW.seq ?_ | refine PW.block ?_ | refine PW.fork ?_ | refine PW.skip ?_ | refine PW.exit ?_ | refine PW.ret ?_ | refine PW.scope ?_ | refine PW.label ?_ | refine PW.goto ?_) | (simp only [d1, d2, d3, w1, w2, w3, Int.toNat_natCast]) | (simp only [hds])
            | (with_reducible refine PW.region ttOk ?_ ?_
               · rfl)
            | (with_reducible refine PW.regionS ttOk mixed ?_ ?_ ?_ ?_
               · rfl
               · rfl
               · rfl)
            | (with_reducible refine PW.regionD ttOk mixed ?_ ?_ ?_
               · rfl
               · rfl) | (with_reducible refine ifW_dec (fun g => ?_) (fun g => ?_) <;> first | (exfalso; omega) | (simp -dsimp only [g, wkI])) | (with_reducible refine condE_dec (fun g => ?_) (fun g => ?_) <;> try (exfalso; omega)) | (with_reducible refine condE_not (fun g => ?_) (fun g => ?_) <;> try (exfalso; omega)) | (simp -dsimp only [↓opsE_nil, ↓opsE_cons, ↓opsX_nil, ↓opsX_cons, same_self, and_true, true_and, ↓wkA, ↓wkE, ↓wkJ, wkB, ↓tt, Nat.reduceBEq, Nat.reduceEqDiff, ↓reduceIte, Nat.reduceLT, Array.toList, Nat.reduceAdd, Nat.reduceMul, Int.reduceToNat, Int.reducePow, UInt8.reduceToNat]) | (refine call_by (hgE) (views_data rfl) ⟨trivial, trivial, trivial, trivial, trivial⟩ rfl ?_) | (refine call_by (hgS) (views_data rfl) ⟨trivial, trivial, trivial, trivial, trivial⟩ rfl ?_) | (refine call_by (hgD) (views_data rfl) ⟨trivial, trivial, trivial⟩ rfl ?_) | (simp -dsimp (disch := first | assumption | omega) only [dec_t, dec_f])
            | (refine And.intro ?_ ?_
               · first | omega | decide | (simp (disch := omega) only [wkW, Int.reduceToNat, Int.reducePow] <;> omega) | (simp <;> omega)) | (simp (disch := omega) only [wkW, Int.reduceToNat, Int.reducePow]) | fail
          exact Jump.mk' _ (liF s (mend s f) f _ (mplaces s f) 0 0 false) (liH N (mdigs s f)) (by omega) (Sub.norm ⟨rfl, rfl, rfl, rfl, rfl, rfl, rfl, rfl, rfl, rfl, rfl, trivial⟩ ⟨rfl, trivial⟩ (Nat.le_refl _) rfl rfl rfl rfl (tyOk_spec rfl)) (hdone _ _ fun hx => hE hx.1)
  · rintro a1 n F H ⟨q, hp, hq, hde, rfl, rfl, rfl⟩
    refine ⟨_, rfl, ?_⟩
    have hg := hdig (dend s f + q + 1) (by omega)
    have w1 : IntKind.wrap .i64 (((dend s f + q : Nat) : Int) + 1) = ((dend s f + q + 1 : Nat) : Int) := wrap_i64 (by omega)
    have w2 : IntKind.wrap .i64 ((q : Int) + 1) = ((q + 1 : Nat) : Int) := wrap_i64 (by omega)
    by_cases hg1 : isDig (s.getD (dend s f + q + 1) 0)
    · rw [decide_eq_true hg1] at hg
      have hl1 := dig_lt hg1
      repeat' first
        | (refine PW.fall a1 rfl ?_)
        | (with_reducible first | refine PW.seq ?_ | refine PW.block ?_ | refine PW.fork ?_ | refine PW.skip ?_ | refine PW.exit ?_ | refine PW.ret ?_ | refine PW.scope ?_ | refine PW.label ?_ | refine PW.goto ?_) | (simp only [w1, w2, Int.toNat_natCast])
        | (with_reducible refine PW.region ttOk ?_ ?_
           · rfl)
        | (with_reducible refine PW.regionD ttOk mixed ?_ ?_ ?_
           · rfl
           · rfl) | (with_reducible refine ifW_dec (fun g => ?_) (fun g => ?_) <;> first | (exfalso; omega) | (simp -dsimp only [g, wkI])) | (with_reducible refine condE_dec (fun g => ?_) (fun g => ?_) <;> try (exfalso; omega)) | (with_reducible refine condE_not (fun g => ?_) (fun g => ?_) <;> try (exfalso; omega)) | (simp -dsimp only [↓wkA, ↓wkE, ↓wkJ, wkB, ↓tt, Nat.reduceBEq, Nat.reduceEqDiff, ↓reduceIte, Nat.reduceLT, Array.toList, Nat.reduceAdd, Nat.reduceMul, Int.reduceToNat, Int.reducePow, UInt8.reduceToNat]) | (refine call_by (hg) (views_data rfl) ⟨trivial, trivial, trivial⟩ rfl ?_) | (simp -dsimp (disch := first | assumption | omega) only [dec_t, dec_f])
        | (refine And.intro ?_ ?_
           · first | omega | decide | (simp (disch := omega) only [wkW, Int.reduceToNat, Int.reducePow] <;> omega) | (simp <;> omega)) | (simp (disch := omega) only [wkW, Int.reduceToNat, Int.reducePow]) | fail
      exact Jump.mk' _ (liF s (dend s f + q + 1) f (dend s f) (q + 1) 0 0 false) (liH N []) (by omega) (Sub.norm ⟨rfl, rfl, rfl, rfl, rfl, rfl, rfl, rfl, rfl, rfl, rfl, trivial⟩ ⟨rfl, trivial⟩ (Nat.le_refl _) rfl rfl rfl rfl (tyOk_spec rfl)) ⟨q + 1, hp, by omega, by rw [← hde]; exact (dend_dig hg1).symm, rfl, rfl, rfl⟩
    · rw [decide_eq_false hg1] at hg
      have e0 : dend s (dend s f + 1) = dend s f + q + 1 := by rw [← hde, dend_not hg1]
      have e1 : mend s f = dend s f + q + 1 := by unfold mend; rw [if_pos hp, e0]
      have e2 : mplaces s f = q := by unfold mplaces; rw [if_pos hp, e0]; omega
      have e3 : pntZ s f = (dend s f : Int) := if_pos hp
      repeat' first
        | (refine PW.fall a1 rfl ?_)
        | (with_reducible first | refine PW.seq ?_ | refine PW.block ?_ | refine PW.fork ?_ | refine PW.skip ?_ | refine PW.exit ?_ | refine PW.ret ?_ | refine PW.scope ?_ | refine PW.label ?_ | refine PW.goto ?_) | (simp only [w1, w2, Int.toNat_natCast])
        | (with_reducible refine PW.region ttOk ?_ ?_
           · rfl)
        | (with_reducible refine PW.regionD ttOk mixed ?_ ?_ ?_
           · rfl
           · rfl) | (with_reducible refine ifW_dec (fun g => ?_) (fun g => ?_) <;> first | (exfalso; omega) | (simp -dsimp only [g, wkI])) | (with_reducible refine condE_dec (fun g => ?_) (fun g => ?_) <;> try (exfalso; omega)) | (with_reducible refine condE_not (fun g => ?_) (fun g => ?_) <;> try (exfalso; omega)) | (simp -dsimp only [↓wkA, ↓wkE, ↓wkJ, wkB, ↓tt, Nat.reduceBEq, Nat.reduceEqDiff, ↓reduceIte, Nat.reduceLT, Array.toList, Nat.reduceAdd, Nat.reduceMul, Int.reduceToNat, Int.reducePow, UInt8.reduceToNat]) | (refine call_by (hg) (views_data rfl) ⟨trivial, trivial, trivial⟩ rfl ?_) | (simp -dsimp (disch := first | assumption | omega) only [dec_t, dec_f])
        | (refine And.intro ?_ ?_
           · first | omega | decide | (simp (disch := omega) only [wkW, Int.reduceToNat, Int.reducePow] <;> omega) | (simp <;> omega)) | (simp (disch := omega) only [wkW, Int.reduceToNat, Int.reducePow]) | fail
      exact Jump.mk' _ (liF s (dend s f + q + 1) f (dend s f) q 0 0 false) (liH N []) (by omega) (Sub.norm ⟨rfl, rfl, rfl, rfl, rfl, rfl, rfl, rfl, rfl, rfl, rfl, trivial⟩ ⟨rfl, trivial⟩ (Nat.le_refl _) rfl rfl rfl rfl (tyOk_spec rfl)) ⟨rfl, by rw [e1, e2, e3], rfl⟩
  · rintro a2 n F H ⟨k, hk, hkl, hde, rfl, rfl, rfl⟩
    refine ⟨_, rfl, ?_⟩
    have hg := hdig k (by omega)
    have hgP := hone k (by omega) 46 46 (by decide) (by decide)
    have hgN := hdig (k + 1) (by omega)
    rw [show decide (s.getD k 0 = 46 ∨ s.getD k 0 = 46) = decide (s.getD k 0 = 46) from decide_eq_decide.2 ⟨fun h => h.elim id id, .inl⟩] at hgP
    have w1 : IntKind.wrap .i64 ((k : Int) + 1) = ((k + 1 : Nat) : Int) := wrap_i64 (by omega)
    by_cases hg1 : isDig (s.getD k 0)
    · rw [decide_eq_true hg1] at hg
      have hl1 := dig_lt hg1
      repeat' first
        | (refine PW.fall a2 rfl ?_)
        | (with_reducible first | refine PW.seq ?_ | refine PW.block ?_ | refine PW.fork ?_ | refine PW.skip ?_ | refine PW.exit ?_ | refine PW.ret ?_ | refine PW.scope ?_ | refine PW.label ?_ | refine PW.goto ?_) | (simp only [w1, Int.toNat_natCast])
        | (with_reducible refine PW.region ttOk ?_ ?_
           · rfl)
        | (with_reducible refine PW.regionD ttOk mixed ?_ ?_ ?_
           · rfl
           · rfl) | (with_reducible refine ifW_dec (fun g => ?_) (fun g => ?_) <;> first | (exfalso; omega) | (simp -dsimp only [g, wkI])) | (with_reducible refine condE_dec (fun g => ?_) (fun g => ?_) <;> try (exfalso; omega)) | (with_reducible refine condE_not (fun g => ?_) (fun g => ?_) <;> try (exfalso; omega)) | (simp -dsimp only [↓wkA, ↓wkE, ↓wkJ, wkB, ↓tt, Nat.reduceBEq, Nat.reduceEqDiff, ↓reduceIte, Nat.reduceLT, Array.toList, Nat.reduceAdd, Nat.reduceMul, Int.reduceToNat, Int.reducePow, UInt8.reduceToNat]) | (refine call_by (hg) (views_data rfl) ⟨trivial, trivial, trivial⟩ rfl ?_) | (simp -dsimp (disch := first | assumption | omega) only [dec_t, dec_f])
        | (refine And.intro ?_ ?_
           · first | omega | decide | (simp (disch := omega) only [wkW, Int.reduceToNat, Int.reducePow] <;> omega) | (simp <;> omega)) | (simp (disch := omega) only [wkW, Int.reduceToNat, Int.reducePow]) | fail
      exact Jump.mk' _ (liF s (k + 1) f (-1) 0 0 0 false) (liH N []) (by omega) (Sub.norm ⟨rfl, rfl, rfl, rfl, rfl, rfl, rfl, rfl, rfl, rfl, rfl, trivial⟩ ⟨rfl, trivial⟩ (Nat.le_refl _) rfl rfl rfl rfl (tyOk_spec rfl)) ⟨k + 1, by omega, by omega, by rw [← hde]; exact (dend_dig hg1).symm, rfl, rfl, rfl⟩
    · rw [decide_eq_false hg1] at hg
      have e0 : dend s f = k := by rw [← hde, dend_not hg1]
      have hno : ¬ pnt s f → litI s N f 1 (2 * (s.length + 1)) (liF s k f (-1) 0 0 0 false) (liH N []) := fun hp => by
        have e1 : mend s f = k := by unfold mend; rw [if_neg hp, e0]
        have e2 : mplaces s f = 0 := by unfold mplaces; rw [if_neg hp]
        have e3 : pntZ s f = -1 := if_neg hp
        exact ⟨rfl, by rw [e1, e2, e3], rfl⟩
      have hyes : pnt s f → k < s.length → litI s N f 2 (3 * (s.length + 1) + (s.length - k)) (liF s k f (k : Int) 0 0 0 false) (liH N []) := fun hp hl => ⟨0, hp, by omega, by rw [Nat.add_zero], by rw [e0]; rfl, by rw [e0]; rfl, rfl⟩
      by_cases hP : s.getD k 0 = 46
      · rw [decide_eq_true hP] at hgP
        have hl1 := getD_lt (s := s) (i := k) (by omega)
        by_cases hkf : k = f
        · have d1 : decide ((k : Int) = (f : Int)) = true := decide_eq_true (by omega)
          by_cases hN1 : isDig (s.getD (k + 1) 0)
          · rw [decide_eq_true hN1] at hgN
            repeat' first
              | (refine PW.fall a2 rfl ?_)
              | (with_reducible first | refine PW.seq ?_ | refine PW.block ?_ | refine PW.fork ?_ | refine PW.skip ?_ | refine PW.exit ?_ | refine PW.ret ?_ | refine PW.scope ?_ | refine PW.label ?_ | refine PW.goto ?_) | (simp only [d1, w1, Int.toNat_natCast])
              | (with_reducible refine PW.region ttOk ?_ ?_
                 · rfl)
              | (with_reducible refine PW.regionD ttOk mixed ?_ ?_ ?_
                 · rfl
                 · rfl) | (with_reducible refine ifW_dec (fun g => ?_) (fun g => ?_) <;> first | (exfalso; omega) | (simp -dsimp only [g, wkI])) | (with_reducible refine condE_dec (fun g => ?_) (fun g => ?_) <;> try (exfalso; omega)) | (with_reducible refine condE_not (fun g => ?_) (fun g => ?_) <;> try (exfalso; omega)) | (simp -dsimp only [↓wkA, ↓wkE, ↓wkJ, wkB, ↓tt, Nat.reduceBEq, Nat.reduceEqDiff, ↓reduceIte, Nat.reduceLT, Array.toList, Nat.reduceAdd, Nat.reduceMul, Int.reduceToNat, Int.reducePow, UInt8.reduceToNat]) | (refine call_by (hg) (views_data rfl) ⟨trivial, trivial, trivial⟩ rfl ?_) | (refine call_by (hgN) (views_data rfl) ⟨trivial, trivial, trivial⟩ rfl ?_) | (refine call_by (hgP) (views_data rfl) ⟨trivial, trivial, trivial, trivial, trivial⟩ rfl ?_) | (simp -dsimp (disch := first | assumption | omega) only [dec_t, dec_f])
              | (refine And.intro ?_ ?_
                 · first | omega | decide | (simp (disch := omega) only [wkW, Int.reduceToNat, Int.reducePow] <;> omega) | (simp <;> omega)) | (simp (disch := omega) only [wkW, Int.reduceToNat, Int.reducePow]) | fail
            exact Jump.mk' _ (liF s k f (k : Int) 0 0 0 false) (liH N []) (by omega) (Sub.norm ⟨rfl, rfl, rfl, rfl, rfl, rfl, rfl, rfl, rfl, rfl, rfl, trivial⟩ ⟨rfl, trivial⟩ (Nat.le_refl _) rfl rfl rfl rfl (tyOk_spec rfl)) (hyes ⟨by rw [e0]; exact hP, .inr (by rw [e0]; exact hN1)⟩ hl1)
          · rw [decide_eq_false hN1] at hgN
            repeat' first
              | (refine PW.fall a2 rfl ?_)
              | (with_reducible first | refine PW.seq ?_ | refine PW.block ?_ | refine PW.fork ?_ | refine PW.skip ?_ | refine PW.exit ?_ | refine PW.ret ?_ | refine PW.scope ?_ | refine PW.label ?_ | refine PW.goto ?_) | (simp only [d1, w1, Int.toNat_natCast])
              | (with_reducible refine PW.region ttOk ?_ ?_
                 · rfl)
              | (with_reducible refine PW.regionD ttOk mixed ?_ ?_ ?_
                 · rfl
                 · rfl) | (with_reducible refine ifW_dec (fun g => ?_) (fun g => ?_) <;> first | (exfalso; omega) | (simp -dsimp only [g, wkI])) | (with_reducible refine condE_dec (fun g => ?_) (fun g => ?_) <;> try (exfalso; omega)) | (with_reducible refine condE_not (fun g => ?_) (fun g => ?_) <;> try (exfalso; omega)) | (simp -dsimp only [↓wkA, ↓wkE, ↓wkJ, wkB, ↓tt, Nat.reduceBEq, Nat.reduceEqDiff, ↓reduceIte, Nat.reduceLT, Array.toList, Nat.reduceAdd, Nat.reduceMul, Int.reduceToNat, Int.reducePow, UInt8.reduceToNat]) | (refine call_by (hg) (views_data rfl) ⟨trivial, trivial, trivial⟩ rfl ?_) | (refine call_by (hgN) (views_data rfl) ⟨trivial, trivial, trivial⟩ rfl ?_) | (refine call_by (hgP) (views_data rfl) ⟨trivial, trivial, trivial, trivial, trivial⟩ rfl ?_) | (simp -dsimp (disch := first | assumption | omega) only [dec_t, dec_f])
              | (refine And.intro ?_ ?_
                 · first | omega | decide | (simp (disch := omega) only [wkW, Int.reduceToNat, Int.reducePow] <;> omega) | (simp <;> omega)) | (simp (disch := omega) only [wkW, Int.reduceToNat, Int.reducePow]) | fail
            exact Jump.mk' _ (liF s k f (-1) 0 0 0 false) (liH N []) (by omega) (Sub.norm ⟨rfl, rfl, rfl, rfl, rfl, rfl, rfl, rfl, rfl, rfl, rfl, trivial⟩ ⟨rfl, trivial⟩ (Nat.le_refl _) rfl rfl rfl rfl (tyOk_spec rfl)) (hno fun hp => by
              rcases hp.2 with h | h
              · exact h (by omega)
              · rw [e0] at h; exact hN1 h)
        · have d1 : decide ((k : Int) = (f : Int)) = false := decide_eq_false (by omega)
          repeat' first
            | (refine PW.fall a2 rfl ?_)
            | (with_reducible first | refine PW.seq ?_ | refine PW.block ?_ | refine PW.fork ?_ | refine PW.skip ?_ | refine PW.exit ?_ | refine PW.ret ?_ | refine PW.scope ?_ | refine PW.label ?_ | refine PW.goto ?_) | (simp only [d1, w1, Int.toNat_natCast])
            | (with_reducible refine PW.region ttOk ?_ ?_
               · rfl)
            | (with_reducible refine PW.regionD ttOk mixed ?_ ?_ ?_
               · rfl
               · rfl) | (with_reducible refine ifW_dec (fun g => ?_) (fun g => ?_) <;> first | (exfalso; omega) | (simp -dsimp only [g, wkI])) | (with_reducible refine condE_dec (fun g => ?_) (fun g => ?_) <;> try (exfalso; omega)) | (with_reducible refine condE_not (fun g => ?_) (fun g => ?_) <;> try (exfalso; omega)) | (simp -dsimp only [↓wkA, ↓wkE, ↓wkJ, wkB, ↓tt, Nat.reduceBEq, Nat.reduceEqDiff, ↓reduceIte, Nat.reduceLT, Array.toList, Nat.reduceAdd, Nat.reduceMul, Int.reduceToNat, Int.reducePow, UInt8.reduceToNat]) | (refine call_by (hg) (views_data rfl) ⟨trivial, trivial, trivial⟩ rfl ?_) | (refine call_by (hgN) (views_data rfl) ⟨trivial, trivial, trivial⟩ rfl ?_) | (refine call_by (hgP) (views_data rfl) ⟨trivial, trivial, trivial, trivial, trivial⟩ rfl ?_) | (simp -dsimp (disch := first | assumption | omega) only [dec_t, dec_f])
            | (refine And.intro ?_ ?_
               · first | omega | decide | (simp (disch := omega) only [wkW, Int.reduceToNat, Int.reducePow] <;> omega) | (simp <;> omega)) | (simp (disch := omega) only [wkW, Int.reduceToNat, Int.reducePow]) | fail
          exact Jump.mk' _ (liF s k f (k : Int) 0 0 0 false) (liH N []) (by omega) (Sub.norm ⟨rfl, rfl, rfl, rfl, rfl, rfl, rfl, rfl, rfl, rfl, rfl, trivial⟩ ⟨rfl, trivial⟩ (Nat.le_refl _) rfl rfl rfl rfl (tyOk_spec rfl)) (hyes ⟨by rw [e0]; exact hP, .inl (by omega)⟩ hl1)
      · rw [decide_eq_false hP] at hgP
        repeat' first
          | (refine PW.fall a2 rfl ?_)
          | (with_reducible first | refine PW.seq ?_ | refine PW.block ?_ | refine PW.fork ?_ | refine PW.skip ?_ | refine PW.exit ?_ | refine PW.ret ?_ | refine PW.scope ?_ | refine PW.label ?_ | refine PW.goto ?_) | (simp only [w1, Int.toNat_natCast])
          | (with_reducible refine PW.region ttOk ?_ ?_
             · rfl)
          | (with_reducible refine PW.regionD ttOk mixed ?_ ?_ ?_
             · rfl
             · rfl) | (with_reducible refine ifW_dec (fun g => ?_) (fun g => ?_) <;> first | (exfalso; omega) | (simp -dsimp only [g, wkI])) | (with_reducible refine condE_dec (fun g => ?_) (fun g => ?_) <;> try (exfalso; omega)) | (with_reducible refine condE_not (fun g => ?_) (fun g => ?_) <;> try (exfalso; omega)) | (simp -dsimp only [↓wkA, ↓wkE, ↓wkJ, wkB, ↓tt, Nat.reduceBEq, Nat.reduceEqDiff, ↓reduceIte, Nat.reduceLT, Array.toList, Nat.reduceAdd, Nat.reduceMul, Int.reduceToNat, Int.reducePow, UInt8.reduceToNat]) | (refine call_by (hg) (views_data rfl) ⟨trivial, trivial, trivial⟩ rfl ?_) | (refine call_by (hgN) (views_data rfl) ⟨trivial, trivial, trivial⟩ rfl ?_) | (refine call_by (hgP) (views_data rfl) ⟨trivial, trivial, trivial, trivial, trivial⟩ rfl ?_) | (simp -dsimp (disch := first | assumption | omega) only [dec_t, dec_f])
          | (refine And.intro ?_ ?_
             · first | omega | decide | (simp (disch := omega) only [wkW, Int.reduceToNat, Int.reducePow] <;> omega) | (simp <;> omega)) | (simp (disch := omega) only [wkW, Int.reduceToNat, Int.reducePow]) | fail
        exact Jump.mk' _ (liF s k f (-1) 0 0 0 false) (liH N []) (by omega) (Sub.norm ⟨rfl, rfl, rfl, rfl, rfl, rfl, rfl, rfl, rfl, rfl, rfl, trivial⟩ ⟨rfl, trivial⟩ (Nat.le_refl _) rfl rfl rfl rfl (tyOk_spec rfl)) (hno fun hp => hP (by rw [← e0]; exact hp.1))
  · intro a0
    have hg := hone i (by omega) 43 45 (by decide) (by decide)
    have hin : litI s N f 0 (4 * (s.length + 1) + (s.length - f)) (liF s f f (-1) 0 0 0 false) (liH N []) := ⟨f, Nat.le_refl _, hf, rfl, rfl, rfl, rfl⟩
    by_cases hS : s.getD i 0 = 43 ∨ s.getD i 0 = 45
    · rw [decide_eq_true hS] at hg
      have e1 := hs1 hS
      subst e1
      have hl1 := getD_lt (s := s) (i := i) (by omega)
      have d1 : decide ((i : Int) < (s.length : Int)) = true := decide_eq_true (by omega)
      have w1 : IntKind.wrap .i64 ((i : Int) + 1) = ((i + 1 : Nat) : Int) := wrap_i64 (by omega)
      repeat' first
        | (refine PW.fall a0 rfl ?_)
        | (with_reducible first | refine PW.seq ?_ | refine PW.block ?_ | refine PW.fork ?_ | refine PW.skip ?_ | refine PW.exit ?_ | refine PW.ret ?_ | refine PW.scope ?_ | refine PW.label ?_ | refine PW.goto ?_) | (simp only [d1, w1, hN, Int.toNat_natCast])
        | (with_reducible refine PW.region ttOk ?_ ?_
           · rfl)
        | (with_reducible refine PW.regionD ttOk mixed ?_ ?_ ?_
           · rfl
           · rfl) | (with_reducible refine ifW_dec (fun g => ?_) (fun g => ?_) <;> first | (exfalso; omega) | (simp -dsimp only [g, wkI])) | (with_reducible refine condE_dec (fun g => ?_) (fun g => ?_) <;> try (exfalso; omega)) | (with_reducible refine condE_not (fun g => ?_) (fun g => ?_) <;> try (exfalso; omega)) | (simp -dsimp only [↓wkA, ↓wkE, ↓wkJ, wkB, ↓tt, Nat.reduceBEq, Nat.reduceEqDiff, ↓reduceIte, Nat.reduceLT, Array.toList, Nat.reduceAdd, Nat.reduceMul, Int.reduceToNat, Int.reducePow, UInt8.reduceToNat]) | (refine call_by (hg) (views_data rfl) ⟨trivial, trivial, trivial, trivial, trivial⟩ rfl ?_) | (simp -dsimp (disch := first | assumption | omega) only [dec_t, dec_f])
        | (refine And.intro ?_ ?_
           · first | omega | decide | (simp (disch := omega) only [wkW, Int.reduceToNat, Int.reducePow] <;> omega) | (simp <;> omega)) | (simp (disch := omega) only [wkW, Int.reduceToNat, Int.reducePow]) | fail
      exact Jump.mk' _ (liF s (i + 1) (i + 1) (-1) 0 0 0 false) (liH N []) (by omega) (Sub.norm ⟨rfl, rfl, rfl, rfl, rfl, rfl, rfl, rfl, rfl, rfl, rfl, trivial⟩ ⟨rfl, trivial⟩ (Nat.le_refl _) rfl rfl rfl rfl (tyOk_spec rfl)) hin
    · rw [decide_eq_false hS] at hg
      have e1 := hs2 hS
      subst e1
      have e2 : N = false := by rw [← hN0 (fun h => hS (.inl h)) (fun h => hS (.inr h))]
      subst e2
      repeat' first
        | (refine PW.fall a0 rfl ?_)
        | (with_reducible first | refine PW.seq ?_ | refine PW.block ?_ | refine PW.fork ?_ | refine PW.skip ?_ | refine PW.exit ?_ | refine PW.ret ?_ | refine PW.scope ?_ | refine PW.label ?_ | refine PW.goto ?_)
        | (with_reducible refine PW.region ttOk ?_ ?_
           · rfl)
        | (with_reducible refine PW.regionD ttOk mixed ?_ ?_ ?_
           · rfl
           · rfl) | (with_reducible refine ifW_dec (fun g => ?_) (fun g => ?_) <;> first | (exfalso; omega) | (simp -dsimp only [g, wkI])) | (with_reducible refine condE_dec (fun g => ?_) (fun g => ?_) <;> try (exfalso; omega)) | (with_reducible refine condE_not (fun g => ?_) (fun g => ?_) <;> try (exfalso; omega)) | (simp -dsimp only [↓wkA, ↓wkE, ↓wkJ, wkB, ↓tt, Nat.reduceBEq, Nat.reduceEqDiff, ↓reduceIte, Nat.reduceLT, Array.toList, Nat.reduceAdd, Nat.reduceMul, Int.reduceToNat, Int.reducePow, UInt8.reduceToNat]) | (refine call_by (hg) (views_data rfl) ⟨trivial, trivial, trivial, trivial, trivial⟩ rfl ?_) | (simp -dsimp (disch := first | assumption | omega) only [dec_t, dec_f])
        | (refine And.intro ?_ ?_
           · first | omega | decide | (simp (disch := omega) only [wkW, Int.reduceToNat, Int.reducePow] <;> omega) | (simp <;> omega)) | (simp (disch := omega) only [wkW, Int.reduceToNat, Int.reducePow]) | fail
      exact Jump.mk' _ (liF s f f (-1) 0 0 0 false) (liH false []) (by omega) (Sub.norm ⟨rfl, rfl, rfl, rfl, rfl, rfl, rfl, rfl, rfl, rfl, rfl, trivial⟩ ⟨rfl, trivial⟩ (Nat.le_refl _) rfl rfl rfl rfl (tyOk_spec rfl)) hin
theorem scan_blank (c : Int) : Meets Tryz.prog 92 [.int .u8 c] (.bool (blB c)) := by
  unfold blB
  by_cases h1 : c = 32
  case' pos => have d1 : decide (c = 32) = true := decide_eq_true h1
  case' neg => have d1 : decide (c = 32) = false := decide_eq_false h1
  all_goals by_cases h2 : 9 ≤ c
  all_goals first
    | (have d2 : decide (9 ≤ c) = true := decide_eq_true h2)
    | (have d2 : decide (9 ≤ c) = false := decide_eq_false h2)
  all_goals rw [d1, d2]
  all_goals (refine meets_by ttOk Tryz.func92 Tryz.ntmps92 Tryz.results92 (by kernel_rfl) (c := _) rfl rfl rfl fun E => ?_; simp only [argsFrame])
  all_goals
    repeat' first
      | (with_reducible first | refine PW.seq ?_ | refine PW.block ?_ | refine PW.fork ?_ | refine PW.skip ?_ | refine PW.exit ?_ | refine PW.ret ?_ | refine PW.scope ?_ | refine PW.label ?_ | refine PW.goto ?_) | (simp only [d1, d2, Bool.true_or, Bool.false_or, Bool.true_and, Bool.false_and])
      | (with_reducible refine PW.region ttOk ?_ ?_
         · rfl)
      | (with_reducible refine PW.regionD ttOk mixed ?_ ?_ ?_
         · rfl
         · rfl) | (with_reducible refine ifW_dec (fun g => ?_) (fun g => ?_) <;> first | (exfalso; omega) | (simp -dsimp only [g, wkI])) | (with_reducible refine condE_dec (fun g => ?_) (fun g => ?_) <;> try (exfalso; omega)) | (with_reducible refine condE_not (fun g => ?_) (fun g => ?_) <;> try (exfalso; omega)) | (simp -dsimp only [↓wkA, ↓wkE, ↓wkJ, wkB, ↓tt, Nat.reduceBEq, Nat.reduceEqDiff, ↓reduceIte, Nat.reduceLT, Array.toList, Nat.reduceAdd, Nat.reduceMul, Int.reduceToNat, Int.reducePow, UInt8.reduceToNat]) | (simp -dsimp (disch := first | assumption | omega) only [dec_t, dec_f])
      | (refine And.intro ?_ ?_
         · first | omega | decide | (simp (disch := omega) only [wkW, Int.reduceToNat, Int.reducePow] <;> omega) | (simp <;> omega)) | (simp (disch := omega) only [wkW, Int.reduceToNat, Int.reducePow]) | fail
abbrev blF (s : List Int) (i : Nat) : PV.Frame := [(4, .int .i64 0), (1, .int .i64 (i : Int)), (0, .str s)]
theorem scan_blanks (s : List Int) (i : Nat) (hi : i ≤ s.length) (hsl : s.length ≤ 281474976710656) : Meets Tryz.prog 49 [.str s, .int .i64 (i : Int)] (.int .i64 (bend s i : Int)) := by
  refine meets_by ttOk Tryz.func49 Tryz.ntmps49 Tryz.results49 (by kernel_rfl) (c := _) rfl rfl rfl fun E => ?_
  simp only [argsFrame]
  repeat' first
    | (with_reducible first | refine PW.seq ?_ | refine PW.block ?_ | refine PW.fork ?_ | refine PW.skip ?_ | refine PW.exit ?_ | refine PW.ret ?_ | refine PW.scope ?_ | refine PW.label ?_ | refine PW.goto ?_)
    | (with_reducible refine PW.region ttOk ?_ ?_
       · rfl)
    | (with_reducible refine PW.regionD ttOk mixed ?_ ?_ ?_
       · rfl
       · rfl) | (with_reducible refine ifW_dec (fun g => ?_) (fun g => ?_) <;> first | (exfalso; omega) | (simp -dsimp only [g, wkI])) | (with_reducible refine condE_dec (fun g => ?_) (fun g => ?_) <;> try (exfalso; omega)) | (with_reducible refine condE_not (fun g => ?_) (fun g => ?_) <;> try (exfalso; omega)) | (simp -dsimp only [↓wkA, ↓wkE, ↓wkJ, wkB, ↓tt, Nat.reduceBEq, Nat.reduceEqDiff, ↓reduceIte, Nat.reduceLT, Array.toList, Nat.reduceAdd, Nat.reduceMul, Int.reduceToNat, Int.reducePow, UInt8.reduceToNat]) | (simp -dsimp (disch := first | assumption | omega) only [dec_t, dec_f])
    | (refine And.intro ?_ ?_
       · first | omega | decide | (simp (disch := omega) only [wkW, Int.reduceToNat, Int.reducePow] <;> omega) | (simp <;> omega)) | (simp (disch := omega) only [wkW, Int.reduceToNat, Int.reducePow]) | fail
  refine PW.loopA (fun m F H => ∃ j : Nat, j + m = s.length ∧ bend s j = bend s i ∧ F = blF s j ∧ H = ⟨0, [], [], []⟩) (s.length - i) (blF s i) ⟨0, [], [], []⟩ (Sub.norm ⟨rfl, rfl, rfl, trivial⟩ trivial (Nat.le_refl _) rfl rfl rfl rfl (tyOk_spec rfl)) ⟨i, by omega, rfl, rfl, rfl⟩ ?_
  rintro m F H ⟨j, hj, hb, rfl, rfl⟩
  by_cases hl : j < s.length
  · have d1 : decide ((j : Int) < (s.length : Int)) = true := decide_eq_true (by omega)
    have h1 := scan_blank (s.getD j 0)
    have w1 : IntKind.wrap .i64 ((j : Int) + 1) = ((j + 1 : Nat) : Int) := wrap_i64 (by omega)
    cases hc : blB (s.getD j 0) with
    | true =>
      rw [hc] at h1
      repeat' first
        | (with_reducible first | refine PW.seq ?_ | refine PW.block ?_ | refine PW.fork ?_ | refine PW.skip ?_ | refine PW.exit ?_ | refine PW.ret ?_ | refine PW.scope ?_ | refine PW.label ?_ | refine PW.goto ?_) | (simp only [d1, w1, Int.toNat_natCast])
        | (with_reducible refine PW.region ttOk ?_ ?_
           · rfl)
        | (with_reducible refine PW.regionD ttOk mixed ?_ ?_ ?_
           · rfl
           · rfl) | (with_reducible refine ifW_dec (fun g => ?_) (fun g => ?_) <;> first | (exfalso; omega) | (simp -dsimp only [g, wkI])) | (with_reducible refine condE_dec (fun g => ?_) (fun g => ?_) <;> try (exfalso; omega)) | (with_reducible refine condE_not (fun g => ?_) (fun g => ?_) <;> try (exfalso; omega)) | (simp -dsimp only [↓wkA, ↓wkE, ↓wkJ, wkB, ↓tt, Nat.reduceBEq, Nat.reduceEqDiff, ↓reduceIte, Nat.reduceLT, Array.toList, Nat.reduceAdd, Nat.reduceMul, Int.reduceToNat, Int.reducePow, UInt8.reduceToNat]) | (refine call_by (h1) (views_data rfl) ⟨trivial, trivial⟩ rfl ?_) | (simp -dsimp (disch := first | assumption | omega) only [dec_t, dec_f])
        | (refine And.intro ?_ ?_
           · first | omega | decide | (simp (disch := omega) only [wkW, Int.reduceToNat, Int.reducePow] <;> omega) | (simp <;> omega)) | (simp (disch := omega) only [wkW, Int.reduceToNat, Int.reducePow]) | fail
      exact Again.mk (m - 1) (blF s (j + 1)) ⟨0, [], [], []⟩ (by omega) (Sub.norm ⟨rfl, rfl, rfl, trivial⟩ trivial (Nat.le_refl _) rfl rfl rfl rfl (tyOk_spec rfl)) ⟨j + 1, by omega, by rw [← hb]; exact (run_step blB0 hc).symm, rfl, rfl⟩
    | false =>
      rw [hc] at h1
      have hb : bend s i = j := by rw [← hb]; exact run_stop hc
      rw [hb]
      repeat' first
        | (with_reducible first | refine PW.seq ?_ | refine PW.block ?_ | refine PW.fork ?_ | refine PW.skip ?_ | refine PW.exit ?_ | refine PW.ret ?_ | refine PW.scope ?_ | refine PW.label ?_ | refine PW.goto ?_) | (simp only [d1, w1, Int.toNat_natCast])
        | (with_reducible refine PW.region ttOk ?_ ?_
           · rfl)
        | (with_reducible refine PW.regionD ttOk mixed ?_ ?_ ?_
           · rfl
           · rfl) | (with_reducible refine ifW_dec (fun g => ?_) (fun g => ?_) <;> first | (exfalso; omega) | (simp -dsimp only [g, wkI])) | (with_reducible refine condE_dec (fun g => ?_) (fun g => ?_) <;> try (exfalso; omega)) | (with_reducible refine condE_not (fun g => ?_) (fun g => ?_) <;> try (exfalso; omega)) | (simp -dsimp only [↓wkA, ↓wkE, ↓wkJ, wkB, ↓tt, Nat.reduceBEq, Nat.reduceEqDiff, ↓reduceIte, Nat.reduceLT, Array.toList, Nat.reduceAdd, Nat.reduceMul, Int.reduceToNat, Int.reducePow, UInt8.reduceToNat]) | (refine call_by (h1) (views_data rfl) ⟨trivial, trivial⟩ rfl ?_) | (simp -dsimp (disch := first | assumption | omega) only [dec_t, dec_f])
        | (refine And.intro ?_ ?_
           · first | omega | decide | (simp (disch := omega) only [wkW, Int.reduceToNat, Int.reducePow] <;> omega) | (simp <;> omega)) | (simp (disch := omega) only [wkW, Int.reduceToNat, Int.reducePow]) | fail
  · have d1 : decide ((j : Int) < (s.length : Int)) = false := decide_eq_false (by omega)
    have hb : bend s i = j := by
      rw [← hb]
      refine run_stop ?_
      rw [List.getD_eq_getElem?_getD, List.getElem?_eq_none (by omega)]
      decide
    rw [hb]
    repeat' first
      | (with_reducible first | refine PW.seq ?_ | refine PW.block ?_ | refine PW.fork ?_ | refine PW.skip ?_ | refine PW.exit ?_ | refine PW.ret ?_ | refine PW.scope ?_ | refine PW.label ?_ | refine PW.goto ?_) | (simp only [d1, Int.toNat_natCast])
      | (with_reducible refine PW.region ttOk ?_ ?_
         · rfl)
      | (with_reducible refine PW.regionD ttOk mixed ?_ ?_ ?_
         · rfl
         · rfl) | (with_reducible refine ifW_dec (fun g => ?_) (fun g => ?_) <;> first | (exfalso; omega) | (simp -dsimp only [g, wkI])) | (with_reducible refine condE_dec (fun g => ?_) (fun g => ?_) <;> try (exfalso; omega)) | (with_reducible refine condE_not (fun g => ?_) (fun g => ?_) <;> try (exfalso; omega)) | (simp -dsimp only [↓wkA, ↓wkE, ↓wkJ, wkB, ↓tt, Nat.reduceBEq, Nat.reduceEqDiff, ↓reduceIte, Nat.reduceLT, Array.toList, Nat.reduceAdd, Nat.reduceMul, Int.reduceToNat, Int.reducePow, UInt8.reduceToNat]) | (simp -dsimp (disch := first | assumption | omega) only [dec_t, dec_f])
      | (refine And.intro ?_ ?_
         · first | omega | decide | (simp (disch := omega) only [wkW, Int.reduceToNat, Int.reducePow] <;> omega) | (simp <;> omega)) | (simp (disch := omega) only [wkW, Int.reduceToNat, Int.reducePow]) | fail
def nuF (s : List Int) : Nat := sgn s (bend s 0)
def nuOk (s : List Int) : Prop := mend s (nuF s) ≠ nuF s
instance (s : List Int) : Decidable (nuOk s) := inferInstanceAs (Decidable (_ ≠ _))
def nuN (s : List Int) : Bool := decide (s.getD (bend s 0) 0 = 45)
def nuD (s : List Int) : List Int := mdigs s (nuF s)
def nuX (s : List Int) : Int := eval s (mend s (nuF s)) - mplaces s (nuF s)
def nuE (s : List Int) : Nat := eend s (mend s (nuF s))
theorem bend_le (s : List Int) : bend s 0 ≤ s.length := run_le _ (Nat.zero_le _)
theorem nuF_le (s : List Int) : nuF s ≤ s.length := sgn_le (bend_le s)
theorem nuE_pos {s : List Int} (h : nuOk s) : 0 < nuE s := by
  have h1 := mend_ge s (nuF s)
  have h2 := eend_ge s (mend s (nuF s))
  unfold nuOk at h
  unfold nuE
  omega
theorem nuD_all (s : List Int) : AllD (nuD s) := all_digs (mdigs_digs s _)
theorem nuD_ne {s : List Int} (h : nuOk s) : nuD s ≠ [] := mdigs_ne (nuF_le s) h
theorem nuD_le (s : List Int) : (nuD s).length ≤ s.length := mdigs_le (nuF_le s)
theorem nuX_le {s : List Int} (hsl : s.length ≤ 281474976710656) : -1300000000000000 ≤ nuX s ∧ nuX s ≤ 1000000000000000 := by
  have h1 := eval_le s (mend s (nuF s))
  have h2 := mplaces_le (nuF_le s)
  unfold nuX
  omega
theorem normX_le {s : List Int} {x : Int} (hd : AllD s) : normX s x ≤ x + s.length ∨ normX s x = 0 := by
  rcases norm_val (x := x) hd with ⟨h1, h2, h3⟩ | ⟨h1, j, h2, h3, h4, h5, h6, h7, h8⟩
  · exact .inr h3
  · exact .inl (by omega)
theorem nu_ok {s : List Int} (h : nuOk s) (hsl : s.length ≤ 281474976710656) : NormOk (nuD s) (nuX s) := by
  have h1 := nuX_le hsl
  have h2 := nuD_le s
  refine ⟨nuD_ne h, ⟨by omega, by omega⟩, nuD_all s, ?_⟩
  rcases normX_le (x := nuX s) (nuD_all s) with h3 | h3 <;> omega
def nuS (s : List Int) : List Int := normS (nuD s)
def nuY (s : List Int) : Int := normX (nuD s) (nuX s)
theorem nu_normal {s : List Int} (h : nuOk s) (hsl : s.length ≤ 281474976710656) : NormalD (nuS s) (nuY s) :=
  norm_normal (nuD_all s) (nu_ok h hsl).2.1.1 (nu_ok h hsl).2.2.2
theorem nuS_le {s : List Int} (h : nuOk s) : (nuS s).length ≤ s.length := Nat.le_trans (norm_len (nuD_ne h)) (nuD_le s)
theorem number_walk (s : List Int) (b e : Int) (neg ok : Bool) (ds t : List Int) (x y : Int) (h1 : Meets Tryz.prog 49 [.str s, .int .i64 0] (.int .i64 b)) (h2 : Meets Tryz.prog 48 [.str s, .int .i64 b] (.tup [.agg [.bool neg, .str ds, .int .i64 x], .int .i64 e, .bool ok]))
    (h3 : ok = true → Meets Tryz.prog 50 [.agg [.bool neg, .str ds, .int .i64 x]] (.agg [.bool neg, .str t, .int .i64 y])) (res : PV) (hr1 : ok = false → res = .tup [.agg [.bool false, .str [], .int .i64 0], .int .i64 0]) (hr2 : ok = true → res = .tup [.agg [.bool neg, .str t, .int .i64 y], .int .i64 e]) :
    Meets Tryz.prog 19 [.str s] res := by
  cases ok
  case' true => replace h3 := h3 rfl; replace hr2 := hr2 rfl; subst hr2
  case' false => replace hr1 := hr1 rfl; subst hr1
  all_goals (refine meets_by ttOk Tryz.func19 Tryz.ntmps19 Tryz.results19 (by kernel_rfl) (c := _) rfl rfl rfl fun E => ?_; simp only [argsFrame])
  all_goals
    repeat' first
      | (with_reducible first | refine PW.seq ?_ | refine PW.block ?_ | refine PW.fork ?_ | refine PW.skip ?_ | refine PW.exit ?_ | refine PW.ret ?_ | refine PW.scope ?_ | refine PW.label ?_ | refine PW.goto ?_)
      | (with_reducible refine PW.region ttOk ?_ ?_
         · rfl)
      | (with_reducible refine PW.regionD ttOk mixed ?_ ?_ ?_
         · rfl
         · rfl) | (with_reducible refine ifW_dec (fun g => ?_) (fun g => ?_) <;> first | (exfalso; omega) | (simp -dsimp only [g, wkI])) | (with_reducible refine condE_dec (fun g => ?_) (fun g => ?_) <;> try (exfalso; omega)) | (with_reducible refine condE_not (fun g => ?_) (fun g => ?_) <;> try (exfalso; omega)) | (simp -dsimp only [↓wkA, ↓wkE, ↓wkJ, wkB, ↓tt, Nat.reduceBEq, Nat.reduceEqDiff, ↓reduceIte, Nat.reduceLT, Array.toList, Nat.reduceAdd, Nat.reduceMul, Int.reduceToNat, Int.reducePow, UInt8.reduceToNat]) | (refine call_by (h1) (views_data rfl) ⟨trivial, trivial, trivial⟩ rfl ?_) | (refine call_by (h2) (views_data rfl) ⟨trivial, trivial, trivial⟩ rfl ?_) | (refine call_by (h3) (views_data rfl) (by simp only [okViews, okView, okViews0, okView0, and_self]) rfl ?_) | (simp -dsimp (disch := first | assumption | omega) only [dec_t, dec_f])
      | (refine And.intro ?_ ?_
         · first | omega | decide | (simp (disch := omega) only [wkW, Int.reduceToNat, Int.reducePow] <;> omega) | (simp <;> omega)) | (simp (disch := omega) only [wkW, Int.reduceToNat, Int.reducePow]) | fail
theorem scan_number {s : List Int} (h : nuOk s) (hsl : s.length ≤ 281474976710656) : Meets Tryz.prog 19 [.str s] (.tup [.agg [.bool (nuN s), .str (nuS s), .int .i64 (nuY s)], .int .i64 (nuE s : Int)]) :=
  number_walk s _ _ _ true _ _ _ _ (scan_blanks s 0 (Nat.zero_le _) hsl) (lit_walk s _ (bend_le s) hsl _ (fun e => absurd e h) fun _ => rfl) (fun _ => scan_normal _ _ _ (nu_ok h hsl).2.1 (Nat.le_trans (nuD_le s) hsl)) _ (fun e => by cases e) fun _ => rfl
theorem scan_number_no {s : List Int} (h : ¬ nuOk s) (hsl : s.length ≤ 281474976710656) : Meets Tryz.prog 19 [.str s] (.tup [.agg [.bool false, .str [], .int .i64 0], .int .i64 0]) :=
  number_walk s _ 0 false false [] [] 0 0 (scan_blanks s 0 (Nat.zero_le _) hsl) (lit_walk s _ (bend_le s) hsl _ (fun _ => rfl) fun e => absurd e h) (fun e => by cases e) _ (fun _ => rfl) fun e => by cases e
theorem parse_walk (s : List Int) (e R : Int) (neg : Bool) (t : List Int) (y : Int) (ok : Bool) (h0 : decide (e = 0) = !ok) (h1 : Meets Tryz.prog 19 [.str s] (.tup [.agg [.bool neg, .str t, .int .i64 y], .int .i64 e])) (h2 : ok = true → Meets Tryz.prog 21 [.agg [.bool neg, .str t, .int .i64 y]] (.tup [.int .u64 R, .int .i64 0]))
    (res : PV) (hr1 : ok = false → res = .tup [.int .u64 0, .int .i64 0]) (hr2 : ok = true → res = .tup [.int .u64 R, .int .i64 e]) : Meets Tryz.prog 16 [.str s] res := by
  cases ok
  case' true => replace h2 := h2 rfl; replace hr2 := hr2 rfl; subst hr2
  case' false => replace hr1 := hr1 rfl; subst hr1
  all_goals (refine meets_by ttOk Tryz.func16 Tryz.ntmps16 Tryz.results16 (by kernel_rfl) (c := _) rfl rfl rfl fun E => ?_; simp only [argsFrame])
  all_goals
    repeat' first
      | (with_reducible first | refine PW.seq ?_ | refine PW.block ?_ | refine PW.fork ?_ | refine PW.skip ?_ | refine PW.exit ?_ | refine PW.ret ?_ | refine PW.scope ?_ | refine PW.label ?_ | refine PW.goto ?_) | (simp only [h0])
      | (with_reducible refine PW.region ttOk ?_ ?_
         · rfl)
      | (with_reducible refine PW.regionD ttOk mixed ?_ ?_ ?_
         · rfl
         · rfl) | (with_reducible refine ifW_dec (fun g => ?_) (fun g => ?_) <;> first | (exfalso; omega) | (simp -dsimp only [g, wkI])) | (with_reducible refine condE_dec (fun g => ?_) (fun g => ?_) <;> try (exfalso; omega)) | (with_reducible refine condE_not (fun g => ?_) (fun g => ?_) <;> try (exfalso; omega)) | (simp -dsimp only [↓wkA, ↓wkE, ↓wkJ, wkB, ↓tt, Nat.reduceBEq, Nat.reduceEqDiff, ↓reduceIte, Nat.reduceLT, Array.toList, Nat.reduceAdd, Nat.reduceMul, Int.reduceToNat, Int.reducePow, UInt8.reduceToNat]) | (refine call_by (h1) (views_data rfl) ⟨trivial, trivial⟩ rfl ?_) | (refine call_by (h2) (views_data rfl) (by simp only [okViews, okView, okViews0, okView0, and_self]) rfl ?_) | (simp -dsimp (disch := first | assumption | omega) only [dec_t, dec_f])
      | (refine And.intro ?_ ?_
         · first | omega | decide | (simp (disch := omega) only [wkW, Int.reduceToNat, Int.reducePow] <;> omega) | (simp <;> omega)) | (simp (disch := omega) only [wkW, Int.reduceToNat, Int.reducePow]) | fail
def nuV (s : List Int) : Nat := dblV (nuN s) (nuD s) (nuX s)
theorem nu_double {s : List Int} (h : nuOk s) (hsl : s.length ≤ 281474976710656) : Meets Tryz.prog 21 [.agg [.bool (nuN s), .str (nuS s), .int .i64 (nuY s)]] (.tup [.int .u64 (nuV s : Int), .int .i64 0]) := by
  have h1 := strtod_double (nuN s) (nu_normal h hsl).1 (Nat.le_trans (nuS_le h) hsl)
  unfold dblV nuS nuY at h1
  rw [norm_rdec (nuD_all s)] at h1
  exact h1
theorem strtod_parse {s : List Int} (h : nuOk s) (hsl : s.length ≤ 281474976710656) : Meets Tryz.prog 16 [.str s] (.tup [.int .u64 (nuV s : Int), .int .i64 (nuE s : Int)]) :=
  parse_walk s _ _ _ _ _ true (decide_eq_false (by have := nuE_pos h; omega)) (scan_number h hsl) (fun _ => nu_double h hsl) _ (fun e => by cases e) fun _ => rfl
theorem road_walk (s : List Int) (e R o : Int) (neg : Bool) (t : List Int) (y : Int) (ok sure : Bool) (h0 : decide (e = 0) = !ok) (h1 : Meets Tryz.prog 19 [.str s] (.tup [.agg [.bool neg, .str t, .int .i64 y], .int .i64 e])) (h2 : ok = true → Meets Tryz.prog 22 [.agg [.bool neg, .str t, .int .i64 y]] (.tup [.int .u64 R, .bool sure]))
    (ho1 : ok = false → o = 0) (ho2 : ok = true → sure = true → o = 1) (ho3 : ok = true → sure = false → o = 2) : Meets Tryz.prog 18 [.str s] (.int .i64 o) := by
  cases ok
  case' true => replace h2 := h2 rfl; replace ho2 := ho2 rfl; replace ho3 := ho3 rfl
  case' false => replace ho1 := ho1 rfl; subst ho1; have h3 := h0
  case' true => cases sure
  case' true.false => replace ho3 := ho3 rfl; subst ho3
  case' true.true => replace ho2 := ho2 rfl; subst ho2
  all_goals (refine meets_by ttOk Tryz.func18 Tryz.ntmps18 Tryz.results18 (by kernel_rfl) (c := _) rfl rfl rfl fun E => ?_; simp only [argsFrame])
  all_goals
    repeat' first
      | (with_reducible first | refine PW.seq ?_ | refine PW.block ?_ | refine PW.fork ?_ | refine PW.skip ?_ | refine PW.exit ?_ | refine PW.ret ?_ | refine PW.scope ?_ | refine PW.label ?_ | refine PW.goto ?_) | (simp only [h0])
      | (with_reducible refine PW.region ttOk ?_ ?_
         · rfl)
      | (with_reducible refine PW.regionD ttOk mixed ?_ ?_ ?_
         · rfl
         · rfl) | (with_reducible refine ifW_dec (fun g => ?_) (fun g => ?_) <;> first | (exfalso; omega) | (simp -dsimp only [g, wkI])) | (with_reducible refine condE_dec (fun g => ?_) (fun g => ?_) <;> try (exfalso; omega)) | (with_reducible refine condE_not (fun g => ?_) (fun g => ?_) <;> try (exfalso; omega)) | (simp -dsimp only [↓wkA, ↓wkE, ↓wkJ, wkB, ↓tt, Nat.reduceBEq, Nat.reduceEqDiff, ↓reduceIte, Nat.reduceLT, Array.toList, Nat.reduceAdd, Nat.reduceMul, Int.reduceToNat, Int.reducePow, UInt8.reduceToNat]) | (refine call_by (h1) (views_data rfl) ⟨trivial, trivial⟩ rfl ?_) | (refine call_by (h2) (views_data rfl) (by simp only [okViews, okView, okViews0, okView0, and_self]) rfl ?_) | (simp -dsimp (disch := first | assumption | omega) only [dec_t, dec_f])
      | (refine And.intro ?_ ?_
         · first | omega | decide | (simp (disch := omega) only [wkW, Int.reduceToNat, Int.reducePow] <;> omega) | (simp <;> omega)) | (simp (disch := omega) only [wkW, Int.reduceToNat, Int.reducePow]) | fail
def roadV (s : List Int) : Int := if nuOk s then (if tryK (nuS s) (nuY s) then 1 else 2) else 0
theorem strtod_road (s : List Int) (hsl : s.length ≤ 281474976710656) : Meets Tryz.prog 18 [.str s] (.int .i64 (roadV s)) := by
  unfold roadV
  by_cases h : nuOk s
  · rw [if_pos h]
    refine road_walk s _ _ _ _ _ _ true _ (decide_eq_false (by have := nuE_pos h; omega)) (scan_number h hsl) (fun _ => quick_try _ (nu_normal h hsl) (Nat.le_trans (nuS_le h) hsl)) (fun e => by cases e) (fun _ hk => if_pos (of_decide_eq_true hk)) (fun _ hk => if_neg (of_decide_eq_false hk))
  · rw [if_neg h]
    exact road_walk s 0 0 _ _ _ _ false false rfl (scan_number_no h hsl) (fun e => by cases e) (fun _ => rfl) (fun e => by cases e) (fun e => by cases e)
theorem road_x : Meets Tryz.prog 18 [.str [120]] (.int .i64 0) := by
  have h := strtod_road [120] (by decide)
  rw [show roadV [120] = 0 from if_neg (by decide +kernel)] at h
  exact h
theorem road_12 : Meets Tryz.prog 18 [.str [49, 50]] (.int .i64 1) := by
  have h := strtod_road [49, 50] (by decide)
  have e1 : nuS [49, 50] = [49, 50] := by decide +kernel
  have e2 : nuY [49, 50] = 0 := by decide +kernel
  have hk : tryK (nuS [49, 50]) (nuY [49, 50]) := by
    rw [e1, e2]
    exact .inr (.inl ⟨by decide, by decide, .inl (by decide)⟩)
  rw [show roadV [49, 50] = 1 from (if_pos (by decide +kernel)).trans (if_pos hk)] at h
  exact h
theorem parse_at (s : List Int) (v e : Nat) (hl : s.length ≤ 1000) (h : nuOk s) (hv : nuV s = v) (he : nuE s = e) : Meets Tryz.prog 16 [.str s] (.tup [.int .u64 (v : Int), .int .i64 (e : Int)]) := by
  have := strtod_parse h (by omega)
  rw [hv, he] at this
  exact this
theorem law10_awake (res : PV) (hres : res = .bool true) : Meets Tryz.prog 24 [] res := by
  subst hres
  have h1 : Meets Tryz.prog 16 [.str [32, 48, 46, 49, 120]] (.tup [.int .u64 4591870180066957722, .int .i64 4]) := parse_at _ 4591870180066957722 4 (by decide) (by decide +kernel) (by decide +kernel) (by decide +kernel)
  have hn : NormOk [49, 50] (-1) := ⟨by decide, ⟨by decide, by decide⟩, fun j hj => by
    match j, hj with
    | 0, _ => decide
    | 1, _ => decide
    | j + 2, h => simp at h; omega, by decide +kernel⟩
  have e1 : rdec (num 10 [49, 50]) (-1) = 4608083138725491507 := by decide +kernel
  have h2 : Meets Tryz.prog 20 [.agg [.bool true, .str [49, 50], .int .i64 (-1)]] (.tup [.int .u64 13831455175580267315, .int .i64 0]) := by
    have := strtod_exact true hn (by decide)
    unfold dblV at this
    rw [e1] at this
    exact this
  have h3 : Meets Tryz.prog 21 [.agg [.bool false, .str [49, 50], .int .i64 (-1)]] (.tup [.int .u64 4608083138725491507, .int .i64 0]) := by
    have := strtod_double false hn (by decide)
    unfold dblV at this
    rw [e1] at this
    exact this
  have h4 := road_x
  have h5 := road_12
  refine meets_by ttOk Tryz.func24 Tryz.ntmps24 Tryz.results24 (by kernel_rfl) (c := _) rfl rfl rfl fun E => ?_
  simp only [argsFrame]
  repeat' first
    | (with_reducible first | refine PW.seq ?_ | refine PW.block ?_ | refine PW.fork ?_ | refine PW.skip ?_ | refine PW.exit ?_ | refine PW.ret ?_ | refine PW.scope ?_ | refine PW.label ?_ | refine PW.goto ?_)
    | (with_reducible refine PW.region ttOk ?_ ?_
       · rfl)
    | (with_reducible refine PW.regionD ttOk mixed ?_ ?_ ?_
       · rfl
       · rfl) | (with_reducible refine ifW_dec (fun g => ?_) (fun g => ?_) <;> first | (exfalso; omega) | (simp -dsimp only [g, wkI])) | (with_reducible refine condE_dec (fun g => ?_) (fun g => ?_) <;> try (exfalso; omega)) | (with_reducible refine condE_not (fun g => ?_) (fun g => ?_) <;> try (exfalso; omega)) | (simp -dsimp only [↓wkA, ↓wkE, ↓wkJ, wkB, ↓tt, Nat.reduceBEq, Nat.reduceEqDiff, ↓reduceIte, Nat.reduceLT, Array.toList, Nat.reduceAdd, Nat.reduceMul, Int.reduceToNat, Int.reducePow, UInt8.reduceToNat]) | (refine call_by (h1) (views_data rfl) ⟨trivial, trivial⟩ rfl ?_) | (refine call_by (h2) (views_data rfl) (by simp only [okViews, okView, okViews0, okView0, and_self]) rfl ?_) | (refine call_by (h3) (views_data rfl) (by simp only [okViews, okView, okViews0, okView0, and_self]) rfl ?_) | (refine call_by (h4) (views_data rfl) ⟨trivial, trivial⟩ rfl ?_) | (refine call_by (h5) (views_data rfl) ⟨trivial, trivial⟩ rfl ?_) | (simp -dsimp (disch := first | assumption | omega) only [dec_t, dec_f])
    | (refine And.intro ?_ ?_
       · first | omega | decide | (simp (disch := omega) only [wkW, Int.reduceToNat, Int.reducePow] <;> omega) | (simp <;> omega)) | (simp (disch := omega) only [wkW, Int.reduceToNat, Int.reducePow]) | fail
-- a text behind another
section
variable {p s : List Int}
theorem getD_behind (j : Nat) : (p ++ s).getD (p.length + j) 0 = s.getD j 0 := by
  rw [List.getD_eq_getElem?_getD, List.getD_eq_getElem?_getD, List.getElem?_append_right (by omega)]
  congr 2
  omega
theorem drop_behind (j : Nat) : (p ++ s).drop (p.length + j) = s.drop j := by
  rw [List.drop_append, List.drop_eq_nil_of_le (by omega), List.nil_append]
  congr 1
  omega
theorem range_behind (k i : Nat) : ((p ++ s).take (p.length + k)).drop (p.length + i) = (s.take k).drop i := by
  rw [List.take_append, List.take_of_length_le (by omega), show p.length + k - p.length = k by omega, drop_behind]
theorem run_behind (q : Int → Bool) (i : Nat) : runE q (p ++ s) (p.length + i) = p.length + runE q s i := by
  unfold runE
  rw [drop_behind]
  omega
theorem dend_behind (i : Nat) : dend (p ++ s) (p.length + i) = p.length + dend s i := run_behind _ _
theorem sgn_behind (i : Nat) : sgn (p ++ s) (p.length + i) = p.length + sgn s i := by
  unfold sgn
  rw [getD_behind]
  split <;> omega
theorem pnt_behind (i : Nat) : pnt (p ++ s) (p.length + i) ↔ pnt s i := by
  unfold pnt
  rw [dend_behind, getD_behind, show p.length + dend s i + 1 = p.length + (dend s i + 1) by omega, getD_behind]
  exact ⟨fun h => ⟨h.1, h.2.imp (fun h => by omega) id⟩, fun h => ⟨h.1, h.2.imp (fun h => by omega) id⟩⟩
theorem mend_behind (i : Nat) : mend (p ++ s) (p.length + i) = p.length + mend s i := by
  unfold mend
  by_cases h : pnt s i
  · rw [if_pos h, if_pos ((pnt_behind i).2 h), dend_behind, show p.length + dend s i + 1 = p.length + (dend s i + 1) by omega, dend_behind]
  · rw [if_neg h, if_neg (fun g => h ((pnt_behind i).1 g)), dend_behind]
theorem mdigs_behind (i : Nat) : mdigs (p ++ s) (p.length + i) = mdigs s i := by
  unfold mdigs
  rw [mend_behind, dend_behind, show p.length + dend s i + 1 = p.length + (dend s i + 1) by omega, range_behind, range_behind]
  by_cases h : pnt s i
  · rw [if_pos h, if_pos ((pnt_behind i).2 h)]
  · rw [if_neg h, if_neg (fun g => h ((pnt_behind i).1 g))]
theorem mplaces_behind (i : Nat) : mplaces (p ++ s) (p.length + i) = mplaces s i := by
  unfold mplaces
  rw [dend_behind, show p.length + dend s i + 1 = p.length + (dend s i + 1) by omega, dend_behind]
  by_cases h : pnt s i
  · rw [if_pos h, if_pos ((pnt_behind i).2 h)]
    omega
  · rw [if_neg h, if_neg (fun g => h ((pnt_behind i).1 g))]
theorem expo_behind (k : Nat) : expo (p ++ s) (p.length + k) ↔ expo s k := by
  unfold expo
  rw [getD_behind, show p.length + k + 1 = p.length + (k + 1) by omega, sgn_behind, getD_behind]
theorem eend_behind (k : Nat) : eend (p ++ s) (p.length + k) = p.length + eend s k := by
  unfold eend
  rw [show p.length + k + 1 = p.length + (k + 1) by omega, sgn_behind, dend_behind]
  by_cases h : expo s k
  · rw [if_pos h, if_pos ((expo_behind k).2 h)]
  · rw [if_neg h, if_neg (fun g => h ((expo_behind k).1 g))]
theorem eval_behind (k : Nat) : eval (p ++ s) (p.length + k) = eval s k := by
  unfold eval capN
  rw [show p.length + k + 1 = p.length + (k + 1) by omega, sgn_behind, eend_behind, getD_behind, range_behind]
  by_cases h : expo s k
  · rw [if_pos h, if_pos ((expo_behind k).2 h)]
  · rw [if_neg h, if_neg (fun g => h ((expo_behind k).1 g))]
end
structure Same (s u : List Int) (m : Nat) : Prop where
  f : nuF u = m + nuF s
  ok : nuOk u ↔ nuOk s
  d : nuD u = nuD s
  x : nuX u = nuX s
  e : nuE u = m + nuE s
theorem same_behind {p s : List Int} (h : nuF (p ++ s) = p.length + nuF s) : Same s (p ++ s) p.length := by
  refine ⟨h, ?_, ?_, ?_, ?_⟩
  · unfold nuOk
    rw [h, mend_behind]
    omega
  · unfold nuD
    rw [h, mdigs_behind]
  · unfold nuX
    rw [h, mend_behind, eval_behind, mplaces_behind]
  · unfold nuE
    rw [h, mend_behind, eend_behind]
theorem Same.v {s u : List Int} {m : Nat} (h : Same s u m) (hn : nuN u = nuN s) : nuV u = nuV s := by
  unfold nuV
  rw [h.d, h.x, hn]
theorem start_zero {s : List Int} (h1 : blB (s.getD 0 0) = false) (h2 : s.getD 0 0 ≠ 43) (h3 : s.getD 0 0 ≠ 45) : bend s 0 = 0 ∧ nuF s = 0 ∧ nuN s = false := by
  have hb : bend s 0 = 0 := run_stop h1
  refine ⟨hb, ?_, ?_⟩
  · unfold nuF sgn
    rw [hb, if_neg (by omega)]
  · unfold nuN
    rw [hb]
    exact decide_eq_false h3
theorem same_sign {s : List Int} {c : Int} (hc : c = 43 ∨ c = 45) (h1 : blB (s.getD 0 0) = false) (h2 : s.getD 0 0 ≠ 43) (h3 : s.getD 0 0 ≠ 45) : Same s (c :: s) 1 ∧ nuN (c :: s) = decide (c = 45) := by
  have hb : bend (c :: s) 0 = 0 := run_stop (by rcases hc with rfl | rfl <;> rfl)
  have hf : nuF ([c] ++ s) = ([c] : List Int).length + nuF s := by
    rw [(start_zero h1 h2 h3).2.1]
    unfold nuF
    show sgn (c :: s) (bend (c :: s) 0) = _
    rw [hb]
    exact if_pos hc
  refine ⟨same_behind hf, ?_⟩
  unfold nuN
  rw [hb]
  rfl
-- the literals that the laws write
theorem getD_ahead {a b : List Int} {i : Nat} (h : i < a.length) : (a ++ b).getD i 0 = a.getD i 0 := by
  rw [List.getD_eq_getElem?_getD, List.getD_eq_getElem?_getD, List.getElem?_append_left h]
theorem getD_at {a b : List Int} {c : Int} : (a ++ c :: b).getD a.length 0 = c := by
  rw [List.getD_eq_getElem?_getD, List.getElem?_append_right (Nat.le_refl _), Nat.sub_self]
  rfl
theorem getD_end {a : List Int} : a.getD a.length 0 = 0 := by
  rw [List.getD_eq_getElem?_getD, List.getElem?_eq_none (Nat.le_refl _)]
  rfl
theorem start_digit {s : List Int} (h : isDig (s.getD 0 0)) : bend s 0 = 0 ∧ nuF s = 0 ∧ nuN s = false := by
  have h1 := h.1
  have h2 := h.2
  refine start_zero ?_ (by omega) (by omega)
  unfold blB
  rw [decide_eq_false (by omega), decide_eq_false (show ¬ s.getD 0 0 ≤ 13 by omega), Bool.and_false]
  rfl
theorem lit_digits {a : List Int} (ha : AllD a) (hne : a ≠ []) : nuOk a ∧ nuN a = false ∧ nuD a = a ∧ nuX a = 0 ∧ nuE a = a.length := by
  have hp := List.length_pos_iff.2 hne
  obtain ⟨z1, z2, z3⟩ := start_digit (ha 0 hp)
  have e1 : dend a 0 = a.length := dend_eq (Nat.zero_le _) (fun j _ hj => ha j hj) (by rw [getD_end]; decide)
  have e2 : ¬ pnt a 0 := fun h => by have := h.1; rw [e1, getD_end] at this; exact absurd this (by decide)
  have e3 : mend a 0 = a.length := (if_neg e2).trans e1
  have e4 : ¬ expo a a.length := fun h => by have := h.1; rw [getD_end] at this; exact absurd this (by decide)
  refine ⟨?_, z3, ?_, ?_, ?_⟩
  · unfold nuOk
    rw [z2, e3]
    omega
  · unfold nuD mdigs
    rw [z2, if_neg e2, e1, List.take_length]
    rfl
  · unfold nuX mplaces eval
    rw [z2, e3, if_neg e2, if_neg e4]
    rfl
  · unfold nuE eend
    rw [z2, e3, if_neg e4]
theorem lit_exp {a b : List Int} (ha : AllD a) (hne : a ≠ []) (hb : AllD b) (hbn : b ≠ []) (hl : num 10 b ≤ 1000000000000000) : nuOk (a ++ 101 :: 45 :: b) ∧ nuN (a ++ 101 :: 45 :: b) = false ∧ nuD (a ++ 101 :: 45 :: b) = a ∧ nuX (a ++ 101 :: 45 :: b) = -(num 10 b : Int) ∧ nuE (a ++ 101 :: 45 :: b) = (a ++ 101 :: 45 :: b).length := by
  have hp := List.length_pos_iff.2 hne
  have hpb := List.length_pos_iff.2 hbn
  generalize hu : a ++ 101 :: 45 :: b = u
  have g1 : ∀ j, j < a.length → u.getD j 0 = a.getD j 0 := fun j hj => by rw [← hu]; exact getD_ahead hj
  have g2 : u.getD a.length 0 = 101 := by rw [← hu]; exact getD_at
  have hu2 : u = (a ++ [101, 45]) ++ b := by rw [← hu, List.append_assoc]; rfl
  have hm : (a ++ [101, 45]).length = a.length + 2 := by rw [List.length_append]; rfl
  have hul : u.length = a.length + 2 + b.length := by rw [hu2, List.length_append, hm]
  have g3 : u.getD (a.length + 1) 0 = 45 := by
    rw [← hu, show a ++ 101 :: 45 :: b = (a ++ [101]) ++ 45 :: b by rw [List.append_assoc]; rfl, show a.length + 1 = (a ++ [101]).length by rw [List.length_append]; rfl]
    exact getD_at
  have g4 : ∀ j, u.getD (a.length + 2 + j) 0 = b.getD j 0 := fun j => by rw [hu2, ← hm]; exact getD_behind j
  obtain ⟨z1, z2, z3⟩ := start_digit (s := u) (by rw [g1 0 hp]; exact ha 0 hp)
  have e1 : dend u 0 = a.length := dend_eq (Nat.zero_le _) (fun j _ hj => by rw [g1 j hj]; exact ha j hj) (by rw [g2]; decide)
  have e2 : ¬ pnt u 0 := fun h => by have := h.1; rw [e1, g2] at this; exact absurd this (by decide)
  have e3 : mend u 0 = a.length := (if_neg e2).trans e1
  have e5 : sgn u (a.length + 1) = a.length + 2 := if_pos (.inr g3)
  have e4 : expo u a.length := ⟨.inl g2, by rw [e5, g4 0]; exact hb 0 hpb⟩
  have e6 : dend u (a.length + 2) = u.length := by
    refine dend_eq (by omega) (fun j h1 h2 => ?_) (by rw [getD_end]; decide)
    have := g4 (j - (a.length + 2))
    rw [show a.length + 2 + (j - (a.length + 2)) = j by omega] at this
    rw [this]
    exact hb _ (by omega)
  have e7 : eend u a.length = u.length := by
    unfold eend
    rw [if_pos e4, e5, e6]
  refine ⟨?_, z3, ?_, ?_, ?_⟩
  · unfold nuOk
    rw [z2, e3]
    omega
  · unfold nuD mdigs
    rw [z2, if_neg e2, e1, ← hu, List.take_left]
    rfl
  · unfold nuX mplaces eval capN
    rw [z2, e3, if_neg e2, if_pos e4, if_pos g3, e5, e7, List.take_length, hu2, ← hm, List.drop_left, Nat.min_eq_left hl]
    omega
  · unfold nuE
    rw [z2, e3, e7]
theorem nuV_val {s a : List Int} {x : Int} (h1 : nuN s = false) (h2 : nuD s = a) (h3 : nuX s = x) : nuV s = rdec (num 10 a) x := by
  unfold nuV dblV
  rw [h1, h2, h3, signed_f]
theorem law_reads (s : List Int) (v e y : Int) (r : Bool) (h : Meets Tryz.prog 16 [.str s] (.tup [.int .u64 v, .int .i64 e])) (hr : (decide (v = y) && decide (e = (s.length : Int))) = r) : Meets Tryz.prog 38 [.str s, .int .u64 y] (.bool r) := by
  subst hr
  by_cases h1 : v = y
  case' pos => have d1 : decide (v = y) = true := decide_eq_true h1
  case' neg => have d1 : decide (v = y) = false := decide_eq_false h1
  all_goals rw [d1]
  all_goals (refine meets_by ttOk Tryz.func38 Tryz.ntmps38 Tryz.results38 (by kernel_rfl) (c := _) rfl rfl rfl fun E => ?_; simp only [argsFrame])
  all_goals
    repeat' first
      | (with_reducible first | refine PW.seq ?_ | refine PW.block ?_ | refine PW.fork ?_ | refine PW.skip ?_ | refine PW.exit ?_ | refine PW.ret ?_ | refine PW.scope ?_ | refine PW.label ?_ | refine PW.goto ?_) | (simp only [d1, Bool.true_and, Bool.false_and])
      | (with_reducible refine PW.region ttOk ?_ ?_
         · rfl)
      | (with_reducible refine PW.regionD ttOk mixed ?_ ?_ ?_
         · rfl
         · rfl) | (with_reducible refine ifW_dec (fun g => ?_) (fun g => ?_) <;> first | (exfalso; omega) | (simp -dsimp only [g, wkI])) | (with_reducible refine condE_dec (fun g => ?_) (fun g => ?_) <;> try (exfalso; omega)) | (with_reducible refine condE_not (fun g => ?_) (fun g => ?_) <;> try (exfalso; omega)) | (simp -dsimp only [↓wkA, ↓wkE, ↓wkJ, wkB, ↓tt, Nat.reduceBEq, Nat.reduceEqDiff, ↓reduceIte, Nat.reduceLT, Array.toList, Nat.reduceAdd, Nat.reduceMul, Int.reduceToNat, Int.reducePow, UInt8.reduceToNat]) | (refine call_by (h) (views_data rfl) ⟨trivial, trivial⟩ rfl ?_) | (simp -dsimp (disch := first | assumption | omega) only [dec_t, dec_f])
      | (refine And.intro ?_ ?_
         · first | omega | decide | (simp (disch := omega) only [wkW, Int.reduceToNat, Int.reducePow] <;> omega) | (simp <;> omega)) | (simp (disch := omega) only [wkW, Int.reduceToNat, Int.reducePow]) | fail
-- the middles to both sides of a double
theorem pos_parts {A : Nat} (hA : A < infB) : absD A = A ∧ A = mantD A + (expD A + 1074).toNat * 4503599627370496 ∧ mantD A < 9007199254740992 ∧ -1074 ≤ expD A ∧ expD A ≤ 971 ∧ ((expD A + 1074).toNat = 0 ∨ 4503599627370496 ≤ mantD A) := by
  have hA' : A < 9218868437227405312 := hA
  have h0 : absD A = A := Nat.mod_eq_of_lt (by omega)
  have h1 := abs_parts A
  have h2 := frac_lt A
  rw [h0] at h1
  unfold mantD expD
  by_cases h : fieldD A = 0
  · rw [if_pos h, if_pos h]
    omega
  · rw [if_neg h, if_neg h]
    omega
theorem dv_self {A : Nat} (hA : A < infB) : dv A = mantD A * 2 ^ (expD A + 1074).toNat := by
  have h := dv_parts A
  rw [(pos_parts hA).1] at h
  exact h
theorem dv_next {A : Nat} (hA : A < infB) : dv (A + 1) = (mantD A + 1) * 2 ^ (expD A + 1074).toNat := by
  obtain ⟨_, h1, h2, _, _, h3⟩ := pos_parts hA
  have h := dv_at (m := mantD A + 1) (k := (expD A + 1074).toNat) (by omega) (by omega)
  rw [show mantD A + 1 + (expD A + 1074).toNat * 4503599627370496 = A + 1 by omega] at h
  exact h
end Go.Proofs.YtbmhnjghpjkjpaaGreatDoor

import Derived.Test.YtjfakpogfakicaaDoorL2
set_option linter.unusedVariables false
set_option linter.unusedSimpArgs false
namespace Go.Proofs.YtjfakpogfakicaaDoor
open Go Go.PV

/-- How long what is left is, once the byte is taken off the end. -/
def endN (s : List Int) (c : Int) : Nat → Nat
  | 0 => 0
  | n + 1 => if s.getD n 0 = c then endN s c n else n + 1
theorem endN_le (s : List Int) (c : Int) : ∀ n, endN s c n ≤ n
  | 0 => Nat.le_refl _
  | n + 1 => by
    rw [endN]
    split
    · have := endN_le s c n; omega
    · exact Nat.le_refl _
theorem endN_zero {s : List Int} {c : Int} : ∀ n, endN s c n = 0 ↔ ∀ j, j < n → s.getD j 0 = c
  | 0 => ⟨fun _ j hj => by omega, fun _ => rfl⟩
  | n + 1 => by
    rw [endN]
    by_cases h : s.getD n 0 = c
    · rw [if_pos h, endN_zero n]
      constructor
      · intro h2 j hj
        by_cases e : j = n
        · rw [e]; exact h
        · exact h2 j (by omega)
      · intro h2 j hj; exact h2 j (by omega)
    · rw [if_neg h]
      constructor
      · intro h2; omega
      · intro h2; exact absurd (h2 n (by omega)) h
theorem endN_last {s : List Int} {c : Int} : ∀ n, endN s c n ≠ 0 → s.getD (endN s c n - 1) 0 ≠ c
  | 0, h => absurd rfl h
  | n + 1, h => by
    rw [endN] at h ⊢
    by_cases h2 : s.getD n 0 = c
    · rw [if_pos h2] at h ⊢; exact endN_last n h
    · rw [if_neg h2]; exact h2

def headL (c : Int) : List Int → List Int
  | [] => []
  | x :: r => if x = c then headL c r else x :: r
theorem headL_nil {c : Int} : ∀ l : List Int, headL c l = [] ↔ ∀ x ∈ l, x = c
  | [] => by simp [headL]
  | x :: r => by
    rw [headL]
    by_cases h : x = c
    · rw [if_pos h, headL_nil r]
      constructor
      · intro h2 y hy
        rcases List.mem_cons.1 hy with rfl | hy
        · exact h
        · exact h2 y hy
      · intro h2 y hy; exact h2 y (by simp [hy])
    · rw [if_neg h]
      constructor
      · intro h2; cases h2
      · intro h2; exact absurd (h2 x (by simp)) h

theorem trim_right (s : List Int) (c : Int) (hsl : s.length ≤ 1000000000000000) : Meets Tryd.prog 23 [.str s, .int .u8 c] (.str (s.take (endN s c s.length))) := by
  refine meets_by ttOk Tryd.func23 Tryd.ntmps23 Tryd.results23 (by kernel_rfl) (c := _) rfl rfl rfl fun E => ?_
  simp only [argsFrame]
  repeat' first
    | (with_reducible first | refine PW.seq ?_ | refine PW.block ?_ | refine PW.fork ?_ | refine PW.skip ?_ | refine PW.exit ?_ | refine PW.ret ?_)
    | (with_reducible refine PW.region ttOk ?_ ?_
       · rfl)
    | (with_reducible refine PW.regionD ttOk mixed ?_ ?_ ?_
       · rfl
       · rfl)
    | (with_reducible refine ifW_dec (fun g => ?_) (fun g => ?_) <;> first | (exfalso; omega) | (simp -dsimp only [g, wkI]))
    | (with_reducible refine condE_dec (fun g => ?_) (fun g => ?_) <;> try (exfalso; omega))
    | (with_reducible refine condE_not (fun g => ?_) (fun g => ?_) <;> try (exfalso; omega))
    | (simp -dsimp only [↓wkA, wkB, ↓tt, Nat.reduceBEq, Nat.reduceEqDiff, ↓reduceIte, Nat.reduceLT, Array.toList, Nat.reduceAdd, Nat.reduceMul, Int.reduceToNat, Int.reducePow, UInt8.reduceToNat])
    | (simp -dsimp (disch := first | assumption | omega) only [dec_t, dec_f])
    | (refine And.intro ?_ ?_
       · first | omega | decide | (simp (disch := omega) only [wkW, Int.reduceToNat, Int.reducePow] <;> omega) | (simp <;> omega))
    | (simp (disch := omega) only [wkW, Int.reduceToNat, Int.reducePow])
    | fail
  refine PW.loopA (fun m F H => m ≤ s.length ∧ endN s c m = endN s c s.length ∧ F = [(0, .str (s.take m)), (1, .int .u8 c)] ∧ H = ⟨0, [], [], []⟩) s.length [(0, .str (s.take s.length)), (1, .int .u8 c)] ⟨0, [], [], []⟩ (Sub.norm ⟨congrArg PV.str List.take_length.symm, rfl, trivial⟩ trivial (Nat.le_refl _) rfl rfl rfl rfl) ⟨Nat.le_refl _, rfl, rfl, rfl⟩ ?_
  rintro m F H ⟨hm, he, rfl, rfl⟩
  have hl : (s.take m).length = m := by simp; omega
  cases m with
  | zero =>
    have : s.take (endN s c s.length) = [] := by rw [← he]; rfl
    rw [this]
    repeat' first
      | (with_reducible first | refine PW.seq ?_ | refine PW.block ?_ | refine PW.fork ?_ | refine PW.skip ?_ | refine PW.exit ?_ | refine PW.ret ?_)
      | (with_reducible refine PW.region ttOk ?_ ?_
         · rfl)
      | (with_reducible refine PW.regionD ttOk mixed ?_ ?_ ?_
         · rfl
         · rfl)
      | (with_reducible refine ifW_dec (fun g => ?_) (fun g => ?_) <;> first | (exfalso; omega) | (simp -dsimp only [g, wkI]))
      | (with_reducible refine condE_dec (fun g => ?_) (fun g => ?_) <;> try (exfalso; omega))
      | (with_reducible refine condE_not (fun g => ?_) (fun g => ?_) <;> try (exfalso; omega))
      | (simp -dsimp only [↓wkA, wkB, ↓tt, Nat.reduceBEq, Nat.reduceEqDiff, ↓reduceIte, Nat.reduceLT, Array.toList, Nat.reduceAdd, Nat.reduceMul, Int.reduceToNat, Int.reducePow, UInt8.reduceToNat])
      | (simp -dsimp (disch := first | assumption | omega) only [dec_t, dec_f])
      | (refine And.intro ?_ ?_
         · first | omega | decide | (simp (disch := omega) only [wkW, Int.reduceToNat, Int.reducePow] <;> omega) | (simp <;> omega))
      | (simp (disch := omega) only [wkW, Int.reduceToNat, Int.reducePow])
      | fail
  | succ m =>
    have hg : (s.take (m + 1)).getD m 0 = s.getD m 0 := by
      rw [List.getD_eq_getElem?_getD, List.getElem?_take, if_pos (by omega), List.getD_eq_getElem?_getD]
    have e : ((m + 1 : Nat) : Int) - 1 = (m : Int) := by omega
    have hw : IntKind.wrap .i64 (m : Int) = (m : Int) := wrap_i64 (by omega)
    have htt : (s.take (m + 1)).take m = s.take m := by rw [List.take_take, Nat.min_eq_left (by omega)]
    obtain ⟨t, htd⟩ : ∃ t, s.take (m + 1) = t := ⟨_, rfl⟩
    rw [htd] at hl hg htt ⊢
    repeat' first
      | (simp only [hl, e, hw, Int.toNat_natCast, Int.sub_zero, hg, htt])
      | (with_reducible first | refine PW.seq ?_ | refine PW.block ?_ | refine PW.fork ?_ | refine PW.skip ?_ | refine PW.exit ?_ | refine PW.ret ?_)
      | (with_reducible refine PW.region ttOk ?_ ?_
         · rfl)
      | (with_reducible refine PW.regionD ttOk mixed ?_ ?_ ?_
         · rfl
         · rfl)
      | (with_reducible refine ifW_dec (fun g => ?_) (fun g => ?_) <;> first | (exfalso; omega) | (simp -dsimp only [g, wkI]))
      | (with_reducible refine condE_dec (fun g => ?_) (fun g => ?_) <;> try (exfalso; omega))
      | (with_reducible refine condE_not (fun g => ?_) (fun g => ?_) <;> try (exfalso; omega))
      | (simp -dsimp only [↓wkA, wkB, ↓tt, Nat.reduceBEq, Nat.reduceEqDiff, ↓reduceIte, Nat.reduceLT, Array.toList, Nat.reduceAdd, Nat.reduceMul, Int.reduceToNat, Int.reducePow, UInt8.reduceToNat])
      | (simp -dsimp (disch := first | assumption | omega) only [dec_t, dec_f])
      | (refine And.intro ?_ ?_
         · first | omega | decide | (simp (disch := omega) only [wkW, Int.reduceToNat, Int.reducePow] <;> omega) | (simp <;> omega))
      | (simp (disch := omega) only [wkW, Int.reduceToNat, Int.reducePow])
      | fail
    · have h0 : s.getD m 0 = c := by assumption
      exact Again.mk m [(0, .str (s.take m)), (1, .int .u8 c)] ⟨0, [], [], []⟩ (by omega) (Sub.norm ⟨rfl, rfl, trivial⟩ trivial (Nat.le_refl _) rfl rfl rfl rfl) ⟨by omega, by rw [← he, endN, if_pos h0], rfl, rfl⟩
    · have h0 : ¬ s.getD m 0 = c := by assumption
      rw [← he, endN, if_neg h0, htd]

theorem trim_left (s : List Int) (c : Int) (hsl : s.length ≤ 1000000000000000) : Meets Tryd.prog 22 [.str s, .int .u8 c] (.str (headL c s)) := by
  refine meets_by ttOk Tryd.func22 Tryd.ntmps22 Tryd.results22 (by kernel_rfl) (c := _) rfl rfl rfl fun E => ?_
  simp only [argsFrame]
  repeat' first
    | (with_reducible first | refine PW.seq ?_ | refine PW.block ?_ | refine PW.fork ?_ | refine PW.skip ?_ | refine PW.exit ?_ | refine PW.ret ?_)
    | (with_reducible refine PW.region ttOk ?_ ?_
       · rfl)
    | (with_reducible refine PW.regionD ttOk mixed ?_ ?_ ?_
       · rfl
       · rfl)
    | (with_reducible refine ifW_dec (fun g => ?_) (fun g => ?_) <;> first | (exfalso; omega) | (simp -dsimp only [g, wkI]))
    | (with_reducible refine condE_dec (fun g => ?_) (fun g => ?_) <;> try (exfalso; omega))
    | (with_reducible refine condE_not (fun g => ?_) (fun g => ?_) <;> try (exfalso; omega))
    | (simp -dsimp only [↓wkA, wkB, ↓tt, Nat.reduceBEq, Nat.reduceEqDiff, ↓reduceIte, Nat.reduceLT, Array.toList, Nat.reduceAdd, Nat.reduceMul, Int.reduceToNat, Int.reducePow, UInt8.reduceToNat])
    | (simp -dsimp (disch := first | assumption | omega) only [dec_t, dec_f])
    | (refine And.intro ?_ ?_
       · first | omega | decide | (simp (disch := omega) only [wkW, Int.reduceToNat, Int.reducePow] <;> omega) | (simp <;> omega))
    | (simp (disch := omega) only [wkW, Int.reduceToNat, Int.reducePow])
    | fail
  refine PW.loopA (fun m F H => ∃ t : List Int, t.length = m ∧ m ≤ s.length ∧ headL c t = headL c s ∧ F = [(0, .str t), (1, .int .u8 c)] ∧ H = ⟨0, [], [], []⟩) s.length [(0, .str s), (1, .int .u8 c)] ⟨0, [], [], []⟩ (Sub.norm ⟨rfl, rfl, trivial⟩ trivial (Nat.le_refl _) rfl rfl rfl rfl) ⟨s, rfl, Nat.le_refl _, rfl, rfl, rfl⟩ ?_
  rintro m F H ⟨t, ht, hm, he, rfl, rfl⟩
  rw [← he]
  clear he
  cases t with
  | nil =>
    repeat' first
      | (with_reducible first | refine PW.seq ?_ | refine PW.block ?_ | refine PW.fork ?_ | refine PW.skip ?_ | refine PW.exit ?_ | refine PW.ret ?_)
      | (with_reducible refine PW.region ttOk ?_ ?_
         · rfl)
      | (with_reducible refine PW.regionD ttOk mixed ?_ ?_ ?_
         · rfl
         · rfl)
      | (with_reducible refine ifW_dec (fun g => ?_) (fun g => ?_) <;> first | (exfalso; omega) | (simp -dsimp only [g, wkI]))
      | (with_reducible refine condE_dec (fun g => ?_) (fun g => ?_) <;> try (exfalso; omega))
      | (with_reducible refine condE_not (fun g => ?_) (fun g => ?_) <;> try (exfalso; omega))
      | (simp -dsimp only [↓wkA, wkB, ↓tt, Nat.reduceBEq, Nat.reduceEqDiff, ↓reduceIte, Nat.reduceLT, Array.toList, Nat.reduceAdd, Nat.reduceMul, Int.reduceToNat, Int.reducePow, UInt8.reduceToNat])
      | (simp -dsimp (disch := first | assumption | omega) only [dec_t, dec_f])
      | (refine And.intro ?_ ?_
         · first | omega | decide | (simp (disch := omega) only [wkW, Int.reduceToNat, Int.reducePow] <;> omega) | (simp <;> omega))
      | (simp (disch := omega) only [wkW, Int.reduceToNat, Int.reducePow])
      | fail
    rfl
  | cons x r =>
    simp only [List.length_cons] at ht
    have hr : List.take r.length r = r := List.take_length
    repeat' first
      | (simp only [List.drop_succ_cons, List.drop_zero, hr, Int.toNat_natCast])
      | (with_reducible first | refine PW.seq ?_ | refine PW.block ?_ | refine PW.fork ?_ | refine PW.skip ?_ | refine PW.exit ?_ | refine PW.ret ?_)
      | (with_reducible refine PW.region ttOk ?_ ?_
         · rfl)
      | (with_reducible refine PW.regionD ttOk mixed ?_ ?_ ?_
         · rfl
         · rfl)
      | (with_reducible refine ifW_dec (fun g => ?_) (fun g => ?_) <;> first | (exfalso; omega) | (simp -dsimp only [g, wkI]))
      | (with_reducible refine condE_dec (fun g => ?_) (fun g => ?_) <;> try (exfalso; omega))
      | (with_reducible refine condE_not (fun g => ?_) (fun g => ?_) <;> try (exfalso; omega))
      | (simp -dsimp only [↓wkA, wkB, ↓tt, Nat.reduceBEq, Nat.reduceEqDiff, ↓reduceIte, Nat.reduceLT, Array.toList, Nat.reduceAdd, Nat.reduceMul, Int.reduceToNat, Int.reducePow, UInt8.reduceToNat])
      | (simp -dsimp (disch := first | assumption | omega) only [dec_t, dec_f])
      | (refine And.intro ?_ ?_
         · first | omega | decide | (simp (disch := omega) only [wkW, Int.reduceToNat, Int.reducePow] <;> omega) | (simp <;> omega))
      | (simp (disch := omega) only [wkW, Int.reduceToNat, Int.reducePow])
      | fail
    · have h0 : x = c := by assumption
      exact Again.mk r.length [(0, .str r), (1, .int .u8 c)] ⟨0, [], [], []⟩ (by omega) (Sub.norm ⟨rfl, rfl, trivial⟩ trivial (Nat.le_refl _) rfl rfl rfl rfl) ⟨r, rfl, by omega, by conv => { rhs; rw [headL, if_pos h0] }, rfl, rfl⟩
    · have h0 : ¬ x = c := by assumption
      rw [headL, if_neg h0]

theorem trim_byte (s : List Int) (hsl : s.length ≤ 1000000000000000) : Meets Tryd.prog 13 [.str s, .str [48]] (.str (headL 48 (s.take (endN s 48 s.length)))) := by
  have h1 := trim_right s 48 hsl
  have hl := endN_le s 48 s.length
  have h2 := trim_left (s.take (endN s 48 s.length)) 48 (by simp; omega)
  refine meets_by ttOk Tryd.func13 Tryd.ntmps13 Tryd.results13 (by kernel_rfl) (c := _) rfl rfl rfl fun E => ?_
  simp only [argsFrame]
  by_cases hs : s = []
  · subst hs
    have : headL 48 (([] : List Int).take (endN [] 48 ([] : List Int).length)) = [] := rfl
    rw [this]
    repeat' first
      | (simp only [eq_self, decide_true])
      | (with_reducible first | refine PW.seq ?_ | refine PW.block ?_ | refine PW.fork ?_ | refine PW.skip ?_ | refine PW.exit ?_ | refine PW.ret ?_)
      | (with_reducible refine PW.region ttOk ?_ ?_
         · rfl)
      | (with_reducible refine PW.regionD ttOk mixed ?_ ?_ ?_
         · rfl
         · rfl)
      | (with_reducible refine ifW_dec (fun g => ?_) (fun g => ?_) <;> first | (exfalso; omega) | (simp -dsimp only [g, wkI]))
      | (with_reducible refine condE_dec (fun g => ?_) (fun g => ?_) <;> try (exfalso; omega))
      | (with_reducible refine condE_not (fun g => ?_) (fun g => ?_) <;> try (exfalso; omega))
      | (simp -dsimp only [↓wkA, wkB, ↓tt, Nat.reduceBEq, Nat.reduceEqDiff, ↓reduceIte, Nat.reduceLT, Array.toList, Nat.reduceAdd, Nat.reduceMul, Int.reduceToNat, Int.reducePow, UInt8.reduceToNat])
      | (simp -dsimp (disch := first | assumption | omega) only [dec_t, dec_f])
      | (refine And.intro ?_ ?_
         · first | omega | decide | (simp (disch := omega) only [wkW, Int.reduceToNat, Int.reducePow] <;> omega) | (simp <;> omega))
      | (simp (disch := omega) only [wkW, Int.reduceToNat, Int.reducePow])
      | fail
  · have hd : decide (s = []) = false := decide_eq_false hs
    repeat' first
      | (simp only [hd, reduceCtorEq, decide_false])
      | (with_reducible first | refine PW.seq ?_ | refine PW.block ?_ | refine PW.fork ?_ | refine PW.skip ?_ | refine PW.exit ?_ | refine PW.ret ?_)
      | (with_reducible refine PW.region ttOk ?_ ?_
         · rfl)
      | (with_reducible refine PW.regionD ttOk mixed ?_ ?_ ?_
         · rfl
         · rfl)
      | (with_reducible refine ifW_dec (fun g => ?_) (fun g => ?_) <;> first | (exfalso; omega) | (simp -dsimp only [g, wkI]))
      | (with_reducible refine condE_dec (fun g => ?_) (fun g => ?_) <;> try (exfalso; omega))
      | (with_reducible refine condE_not (fun g => ?_) (fun g => ?_) <;> try (exfalso; omega))
      | (simp -dsimp only [↓wkA, wkB, ↓tt, Nat.reduceBEq, Nat.reduceEqDiff, ↓reduceIte, Nat.reduceLT, Array.toList, Nat.reduceAdd, Nat.reduceMul, Int.reduceToNat, Int.reducePow, UInt8.reduceToNat])
      | (refine callD_by h1 (views_data rfl) ⟨trivial, trivial, trivial⟩ rfl ?_)
      | (refine callD_by h2 (views_data rfl) ⟨trivial, trivial, trivial⟩ rfl ?_)
      | (simp -dsimp (disch := first | assumption | omega) only [dec_t, dec_f])
      | (refine And.intro ?_ ?_
         · first | omega | decide | (simp (disch := omega) only [wkW, Int.reduceToNat, Int.reducePow] <;> omega) | (simp <;> omega))
      | (simp (disch := omega) only [wkW, Int.reduceToNat, Int.reducePow])
      | fail

/-- Nothing but zeros. -/
def AllZ (s : List Int) : Prop := ∀ j, j < s.length → s.getD j 0 = 48
theorem trim_nil {s : List Int} : headL 48 (s.take (endN s 48 s.length)) = [] ↔ AllZ s := by
  have hl := endN_le s 48 s.length
  rw [headL_nil]
  constructor
  · intro h
    refine (endN_zero s.length).1 ?_
    rcases Nat.eq_zero_or_pos (endN s 48 s.length) with h0 | h0
    · exact h0
    · exfalso
      refine endN_last (s := s) (c := 48) s.length (show endN s 48 s.length ≠ 0 by omega) (h _ ?_)
      have hlt : endN s 48 s.length - 1 < s.length := by omega
      rw [List.getD_eq_getElem?_getD, List.getElem?_eq_getElem hlt]
      exact List.mem_take_iff_getElem.2 ⟨endN s 48 s.length - 1, Nat.lt_min.2 ⟨by omega, hlt⟩, rfl⟩
  · intro h
    rw [(endN_zero s.length).2 h]
    intro x hx; cases hx
end Go.Proofs.YtjfakpogfakicaaDoor


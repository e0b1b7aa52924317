/- Contracts and laws that the row leans on, part 11: texts that were built one by one, laid together. -/
import Derived.Laws.Externs
import Derived.Lib.Builder
import Derived.Lib.UnsafeStr
import Derived.ChangeSlices
import Derived.Test.YtbmhnjghpjkjpaaGreatDoorPart1
import Derived.Test.YtbmhnjghpjkjpaaGreatDoorPart2
import Derived.Test.YtbmhnjghpjkjpaaGreatDoorPart3
import Derived.Test.YtbmhnjghpjkjpaaGreatDoorPart4
import Derived.Test.YtbmhnjghpjkjpaaGreatDoorPart5
import Derived.Test.YtbmhnjghpjkjpaaGreatDoorPart6
import Derived.Test.YtbmhnjghpjkjpaaGreatDoorPart7
import Derived.Test.YtbmhnjghpjkjpaaGreatDoorPart8
import Derived.Test.YtbmhnjghpjkjpaaGreatDoorPart9
import Derived.Test.YtbmhnjghpjkjpaaGreatDoorPart10
set_option linter.unusedVariables false
set_option linter.unusedSimpArgs false
namespace Go.PV
open Go Go.RowKit

section
variable {P : Program} {w w' : World} {ow ow' : Nat → Prop} {loc loc' : Locs} {n nt : Nat} {E : Entry P} {H : Heap} {F : Frame} {a : Act} {tt : Tab} {rows : Nat → Option Row}

end
end Go.PV
set_option linter.unusedVariables false
set_option linter.unusedSimpArgs false
namespace Go.PV
open Go Go.RowKit

section
variable {P : Program} {w w' : World} {ow ow' : Nat → Prop} {loc loc' : Locs} {n nt : Nat} {E : Entry P} {H : Heap} {F : Frame} {a : Act} {tt : Tab} {rows : Nat → Option Row}

end
end Go.PV
set_option linter.unusedVariables false
set_option linter.unusedSimpArgs false
namespace Go.PV
open Go Go.RowKit

section
variable {P : Program} {w w' : World} {ow ow' : Nat → Prop} {loc loc' : Locs} {n nt : Nat} {E : Entry P} {H : Heap} {F : Frame} {a : Act} {tt : Tab} {rows : Nat → Option Row}

end
end Go.PV
set_option linter.unusedVariables false
set_option linter.unusedSimpArgs false
namespace Go.PV
open Go Go.RowKit

section
variable {P : Program} {w w' : World} {ow ow' : Nat → Prop} {loc loc' : Locs} {n nt : Nat} {E : Entry P} {H : Heap} {F : Frame} {a : Act} {tt : Tab} {rows : Nat → Option Row}

end
end Go.PV
set_option linter.unusedVariables false
set_option linter.unusedSimpArgs false
namespace Go.PV
open Go Go.RowKit

section
variable {P : Program} {w w' : World} {ow ow' : Nat → Prop} {loc loc' : Locs} {n nt : Nat} {E : Entry P} {H : Heap} {F : Frame} {a : Act} {tt : Tab} {rows : Nat → Option Row}

end
end Go.PV
set_option linter.unusedVariables false
set_option linter.unusedSimpArgs false
namespace Go.PV
open Go Go.RowKit

end Go.PV
set_option linter.unusedVariables false
set_option linter.unusedSimpArgs false
namespace Go.PV
open Go Go.RowKit

end Go.PV
set_option linter.unusedVariables false
set_option linter.unusedSimpArgs false
namespace Go.PV
open Go Go.RowKit

end Go.PV
set_option linter.unusedVariables false
set_option linter.unusedSimpArgs false
namespace Go.PV
open Go Go.RowKit

section
variable {P : Program} {w w' : World} {ow ow' : Nat → Prop} {loc loc' : Locs} {n nt : Nat} {E : Entry P} {H : Heap} {F : Frame} {a : Act} {tt : Tab} {rows : Nat → Option Row}

end
end Go.PV
set_option linter.unusedVariables false
set_option linter.unusedSimpArgs false
namespace Go.PV
open Go Go.RowKit

section
variable {P : Program} {w w' : World} {ow ow' : Nat → Prop} {loc loc' : Locs} {n nt : Nat} {E : Entry P} {H : Heap} {F : Frame} {a : Act} {tt : Tab} {rows : Nat → Option Row}

end
end Go.PV
set_option linter.unusedVariables false
set_option linter.unusedSimpArgs false
namespace Go.PV
open Go Go.RowKit

section
variable {P : Program} {nt : Nat} {E : Entry P} {H : Heap} {F : Frame}

end
end Go.PV
namespace Go.PV
end Go.PV
namespace Go.PV
open Go Go.RowKit

theorem args2 {w : World} {ow : Nat → Prop} {p q : PV} {v u : Value} (h : RD w ow p v) (h2 : RD w ow q u) : ∀ i, i < [p, q].length → RD w ow ([p, q].getD i .undef) (#[v, u].getD i undef) := by
  intro i hi
  match i, hi with
  | 0, _ => exact h
  | 1, _ => exact h2
end Go.PV
set_option linter.unusedVariables false
set_option linter.unusedSimpArgs false
namespace Go.PV
open Go Go.RowKit
variable {P : Program}
end Go.PV
set_option maxHeartbeats 4000000
set_option maxRecDepth 4000
set_option exponentiation.threshold 300000
set_option linter.unusedVariables false
set_option linter.unusedSimpArgs false
namespace Go.Proofs.YtbmhnjghpjkjpaaGreatDoor
open Go Go.PV

section
variable {p : Int → Bool} {s : List Int} {i : Nat}
theorem run_eq (hp : p 0 = false) {k : Nat} (hik : i ≤ k) (h1 : ∀ j, i ≤ j → j < k → p (s.getD j 0) = true) (h2 : p (s.getD k 0) = false) : runE p s i = k := by
  obtain ⟨g1, g2⟩ := run_spec hp s i
  have := run_ge p s i
  rcases Nat.lt_trichotomy (runE p s i) k with h | h | h
  · rw [h1 _ this h] at g2; cases g2
  · exact h
  · rw [g1 _ hik h] at h2; cases h2
end

end Go.Proofs.YtbmhnjghpjkjpaaGreatDoor
set_option maxHeartbeats 4000000
set_option maxRecDepth 4000
set_option exponentiation.threshold 300000
set_option linter.unusedVariables false
set_option linter.unusedSimpArgs false
namespace Go.Proofs.YtbmhnjghpjkjpaaGreatDoor
open Go Go.PV

theorem nuE_le (s : List Int) : nuE s ≤ s.length := eend_le (mend_le (nuF_le s))
end Go.Proofs.YtbmhnjghpjkjpaaGreatDoor
set_option maxHeartbeats 4000000
set_option maxRecDepth 4000
set_option exponentiation.threshold 300000
set_option linter.unusedVariables false
set_option linter.unusedSimpArgs false
namespace Go.Proofs.YtbmhnjghpjkjpaaGreatDoor
open Go Go.PV

theorem law10_awake (res : PV) (hres : res = .bool true) : Meets Tryz.prog 24 [] res := by
  subst hres
  have h1 : Meets Tryz.prog 16 [.str [32, 48, 46, 49, 120]] (.tup [.int .u64 4591870180066957722, .int .i64 4]) := parse_at _ 4591870180066957722 4 (by decide) (by decide +kernel) (by decide +kernel) (by decide +kernel)
  have hn : NormOk [49, 50] (-1) := ⟨by decide, ⟨by decide, by decide⟩, fun j hj => by
    match j, hj with
    | 0, _ => decide
    | 1, _ => decide
    | j + 2, h => simp at h; omega, by decide +kernel⟩
  have e1 : rdec (num 10 [49, 50]) (-1) = 4608083138725491507 := by decide +kernel
  have h2 : Meets Tryz.prog 20 [.agg [.bool true, .str [49, 50], .int .i64 (-1)]] (.tup [.int .u64 13831455175580267315, .int .i64 0]) := by
    have := strtod_exact true hn (by decide)
    unfold dblV at this
    rw [e1] at this
    exact this
  have h3 : Meets Tryz.prog 21 [.agg [.bool false, .str [49, 50], .int .i64 (-1)]] (.tup [.int .u64 4608083138725491507, .int .i64 0]) := by
    have := strtod_double false hn (by decide)
    unfold dblV at this
    rw [e1] at this
    exact this
  have h4 := road_x
  have h5 := road_12
  refine meets_by ttOk Tryz.func24 Tryz.ntmps24 Tryz.results24 (by kernel_rfl) (c := _) rfl rfl rfl fun E => ?_
  simp only [argsFrame]
  repeat' first
    | (with_reducible first | refine PW.seq ?_ | refine PW.block ?_ | refine PW.fork ?_ | refine PW.skip ?_ | refine PW.exit ?_ | refine PW.ret ?_ | refine PW.scope ?_ | refine PW.label ?_ | refine PW.goto ?_)
    | (with_reducible refine PW.region ttOk ?_ ?_
       · rfl)
    | (with_reducible refine PW.regionD ttOk mixed ?_ ?_ ?_
       · rfl
       · rfl)
    | (with_reducible refine ifW_dec (fun g => ?_) (fun g => ?_) <;> first | (exfalso; omega) | (simp -dsimp only [g, wkI]))
    | (with_reducible refine condE_dec (fun g => ?_) (fun g => ?_) <;> try (exfalso; omega))
    | (with_reducible refine condE_not (fun g => ?_) (fun g => ?_) <;> try (exfalso; omega))
    | (simp -dsimp only [↓wkA, ↓wkE, ↓wkJ, wkB, ↓tt, Nat.reduceBEq, Nat.reduceEqDiff, ↓reduceIte, Nat.reduceLT, Array.toList, Nat.reduceAdd, Nat.reduceMul, Int.reduceToNat, Int.reducePow, UInt8.reduceToNat])
    | (refine call_by (h1) (views_data rfl) ⟨trivial, trivial⟩ rfl ?_)
    | (refine call_by (h2) (views_data rfl) (by simp only [okViews, okView, okViews0, okView0, and_self]) rfl ?_)
    | (refine call_by (h3) (views_data rfl) (by simp only [okViews, okView, okViews0, okView0, and_self]) rfl ?_)
    | (refine call_by (h4) (views_data rfl) ⟨trivial, trivial⟩ rfl ?_)
    | (refine call_by (h5) (views_data rfl) ⟨trivial, trivial⟩ rfl ?_)
    | (simp -dsimp (disch := first | assumption | omega) only [dec_t, dec_f])
    | (refine And.intro ?_ ?_
       · first | omega | decide | (simp (disch := omega) only [wkW, Int.reduceToNat, Int.reducePow] <;> omega) | (simp <;> omega))
    | (simp (disch := omega) only [wkW, Int.reduceToNat, Int.reducePow])
    | fail

end Go.Proofs.YtbmhnjghpjkjpaaGreatDoor
set_option maxHeartbeats 4000000
set_option maxRecDepth 4000
set_option exponentiation.threshold 300000
set_option linter.unusedVariables false
set_option linter.unusedSimpArgs false
namespace Go.Proofs.YtbmhnjghpjkjpaaGreatDoor
open Go Go.PV

-- a text behind another
section
variable {p s : List Int}
theorem getD_behind (j : Nat) : (p ++ s).getD (p.length + j) 0 = s.getD j 0 := by
  rw [List.getD_eq_getElem?_getD, List.getD_eq_getElem?_getD, List.getElem?_append_right (by omega)]
  congr 2
  omega
theorem drop_behind (j : Nat) : (p ++ s).drop (p.length + j) = s.drop j := by
  rw [List.drop_append, List.drop_eq_nil_of_le (by omega), List.nil_append]
  congr 1
  omega
theorem range_behind (k i : Nat) : ((p ++ s).take (p.length + k)).drop (p.length + i) = (s.take k).drop i := by
  rw [List.take_append, List.take_of_length_le (by omega), show p.length + k - p.length = k by omega, drop_behind]
theorem run_behind (q : Int → Bool) (i : Nat) : runE q (p ++ s) (p.length + i) = p.length + runE q s i := by
  unfold runE
  rw [drop_behind]
  omega
theorem dend_behind (i : Nat) : dend (p ++ s) (p.length + i) = p.length + dend s i := run_behind _ _
theorem sgn_behind (i : Nat) : sgn (p ++ s) (p.length + i) = p.length + sgn s i := by
  unfold sgn
  rw [getD_behind]
  split <;> omega
theorem pnt_behind (i : Nat) : pnt (p ++ s) (p.length + i) ↔ pnt s i := by
  unfold pnt
  rw [dend_behind, getD_behind, show p.length + dend s i + 1 = p.length + (dend s i + 1) by omega, getD_behind]
  exact ⟨fun h => ⟨h.1, h.2.imp (fun h => by omega) id⟩, fun h => ⟨h.1, h.2.imp (fun h => by omega) id⟩⟩
theorem mend_behind (i : Nat) : mend (p ++ s) (p.length + i) = p.length + mend s i := by
  unfold mend
  by_cases h : pnt s i
  · rw [if_pos h, if_pos ((pnt_behind i).2 h), dend_behind, show p.length + dend s i + 1 = p.length + (dend s i + 1) by omega, dend_behind]
  · rw [if_neg h, if_neg (fun g => h ((pnt_behind i).1 g)), dend_behind]
theorem mdigs_behind (i : Nat) : mdigs (p ++ s) (p.length + i) = mdigs s i := by
  unfold mdigs
  rw [mend_behind, dend_behind, show p.length + dend s i + 1 = p.length + (dend s i + 1) by omega, range_behind, range_behind]
  by_cases h : pnt s i
  · rw [if_pos h, if_pos ((pnt_behind i).2 h)]
  · rw [if_neg h, if_neg (fun g => h ((pnt_behind i).1 g))]
theorem mplaces_behind (i : Nat) : mplaces (p ++ s) (p.length + i) = mplaces s i := by
  unfold mplaces
  rw [dend_behind, show p.length + dend s i + 1 = p.length + (dend s i + 1) by omega, dend_behind]
  by_cases h : pnt s i
  · rw [if_pos h, if_pos ((pnt_behind i).2 h)]
    omega
  · rw [if_neg h, if_neg (fun g => h ((pnt_behind i).1 g))]
theorem expo_behind (k : Nat) : expo (p ++ s) (p.length + k) ↔ expo s k := by
  unfold expo
  rw [getD_behind, show p.length + k + 1 = p.length + (k + 1) by omega, sgn_behind, getD_behind]
theorem eend_behind (k : Nat) : eend (p ++ s) (p.length + k) = p.length + eend s k := by
  unfold eend
  rw [show p.length + k + 1 = p.length + (k + 1) by omega, sgn_behind, dend_behind]
  by_cases h : expo s k
  · rw [if_pos h, if_pos ((expo_behind k).2 h)]
  · rw [if_neg h, if_neg (fun g => h ((expo_behind k).1 g))]
theorem eval_behind (k : Nat) : eval (p ++ s) (p.length + k) = eval s k := by
  unfold eval capN
  rw [show p.length + k + 1 = p.length + (k + 1) by omega, sgn_behind, eend_behind, getD_behind, range_behind]
  by_cases h : expo s k
  · rw [if_pos h, if_pos ((expo_behind k).2 h)]
  · rw [if_neg h, if_neg (fun g => h ((expo_behind k).1 g))]
end
structure Same (s u : List Int) (m : Nat) : Prop where
  f : nuF u = m + nuF s
  ok : nuOk u ↔ nuOk s
  d : nuD u = nuD s
  x : nuX u = nuX s
  e : nuE u = m + nuE s
theorem same_behind {p s : List Int} (h : nuF (p ++ s) = p.length + nuF s) : Same s (p ++ s) p.length := by
  refine ⟨h, ?_, ?_, ?_, ?_⟩
  · unfold nuOk
    rw [h, mend_behind]
    omega
  · unfold nuD
    rw [h, mdigs_behind]
  · unfold nuX
    rw [h, mend_behind, eval_behind, mplaces_behind]
  · unfold nuE
    rw [h, mend_behind, eend_behind]

theorem same_until {s u : List Int} {B : Nat} {z : Int} (T : ∀ k, k ≤ B → u.take k = s.take k) (hz : u.getD B 0 = z) (z1 : ¬ isDig z) (z2 : z ≠ 43 ∧ z ≠ 45 ∧ z ≠ 46 ∧ z ≠ 101 ∧ z ≠ 69) (z3 : blB z = false) (hB : nuE s ≤ B) (hS : bend s 0 < B ∨ s.getD B 0 = 0) : Same s u 0 ∧ nuN u = nuN s := by
  have G : ∀ j, j < B → u.getD j 0 = s.getD j 0 := fun j hj => by
    rw [← getD_take' (s := u) (show j < j + 1 by omega), ← getD_take' (s := s) (show j < j + 1 by omega), T (j + 1) (by omega)]
  have R : ∀ (q : Int → Bool) (i : Nat), q 0 = false → q z = false → runE q s i ≤ B → runE q u i = runE q s i := fun q i h0 h1 h2 => by
    obtain ⟨g1, g2⟩ := run_spec h0 s i
    have hge := run_ge q s i
    refine run_eq h0 hge (fun j hj hk => by rw [G j (by omega)]; exact g1 j hj hk) ?_
    rcases Nat.lt_or_eq_of_le h2 with h3 | h3
    · rw [G _ h3]; exact g2
    · rw [h3, hz]; exact h1
  have D : ∀ i, dend s i ≤ B → dend u i = dend s i := fun i h => R digB i digB0 (decide_eq_false z1) h
  have hk := eend_ge s (mend s (nuF s))
  have hm := mend_ge s (nuF s)
  have hf := (sgn_ge s (bend s 0)).1
  have hbB : bend s 0 ≤ B := by unfold nuE at hB; unfold nuF at hk hm hB; omega
  have hb : bend u 0 = bend s 0 := R blB 0 blB0 z3 hbB
  have hg : u.getD (bend s 0) 0 = s.getD (bend s 0) 0 ∨ (u.getD (bend s 0) 0 = z ∧ s.getD (bend s 0) 0 = 0) := by
    rcases Nat.lt_or_eq_of_le hbB with h | h
    · exact .inl (G _ h)
    · rcases hS with h2 | h2
      · omega
      · rw [h]; exact .inr ⟨hz, h2⟩
  have hF : nuF u = nuF s := by
    unfold nuF sgn
    rw [hb]
    rcases hg with h | ⟨h1, h2⟩
    · rw [h]
    · rw [h1, h2, if_neg (by omega), if_neg (by decide)]
  have hN : nuN u = nuN s := by
    unfold nuN
    rw [hb]
    rcases hg with h | ⟨h1, h2⟩
    · rw [h]
    · rw [h1, h2, decide_eq_false z2.2.1]
      rfl
  unfold nuE at hB
  generalize hfe : nuF s = f at *
  have hd := dend_ge s f
  have hdm : dend s f ≤ mend s f := by
    unfold mend
    have := dend_ge s (dend s f + 1)
    split <;> omega
  have e1 := D f (by omega)
  have hp : pnt u f ↔ pnt s f := by
    unfold pnt
    rw [e1]
    constructor
    · rintro ⟨h1, h2⟩
      have hl : dend s f < B := by
        rcases Nat.lt_or_eq_of_le (show dend s f ≤ B by omega) with h | h
        · exact h
        · rw [h, hz] at h1; exact absurd h1 z2.2.2.1
      rw [G _ hl] at h1
      refine ⟨h1, h2.imp id fun h3 => ?_⟩
      rcases Nat.lt_or_eq_of_le (show dend s f + 1 ≤ B by omega) with h | h
      · rw [G _ h] at h3; exact h3
      · rw [h, hz] at h3; exact absurd h3 z1
    · rintro ⟨h1, h2⟩
      have hm2 : mend s f = dend s (dend s f + 1) := if_pos ⟨h1, h2⟩
      have := dend_ge s (dend s f + 1)
      rw [G _ (by omega)]
      refine ⟨h1, h2.imp id fun h3 => ?_⟩
      have h4 := dend_dig h3
      have := dend_ge s (dend s f + 1 + 1)
      rw [G _ (by omega)]
      exact h3
  have hM : mend u f = mend s f := by
    by_cases h : pnt s f
    · have g : mend s f = dend s (dend s f + 1) := if_pos h
      have g' : mend u f = dend u (dend u f + 1) := if_pos (hp.2 h)
      rw [g', g, e1, D _ (by omega)]
    · have g : mend s f = dend s f := if_neg h
      have g' : mend u f = dend u f := if_neg fun k => h (hp.1 k)
      rw [g', g, e1]
  have hK : expo u (mend s f) ↔ expo s (mend s f) := by
    constructor
    · rintro ⟨h1, h2⟩
      have hl : mend s f < B := by
        rcases Nat.lt_or_eq_of_le (show mend s f ≤ B by omega) with h | h
        · exact h
        · rw [h, hz] at h1; omega
      rw [G _ hl] at h1
      have hl1 : mend s f + 1 < B := by
        rcases Nat.lt_or_eq_of_le (show mend s f + 1 ≤ B by omega) with h | h
        · exact h
        · exfalso
          rw [h] at h2
          unfold sgn at h2
          rw [hz, if_neg (by omega), hz] at h2
          exact z1 h2
      have es : sgn u (mend s f + 1) = sgn s (mend s f + 1) := by unfold sgn; rw [G _ hl1]
      rw [es] at h2
      have hl2 : sgn s (mend s f + 1) < B := by
        have := (sgn_ge s (mend s f + 1)).2
        rcases Nat.lt_or_eq_of_le (show sgn s (mend s f + 1) ≤ B by omega) with h | h
        · exact h
        · rw [h, hz] at h2; exact absurd h2 z1
      rw [G _ hl2] at h2
      exact ⟨h1, h2⟩
    · rintro ⟨h1, h2⟩
      have he : eend s (mend s f) = dend s (sgn s (mend s f + 1)) := if_pos ⟨h1, h2⟩
      have h3 := dend_dig h2
      have h4 := dend_ge s (sgn s (mend s f + 1) + 1)
      have h5 := (sgn_ge s (mend s f + 1)).1
      have es : sgn u (mend s f + 1) = sgn s (mend s f + 1) := by unfold sgn; rw [G _ (by omega)]
      refine ⟨by rw [G _ (by omega)]; exact h1, ?_⟩
      rw [es, G _ (by omega)]
      exact h2
  have hE : eend u (mend s f) = eend s (mend s f) := by
    by_cases h : expo s (mend s f)
    · have he : eend s (mend s f) = dend s (sgn s (mend s f + 1)) := if_pos h
      have he' : eend u (mend s f) = dend u (sgn u (mend s f + 1)) := if_pos (hK.2 h)
      have h3 := dend_dig h.2
      have h4 := dend_ge s (sgn s (mend s f + 1) + 1)
      have h5 := (sgn_ge s (mend s f + 1)).1
      have es : sgn u (mend s f + 1) = sgn s (mend s f + 1) := by unfold sgn; rw [G _ (by omega)]
      rw [he', he, es, D _ (by omega)]
    · have he : eend s (mend s f) = mend s f := if_neg h
      have he' : eend u (mend s f) = mend s f := if_neg fun k => h (hK.1 k)
      rw [he, he']
  have hV : eval u (mend s f) = eval s (mend s f) := by
    unfold eval capN
    by_cases h : expo s (mend s f)
    · have he : eend s (mend s f) = dend s (sgn s (mend s f + 1)) := if_pos h
      have h3 := dend_dig h.2
      have h4 := dend_ge s (sgn s (mend s f + 1) + 1)
      have h5 := (sgn_ge s (mend s f + 1)).1
      have es : sgn u (mend s f + 1) = sgn s (mend s f + 1) := by unfold sgn; rw [G _ (by omega)]
      rw [if_pos h, if_pos (hK.2 h), hE, es, G _ (by omega), T _ hB]
    · rw [if_neg h, if_neg fun k => h (hK.1 k)]
  refine ⟨⟨by rw [hF, Nat.zero_add, hfe], ?_, ?_, ?_, ?_⟩, hN⟩
  · unfold nuOk
    rw [hF, hfe, hM]
  · unfold nuD mdigs
    rw [hF, hfe, hM, e1]
    by_cases h : pnt s f
    · rw [if_pos h, if_pos (hp.2 h), T _ (by omega), T _ (by omega)]
    · rw [if_neg h, if_neg fun k => h (hp.1 k), T _ (by omega)]
  · unfold nuX mplaces
    rw [hF, hfe, hM, hV, e1]
    by_cases h : pnt s f
    · have g : mend s f = dend s (dend s f + 1) := if_pos h
      rw [if_pos h, if_pos (hp.2 h), D _ (by omega)]
    · rw [if_neg h, if_neg fun k => h (hp.1 k)]
  · unfold nuE
    rw [hF, hfe, hM, hE, Nat.zero_add]
end Go.Proofs.YtbmhnjghpjkjpaaGreatDoor
set_option maxHeartbeats 4000000
set_option maxRecDepth 4000
set_option exponentiation.threshold 300000
set_option linter.unusedVariables false
set_option linter.unusedSimpArgs false
namespace Go.Proofs.YtbmhnjghpjkjpaaGreatDoor
open Go Go.PV

theorem Same.v {s u : List Int} {m : Nat} (h : Same s u m) (hn : nuN u = nuN s) : nuV u = nuV s := by
  unfold nuV
  rw [h.d, h.x, hn]
theorem same_bar (s t : List Int) : Same s (s ++ 124 :: t) 0 ∧ nuN (s ++ 124 :: t) = nuN s := by
  refine same_until (B := s.length) (z := 124) (fun k hk => List.take_append_of_le_length hk) ?_ (by decide) (by decide) (by decide) (nuE_le s) (.inr ?_)
  · rw [List.getD_eq_getElem?_getD, List.getElem?_append_right (Nat.le_refl _), Nat.sub_self]
    rfl
  · rw [List.getD_eq_getElem?_getD, List.getElem?_eq_none (Nat.le_refl _)]
    rfl
theorem same_blanks (s : List Int) : Same s (9 :: 32 :: 10 :: s) 3 ∧ nuN (9 :: 32 :: 10 :: s) = nuN s := by
  have hb : bend (9 :: 32 :: 10 :: s) 0 = 3 + bend s 0 := by
    unfold bend
    rw [run_step (i := 0) blB0 rfl, run_step (i := 0 + 1) blB0 rfl, run_step (i := 0 + 1 + 1) blB0 rfl]
    exact run_behind (p := [9, 32, 10]) (s := s) blB 0
  have hf : nuF ([9, 32, 10] ++ s) = ([9, 32, 10] : List Int).length + nuF s := by
    unfold nuF
    show sgn (9 :: 32 :: 10 :: s) (bend (9 :: 32 :: 10 :: s) 0) = _
    rw [hb]
    exact sgn_behind (p := [9, 32, 10]) (s := s) (bend s 0)
  refine ⟨same_behind hf, ?_⟩
  unfold nuN
  rw [hb, show (9 :: 32 :: 10 :: s).getD (3 + bend s 0) 0 = s.getD (bend s 0) 0 from getD_behind (p := [9, 32, 10]) (s := s) (bend s 0)]
theorem start_zero {s : List Int} (h1 : blB (s.getD 0 0) = false) (h2 : s.getD 0 0 ≠ 43) (h3 : s.getD 0 0 ≠ 45) : bend s 0 = 0 ∧ nuF s = 0 ∧ nuN s = false := by
  have hb : bend s 0 = 0 := run_stop h1
  refine ⟨hb, ?_, ?_⟩
  · unfold nuF sgn
    rw [hb, if_neg (by omega)]
  · unfold nuN
    rw [hb]
    exact decide_eq_false h3
theorem same_sign {s : List Int} {c : Int} (hc : c = 43 ∨ c = 45) (h1 : blB (s.getD 0 0) = false) (h2 : s.getD 0 0 ≠ 43) (h3 : s.getD 0 0 ≠ 45) : Same s (c :: s) 1 ∧ nuN (c :: s) = decide (c = 45) := by
  have hb : bend (c :: s) 0 = 0 := run_stop (by rcases hc with rfl | rfl <;> rfl)
  have hf : nuF ([c] ++ s) = ([c] : List Int).length + nuF s := by
    rw [(start_zero h1 h2 h3).2.1]
    unfold nuF
    show sgn (c :: s) (bend (c :: s) 0) = _
    rw [hb]
    exact if_pos hc
  refine ⟨same_behind hf, ?_⟩
  unfold nuN
  rw [hb]
  rfl
theorem same_cut {s : List Int} (h : nuOk s) : Same s (s.take (nuE s)) 0 ∧ nuN (s.take (nuE s)) = nuN s := by
  have hm := mend_ge s (nuF s)
  have hk := eend_ge s (mend s (nuF s))
  have hf := (sgn_ge s (bend s 0)).1
  refine same_until (B := nuE s) (z := 0) (fun k hk => by rw [List.take_take, Nat.min_eq_left hk]) ?_ (by decide) (by decide) (by decide) (Nat.le_refl _) (.inl ?_)
  · rw [List.getD_eq_getElem?_getD, List.getElem?_eq_none (by rw [List.length_take]; omega)]
    rfl
  · unfold nuOk at h
    unfold nuE
    unfold nuF at *
    omega

theorem framing_none (s t : List Int) (hsl : s.length ≤ 281474976710656) (htl : t.length ≤ 281474976710656) (h1 : Meets Tryz.prog 16 [.str s] (.tup [.int .u64 0, .int .i64 0])) (h2 : Meets Tryz.prog 16 [.str (s ++ 124 :: t)] (.tup [.int .u64 0, .int .i64 0])) (h3 : Meets Tryz.prog 16 [.str (9 :: 32 :: 10 :: s)] (.tup [.int .u64 0, .int .i64 0])) :
    Meets Tryz.prog 8 [.str s, .str t] (.bool true) := by
  have r0 := law10_awake _ rfl
  refine meets_by ttOk Tryz.func8 Tryz.ntmps8 Tryz.results8 (by kernel_rfl) (c := _) rfl rfl rfl fun E => ?_
  simp only [argsFrame]
  repeat' first
    | (with_reducible first | refine PW.seq ?_ | refine PW.block ?_ | refine PW.fork ?_ | refine PW.skip ?_ | refine PW.exit ?_ | refine PW.ret ?_ | refine PW.scope ?_ | refine PW.label ?_ | refine PW.goto ?_)
    | (with_reducible refine PW.region ttOk ?_ ?_
       · rfl)
    | (with_reducible refine PW.regionD ttOk mixed ?_ ?_ ?_
       · rfl
       · rfl)
    | (with_reducible refine ifW_dec (fun g => ?_) (fun g => ?_) <;> first | (exfalso; omega) | (simp -dsimp only [g, wkI]))
    | (with_reducible refine condE_dec (fun g => ?_) (fun g => ?_) <;> try (exfalso; omega))
    | (with_reducible refine condE_not (fun g => ?_) (fun g => ?_) <;> try (exfalso; omega))
    | (simp -dsimp only [↓wkA, ↓wkE, ↓wkJ, wkB, ↓tt, Nat.reduceBEq, Nat.reduceEqDiff, ↓reduceIte, Nat.reduceLT, Array.toList, Nat.reduceAdd, Nat.reduceMul, Int.reduceToNat, Int.reducePow, UInt8.reduceToNat])
    | (refine call_by (r0) (views_data rfl) trivial rfl ?_)
    | (refine call_by (h1) (views_data rfl) ⟨trivial, trivial⟩ rfl ?_)
    | (refine call_by (h2) (views_data rfl) ⟨trivial, trivial⟩ rfl ?_)
    | (refine call_by (h3) (views_data rfl) ⟨trivial, trivial⟩ rfl ?_)
    | (simp -dsimp (disch := first | assumption | omega) only [dec_t, dec_f])
    | (refine And.intro ?_ ?_
       · first | omega | decide | (simp (disch := omega) only [wkW, Int.reduceToNat, Int.reducePow] <;> omega) | (simp <;> omega))
    | (simp (disch := omega) only [wkW, Int.reduceToNat, Int.reducePow])
    | fail

theorem framing_walk (s t : List Int) (hsl : s.length ≤ 281474976710656) (htl : t.length ≤ 281474976710656) (V : Int) (e : Nat) (he : e ≠ 0) (hel : e ≤ s.length) (h1 : Meets Tryz.prog 16 [.str s] (.tup [.int .u64 V, .int .i64 (e : Int)])) (h2 : Meets Tryz.prog 16 [.str (s ++ 124 :: t)] (.tup [.int .u64 V, .int .i64 (e : Int)])) (h3 : Meets Tryz.prog 16 [.str (9 :: 32 :: 10 :: s)] (.tup [.int .u64 V, .int .i64 ((e : Int) + 3)]))
    (h : s.getD 0 0 = 46 ∨ isDig (s.getD 0 0) → 0 ≤ V ∧ V < 9223372036854775808 ∧ Meets Tryz.prog 16 [.str (45 :: s)] (.tup [.int .u64 (V + 9223372036854775808), .int .i64 ((e : Int) + 1)]) ∧ Meets Tryz.prog 16 [.str (43 :: s)] (.tup [.int .u64 V, .int .i64 ((e : Int) + 1)]) ∧ Meets Tryz.prog 16 [.str (s.take e)] (.tup [.int .u64 V, .int .i64 (e : Int)])) :
    Meets Tryz.prog 8 [.str s, .str t] (.bool true) := by
  have r0 := law10_awake _ rfl
  have d0 : decide ((e : Int) = 0) = false := decide_eq_false (by omega)
  have d1 : decide (V = V) = true := decide_eq_true rfl
  have d2 : decide ((e : Int) = (e : Int)) = true := decide_eq_true rfl
  have d3 : decide ((e : Int) + 3 = (e : Int) + 3) = true := decide_eq_true rfl
  have d4 : decide (0 < (e : Int)) = true := decide_eq_true (by omega)
  have d5 : decide ((e : Int) + 1 = (e : Int) + 1) = true := decide_eq_true rfl
  have w1 : IntKind.wrap .i64 ((e : Int) + 3) = (e : Int) + 3 := wrap_i64 (by omega)
  have w2 : IntKind.wrap .i64 ((e : Int) + 1) = (e : Int) + 1 := wrap_i64 (by omega)
  by_cases hc1 : s.getD 0 0 = 46
  · have c1 : decide (s.getD 0 0 = 46) = true := decide_eq_true hc1
    obtain ⟨h0, hV, g1, g2, g3⟩ := h (.inl hc1)
    have c4 : decide (V < 9223372036854775808) = true := decide_eq_true hV
    have w3 : IntKind.wrap .u64 (V + 9223372036854775808) = V + 9223372036854775808 := wrap_u64 (by omega)
    have d6 : decide (V + 9223372036854775808 = V + 9223372036854775808) = true := decide_eq_true rfl
    refine meets_by ttOk Tryz.func8 Tryz.ntmps8 Tryz.results8 (by kernel_rfl) (c := _) rfl rfl rfl fun E => ?_
    simp only [argsFrame]
    repeat' first
      | (with_reducible first | refine PW.seq ?_ | refine PW.block ?_ | refine PW.fork ?_ | refine PW.skip ?_ | refine PW.exit ?_ | refine PW.ret ?_ | refine PW.scope ?_ | refine PW.label ?_ | refine PW.goto ?_)
      | (simp only [c1, c4, d0, d1, d2, d3, d4, d5, d6, w1, w2, w3, Int.toNat_natCast, Int.toNat_zero])
      | (with_reducible refine PW.region ttOk ?_ ?_
         · rfl)
      | (with_reducible refine PW.regionD ttOk mixed ?_ ?_ ?_
         · rfl
         · rfl)
      | (with_reducible refine ifW_dec (fun g => ?_) (fun g => ?_) <;> first | (exfalso; omega) | (simp -dsimp only [g, wkI]))
      | (with_reducible refine condE_dec (fun g => ?_) (fun g => ?_) <;> try (exfalso; omega))
      | (with_reducible refine condE_not (fun g => ?_) (fun g => ?_) <;> try (exfalso; omega))
      | (simp -dsimp only [↓wkA, ↓wkE, ↓wkJ, wkB, ↓tt, Nat.reduceBEq, Nat.reduceEqDiff, ↓reduceIte, Nat.reduceLT, Array.toList, Nat.reduceAdd, Nat.reduceMul, Int.reduceToNat, Int.reducePow, UInt8.reduceToNat])
      | (refine call_by (r0) (views_data rfl) trivial rfl ?_)
      | (refine call_by (h1) (views_data rfl) ⟨trivial, trivial⟩ rfl ?_)
      | (refine call_by (h2) (views_data rfl) ⟨trivial, trivial⟩ rfl ?_)
      | (refine call_by (h3) (views_data rfl) ⟨trivial, trivial⟩ rfl ?_)
      | (refine call_by (g1) (views_data rfl) ⟨trivial, trivial⟩ rfl ?_)
      | (refine call_by (g2) (views_data rfl) ⟨trivial, trivial⟩ rfl ?_)
      | (refine call_by (g3) (views_data rfl) ⟨trivial, trivial⟩ rfl ?_)
      | (simp -dsimp (disch := first | assumption | omega) only [dec_t, dec_f])
      | (refine And.intro ?_ ?_
         · first | omega | decide | (simp (disch := omega) only [wkW, Int.reduceToNat, Int.reducePow] <;> omega) | (simp <;> omega))
      | (simp (disch := omega) only [wkW, Int.reduceToNat, Int.reducePow])
      | fail
    all_goals exact absurd trivial g
  · have c1 : decide (s.getD 0 0 = 46) = false := decide_eq_false hc1
    by_cases hc2 : s.getD 0 0 < 48
    · have c2 : decide (s.getD 0 0 < 48) = true := decide_eq_true hc2
      refine meets_by ttOk Tryz.func8 Tryz.ntmps8 Tryz.results8 (by kernel_rfl) (c := _) rfl rfl rfl fun E => ?_
      simp only [argsFrame]
      repeat' first
        | (with_reducible first | refine PW.seq ?_ | refine PW.block ?_ | refine PW.fork ?_ | refine PW.skip ?_ | refine PW.exit ?_ | refine PW.ret ?_ | refine PW.scope ?_ | refine PW.label ?_ | refine PW.goto ?_)
        | (simp only [c1, c2, d0, d1, d2, d3, d4, w1, Int.toNat_natCast, Int.toNat_zero])
        | (with_reducible refine PW.region ttOk ?_ ?_
           · rfl)
        | (with_reducible refine PW.regionD ttOk mixed ?_ ?_ ?_
           · rfl
           · rfl)
        | (with_reducible refine ifW_dec (fun g => ?_) (fun g => ?_) <;> first | (exfalso; omega) | (simp -dsimp only [g, wkI]))
        | (with_reducible refine condE_dec (fun g => ?_) (fun g => ?_) <;> try (exfalso; omega))
        | (with_reducible refine condE_not (fun g => ?_) (fun g => ?_) <;> try (exfalso; omega))
        | (simp -dsimp only [↓wkA, ↓wkE, ↓wkJ, wkB, ↓tt, Nat.reduceBEq, Nat.reduceEqDiff, ↓reduceIte, Nat.reduceLT, Array.toList, Nat.reduceAdd, Nat.reduceMul, Int.reduceToNat, Int.reducePow, UInt8.reduceToNat])
        | (refine call_by (r0) (views_data rfl) trivial rfl ?_)
        | (refine call_by (h1) (views_data rfl) ⟨trivial, trivial⟩ rfl ?_)
        | (refine call_by (h2) (views_data rfl) ⟨trivial, trivial⟩ rfl ?_)
        | (refine call_by (h3) (views_data rfl) ⟨trivial, trivial⟩ rfl ?_)
        | (simp -dsimp (disch := first | assumption | omega) only [dec_t, dec_f])
        | (refine And.intro ?_ ?_
           · first | omega | decide | (simp (disch := omega) only [wkW, Int.reduceToNat, Int.reducePow] <;> omega) | (simp <;> omega))
        | (simp (disch := omega) only [wkW, Int.reduceToNat, Int.reducePow])
        | fail
    · have c2 : decide (s.getD 0 0 < 48) = false := decide_eq_false hc2
      by_cases hc3 : 57 < s.getD 0 0
      · have c3 : decide (57 < s.getD 0 0) = true := decide_eq_true hc3
        refine meets_by ttOk Tryz.func8 Tryz.ntmps8 Tryz.results8 (by kernel_rfl) (c := _) rfl rfl rfl fun E => ?_
        simp only [argsFrame]
        repeat' first
          | (with_reducible first | refine PW.seq ?_ | refine PW.block ?_ | refine PW.fork ?_ | refine PW.skip ?_ | refine PW.exit ?_ | refine PW.ret ?_ | refine PW.scope ?_ | refine PW.label ?_ | refine PW.goto ?_)
          | (simp only [c1, c2, c3, d0, d1, d2, d3, d4, w1, Int.toNat_natCast, Int.toNat_zero])
          | (with_reducible refine PW.region ttOk ?_ ?_
             · rfl)
          | (with_reducible refine PW.regionD ttOk mixed ?_ ?_ ?_
             · rfl
             · rfl)
          | (with_reducible refine ifW_dec (fun g => ?_) (fun g => ?_) <;> first | (exfalso; omega) | (simp -dsimp only [g, wkI]))
          | (with_reducible refine condE_dec (fun g => ?_) (fun g => ?_) <;> try (exfalso; omega))
          | (with_reducible refine condE_not (fun g => ?_) (fun g => ?_) <;> try (exfalso; omega))
          | (simp -dsimp only [↓wkA, ↓wkE, ↓wkJ, wkB, ↓tt, Nat.reduceBEq, Nat.reduceEqDiff, ↓reduceIte, Nat.reduceLT, Array.toList, Nat.reduceAdd, Nat.reduceMul, Int.reduceToNat, Int.reducePow, UInt8.reduceToNat])
          | (refine call_by (r0) (views_data rfl) trivial rfl ?_)
          | (refine call_by (h1) (views_data rfl) ⟨trivial, trivial⟩ rfl ?_)
          | (refine call_by (h2) (views_data rfl) ⟨trivial, trivial⟩ rfl ?_)
          | (refine call_by (h3) (views_data rfl) ⟨trivial, trivial⟩ rfl ?_)
          | (simp -dsimp (disch := first | assumption | omega) only [dec_t, dec_f])
          | (refine And.intro ?_ ?_
             · first | omega | decide | (simp (disch := omega) only [wkW, Int.reduceToNat, Int.reducePow] <;> omega) | (simp <;> omega))
          | (simp (disch := omega) only [wkW, Int.reduceToNat, Int.reducePow])
          | fail
      · have c3 : decide (57 < s.getD 0 0) = false := decide_eq_false hc3
        obtain ⟨h0, hV, g1, g2, g3⟩ := h (.inr ⟨by omega, by omega⟩)
        have c4 : decide (V < 9223372036854775808) = true := decide_eq_true hV
        have w3 : IntKind.wrap .u64 (V + 9223372036854775808) = V + 9223372036854775808 := wrap_u64 (by omega)
        have d6 : decide (V + 9223372036854775808 = V + 9223372036854775808) = true := decide_eq_true rfl
        refine meets_by ttOk Tryz.func8 Tryz.ntmps8 Tryz.results8 (by kernel_rfl) (c := _) rfl rfl rfl fun E => ?_
        simp only [argsFrame]
        repeat' first
          | (with_reducible first | refine PW.seq ?_ | refine PW.block ?_ | refine PW.fork ?_ | refine PW.skip ?_ | refine PW.exit ?_ | refine PW.ret ?_ | refine PW.scope ?_ | refine PW.label ?_ | refine PW.goto ?_)
          | (simp only [c1, c2, c3, c4, d0, d1, d2, d3, d4, d5, d6, w1, w2, w3, Int.toNat_natCast, Int.toNat_zero])
          | (with_reducible refine PW.region ttOk ?_ ?_
             · rfl)
          | (with_reducible refine PW.regionD ttOk mixed ?_ ?_ ?_
             · rfl
             · rfl)
          | (with_reducible refine ifW_dec (fun g => ?_) (fun g => ?_) <;> first | (exfalso; omega) | (simp -dsimp only [g, wkI]))
          | (with_reducible refine condE_dec (fun g => ?_) (fun g => ?_) <;> try (exfalso; omega))
          | (with_reducible refine condE_not (fun g => ?_) (fun g => ?_) <;> try (exfalso; omega))
          | (simp -dsimp only [↓wkA, ↓wkE, ↓wkJ, wkB, ↓tt, Nat.reduceBEq, Nat.reduceEqDiff, ↓reduceIte, Nat.reduceLT, Array.toList, Nat.reduceAdd, Nat.reduceMul, Int.reduceToNat, Int.reducePow, UInt8.reduceToNat])
          | (refine call_by (r0) (views_data rfl) trivial rfl ?_)
          | (refine call_by (h1) (views_data rfl) ⟨trivial, trivial⟩ rfl ?_)
          | (refine call_by (h2) (views_data rfl) ⟨trivial, trivial⟩ rfl ?_)
          | (refine call_by (h3) (views_data rfl) ⟨trivial, trivial⟩ rfl ?_)
          | (refine call_by (g1) (views_data rfl) ⟨trivial, trivial⟩ rfl ?_)
          | (refine call_by (g2) (views_data rfl) ⟨trivial, trivial⟩ rfl ?_)
          | (refine call_by (g3) (views_data rfl) ⟨trivial, trivial⟩ rfl ?_)
          | (simp -dsimp (disch := first | assumption | omega) only [dec_t, dec_f])
          | (refine And.intro ?_ ?_
             · first | omega | decide | (simp (disch := omega) only [wkW, Int.reduceToNat, Int.reducePow] <;> omega) | (simp <;> omega))
          | (simp (disch := omega) only [wkW, Int.reduceToNat, Int.reducePow])
          | fail
        all_goals exact absurd trivial g

theorem strtod_framing (s t : List Int) (hsl : s.length ≤ 140737488351232) (htl : t.length ≤ 140737488351232) : Meets Tryz.prog 8 [.str s, .str t] (.bool true) := by
  obtain ⟨b1, b2⟩ := same_bar s t
  obtain ⟨k1, k2⟩ := same_blanks s
  have l1 : (s ++ 124 :: t).length ≤ 281474976710656 := by rw [List.length_append, List.length_cons]; omega
  have l2 : (9 :: 32 :: 10 :: s).length ≤ 281474976710656 := by simp only [List.length_cons]; omega
  by_cases h : nuOk s
  · have g1 := strtod_parse (b1.ok.2 h) l1
    rw [b1.v b2, b1.e, Nat.zero_add] at g1
    have g2 := strtod_parse (k1.ok.2 h) l2
    rw [k1.v k2, k1.e, show ((3 + nuE s : Nat) : Int) = (nuE s : Int) + 3 by omega] at g2
    refine framing_walk s t (by omega) (by omega) _ _ (Nat.ne_of_gt (nuE_pos h)) (nuE_le s) (strtod_parse h (by omega)) g1 g2 fun hc => ?_
    have hb : blB (s.getD 0 0) = false ∧ s.getD 0 0 ≠ 43 ∧ s.getD 0 0 ≠ 45 := by
      have hr : 46 ≤ s.getD 0 0 ∧ s.getD 0 0 ≤ 57 := by
        rcases hc with hc | hc
        · omega
        · have := hc.1; have := hc.2; omega
      refine ⟨?_, by omega, by omega⟩
      unfold blB
      rw [decide_eq_false (by omega), decide_eq_false (show ¬ s.getD 0 0 ≤ 13 by omega), Bool.and_false]
      rfl
    obtain ⟨z1, z2, z3⟩ := start_zero hb.1 hb.2.1 hb.2.2
    obtain ⟨m1, m2⟩ := same_sign (c := 45) (.inr rfl) hb.1 hb.2.1 hb.2.2
    obtain ⟨p1, p2⟩ := same_sign (c := 43) (.inl rfl) hb.1 hb.2.1 hb.2.2
    obtain ⟨c1, c2⟩ := same_cut h
    have g3 := strtod_parse (m1.ok.2 h) (by rw [List.length_cons]; omega)
    have g4 := strtod_parse (p1.ok.2 h) (by rw [List.length_cons]; omega)
    have g5 := strtod_parse (c1.ok.2 h) (by rw [List.length_take]; omega)
    rw [p1.v (p2.trans z3.symm), p1.e, show ((1 + nuE s : Nat) : Int) = (nuE s : Int) + 1 by omega] at g4
    rw [c1.v c2, c1.e, Nat.zero_add] at g5
    rw [m1.e, show ((1 + nuE s : Nat) : Int) = (nuE s : Int) + 1 by omega] at g3
    have hA : rdec (num 10 (nuD s)) (nuX s) ≤ 9218868437227405312 := rdec_le (num 10 (nuD s)) (nuX s)
    have e1 : nuV s = rdec (num 10 (nuD s)) (nuX s) := by unfold nuV dblV; rw [z3, signed_f]
    have e2 : nuV (45 :: s) = rdec (num 10 (nuD s)) (nuX s) + 9223372036854775808 := by unfold nuV dblV; rw [m1.d, m1.x, m2, show decide ((45 : Int) = 45) = true from rfl, signed_t]
    rw [e2] at g3
    rw [e1] at g4 g5 ⊢
    exact ⟨by omega, by omega, g3, g4, g5⟩
  · have g1 := strtod_parse_no (fun k => h (b1.ok.1 k)) l1
    have g2 := strtod_parse_no (fun k => h (k1.ok.1 k)) l2
    exact framing_none s t (by omega) (by omega) (strtod_parse_no h (by omega)) g1 g2
end Go.Proofs.YtbmhnjghpjkjpaaGreatDoor

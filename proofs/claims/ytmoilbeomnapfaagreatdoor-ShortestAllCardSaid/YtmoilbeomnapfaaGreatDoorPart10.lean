/- Contracts and laws that the row leans on, part 10: texts that were built one by one, laid together. -/
import Derived.Test.YtmoilbeomnapfaaGreatDoorPart4
import Derived.Test.YtmoilbeomnapfaaGreatDoorPart8
import Derived.Test.YtmoilbeomnapfaaGreatDoorPart9
import Derived.Test.YtmoilbeomnapfaaGreatDoorPart7
set_option maxHeartbeats 4000000
set_option maxRecDepth 4000
set_option exponentiation.threshold 300000
set_option linter.unusedVariables false
set_option linter.unusedSimpArgs false
namespace Go.Proofs.YtmoilbeomnapfaaGreatDoor
open Go Go.PV
def lexI : List Int → List Int → Int
  | [], [] => 0
  | [], _ :: _ => -1
  | _ :: _, [] => 1
  | a :: s, b :: t => if a < b then -1 else if b < a then 1 else lexI s t
theorem lexI_bytes : ∀ (l m : List UInt8), lexI (l.map fun b => (b.toNat : Int)) (m.map fun b => (b.toNat : Int)) = Lib.compareBytes l m
  | [], [] => rfl
  | [], _ :: _ => rfl
  | _ :: _, [] => rfl
  | a :: l, b :: m => by
    simp only [List.map_cons, lexI, Lib.compareBytes]
    have e1 : ((a.toNat : Int) < (b.toNat : Int)) ↔ a < b := by rw [Int.ofNat_lt]; exact Iff.rfl
    have e2 : ((b.toNat : Int) < (a.toNat : Int)) ↔ b < a := by rw [Int.ofNat_lt]; exact Iff.rfl
    rw [lexI_bytes l m]
    simp only [e1, e2]
theorem str_compare (s t : List Int) : Meets Tryz.prog 105 [.str s, .str t] (.int .i64 (lexI s t)) := by
  refine meets_lib1 Tryz.func105 (by kernel_rfl) (c := _) rfl fun w A vs hl ha => ?_
  have hs : vs.size = 2 := by simpa using hl.symm
  obtain ⟨u, v, rfl⟩ : ∃ u v, vs = #[u, v] := ⟨vs[0], vs[1], Array.ext (by simp [hs]) fun i h1 h2 => by
    match i, h1 with
    | 0, _ => rfl
    | 1, _ => rfl
    | i + 2, h1 => omega⟩
  have h1 : RD w A (.str s) u := by simpa using ha 0 (by simp)
  have h2 : RD w A (.str t) v := by simpa using ha 1 (by simp)
  cases h1 with
  | str b _ h =>
    cases h2 with
    | str c _ g =>
      refine ⟨.int .i64 (lexI s t), fun w' A => .int _ _, (Tryz.strings_Compare b c w).mono ?_⟩
      rintro e w' ⟨rfl, rfl⟩
      refine ⟨?_, Go.RowKit.Below.refl _ _⟩
      rw [← h, ← g]
      unfold bytesI
      rw [lexI_bytes]
def sizeV (s : List Int) (x : Int) (t : List Int) (y : Int) : Int :=
  if s = [48] then (if t = [48] then 0 else -1) else if t = [48] then 1 else if x + s.length < y + t.length then -1 else if y + t.length < x + s.length then 1 else lexI s t
theorem size_walk (n1 n2 : Bool) (s t : List Int) (x y r : Int) (hls : s.length ≤ 281474976710656) (hlt : t.length ≤ 281474976710656) (hx : InR x) (hy : InR y)
    (h : (s = [48] ∧ t = [48] ∧ r = 0) ∨ (s = [48] ∧ t ≠ [48] ∧ r = -1) ∨ (s ≠ [48] ∧ t = [48] ∧ r = 1) ∨ (s ≠ [48] ∧ t ≠ [48] ∧ x + s.length < y + t.length ∧ r = -1) ∨ (s ≠ [48] ∧ t ≠ [48] ∧ y + t.length < x + s.length ∧ r = 1) ∨ (s ≠ [48] ∧ t ≠ [48] ∧ y + t.length = x + s.length ∧ r = lexI s t)) :
    Meets Tryz.prog 64 [.agg [.bool n1, .str s, .int .i64 x], .agg [.bool n2, .str t, .int .i64 y]] (.int .i64 r) := by
  have hc := str_compare s t
  have hx := hx
  unfold InR at hx hy
  have w1 : IntKind.wrap .i64 (x + (s.length : Int)) = x + s.length := wrap_i64 (by omega)
  have w2 : IntKind.wrap .i64 (y + (t.length : Int)) = y + t.length := wrap_i64 (by omega)
  generalize hr : lexI s t = lx at *
  rcases h with ⟨h1, h2, rfl⟩ | ⟨h1, h2, rfl⟩ | ⟨h1, h2, rfl⟩ | ⟨h1, h2, h3, rfl⟩ | ⟨h1, h2, h3, rfl⟩ | ⟨h1, h2, h3, rfl⟩
  all_goals first
    | (have d1 : decide (s = [48]) = true := decide_eq_true h1)
    | (have d1 : decide (s = [48]) = false := decide_eq_false h1)
  all_goals first
    | (have d2 : decide (t = [48]) = true := decide_eq_true h2)
    | (have d2 : decide (t = [48]) = false := decide_eq_false h2)
  all_goals first
    | (have d3 : decide (x + (s.length : Int) = y + t.length) = true := decide_eq_true (by omega))
    | (have d3 : decide (x + (s.length : Int) = y + t.length) = false := decide_eq_false (by omega))
    | (have d3 := True.intro)
  all_goals first
    | (have d4 : decide (x + (s.length : Int) < y + t.length) = true := decide_eq_true (by omega))
    | (have d4 : decide (x + (s.length : Int) < y + t.length) = false := decide_eq_false (by omega))
    | (have d4 := True.intro)
  all_goals (refine meets_by ttOk Tryz.func64 Tryz.ntmps64 Tryz.results64 (by kernel_rfl) (c := _) rfl rfl rfl fun E => ?_; simp only [argsFrame])
  all_goals
    have W := cj d1 (cj d2 (cj d3 (cj d4 (cj w1 w2))))
    exact walk
theorem scan_size (n1 n2 : Bool) (s t : List Int) (x y : Int) (hls : s.length ≤ 281474976710656) (hlt : t.length ≤ 281474976710656) (hx : InR x) (hy : InR y) :
    Meets Tryz.prog 64 [.agg [.bool n1, .str s, .int .i64 x], .agg [.bool n2, .str t, .int .i64 y]] (.int .i64 (sizeV s x t y)) := by
  refine size_walk n1 n2 s t x y _ hls hlt hx hy ?_
  unfold sizeV
  by_cases h1 : s = [48]
  · by_cases h2 : t = [48]
    · exact .inl ⟨h1, h2, by rw [if_pos h1, if_pos h2]⟩
    · exact .inr (.inl ⟨h1, h2, by rw [if_pos h1, if_neg h2]⟩)
  · rw [if_neg h1]
    by_cases h2 : t = [48]
    · exact .inr (.inr (.inl ⟨h1, h2, if_pos h2⟩))
    · rw [if_neg h2]
      by_cases h3 : x + s.length < y + t.length
      · exact .inr (.inr (.inr (.inl ⟨h1, h2, h3, if_pos h3⟩)))
      · rw [if_neg h3]
        by_cases h4 : y + t.length < x + s.length
        · exact .inr (.inr (.inr (.inr (.inl ⟨h1, h2, h4, if_pos h4⟩))))
        · exact .inr (.inr (.inr (.inr (.inr ⟨h1, h2, by omega, if_neg h4⟩))))
theorem cmp_walk (n1 n2 : Bool) (a b s t : List Int) (x y u v c r : Int) (hc : IntKind.wrap .i64 (0 - c) = 0 - c) (h1 : Meets Tryz.prog 29 [.agg [.bool n1, .str a, .int .i64 x]] (.tup [.agg [.bool n1, .str s, .int .i64 u], .int .i64 0]))
    (h2 : Meets Tryz.prog 29 [.agg [.bool n2, .str b, .int .i64 y]] (.tup [.agg [.bool n2, .str t, .int .i64 v], .int .i64 0])) (h3 : Meets Tryz.prog 64 [.agg [.bool n1, .str s, .int .i64 u], .agg [.bool n2, .str t, .int .i64 v]] (.int .i64 c))
    (h : (s = [48] ∧ t = [48] ∧ r = 0) ∨ (s = [48] ∧ t ≠ [48] ∧ n2 = false ∧ r = c) ∨ (s = [48] ∧ t ≠ [48] ∧ n1 = false ∧ n2 = true ∧ r = 1) ∨ (s = [48] ∧ t ≠ [48] ∧ n1 = true ∧ n2 = true ∧ r = 0 - c) ∨ (s ≠ [48] ∧ t = [48] ∧ n1 = false ∧ r = c) ∨ (s ≠ [48] ∧ t = [48] ∧ n1 = true ∧ n2 = false ∧ r = -1) ∨ (s ≠ [48] ∧ t = [48] ∧ n1 = true ∧ n2 = true ∧ r = 0 - c) ∨
      (s ≠ [48] ∧ t ≠ [48] ∧ n1 = true ∧ n2 = true ∧ r = 0 - c) ∨ (s ≠ [48] ∧ t ≠ [48] ∧ n1 = true ∧ n2 = false ∧ r = -1) ∨ (s ≠ [48] ∧ t ≠ [48] ∧ n1 = false ∧ n2 = true ∧ r = 1) ∨ (s ≠ [48] ∧ t ≠ [48] ∧ n1 = false ∧ n2 = false ∧ r = c)) :
    Meets Tryz.prog 30 [.agg [.bool n1, .str a, .int .i64 x], .agg [.bool n2, .str b, .int .i64 y]] (.tup [.int .i64 r, .int .i64 0]) := by
  rcases h with ⟨e1, e2, rfl⟩ | ⟨e1, e2, rfl, rfl⟩ | ⟨e1, e2, rfl, rfl, rfl⟩ | ⟨e1, e2, rfl, rfl, rfl⟩ | ⟨e1, e2, rfl, rfl⟩ | ⟨e1, e2, rfl, rfl, rfl⟩ | ⟨e1, e2, rfl, rfl, rfl⟩ | ⟨e1, e2, rfl, rfl, rfl⟩ | ⟨e1, e2, rfl, rfl, rfl⟩ | ⟨e1, e2, rfl, rfl, rfl⟩ | ⟨e1, e2, rfl, rfl, rfl⟩
  case' inr.inl => cases n1
  case' inr.inr.inr.inr.inl => cases n2
  all_goals first
    | (have d1 : decide (s = [48]) = true := decide_eq_true e1)
    | (have d1 : decide (s = [48]) = false := decide_eq_false e1)
  all_goals first
    | (have d2 : decide (t = [48]) = true := decide_eq_true e2)
    | (have d2 : decide (t = [48]) = false := decide_eq_false e2)
  all_goals (refine meets_by ttOk Tryz.func30 Tryz.ntmps30 Tryz.results30 (by kernel_rfl) (c := _) rfl rfl rfl fun E => ?_; simp only [argsFrame])
  all_goals
    have W := cj d1 (cj d2 hc)
    exact walk
structure NormF (s : List Int) (x : Int) : Prop where
  all : AllD s
  ne : s ≠ []
  zero : s = [48] → x = 0
  ends : s ≠ [48] → s.getD 0 0 ≠ 48 ∧ s.getD (s.length - 1) 0 ≠ 48
theorem nf_digs {s : List Int} (h : AllD s) : ∀ x ∈ s, 48 ≤ x ∧ x ≤ 57 := fun x hx => by
  obtain ⟨i, hi, rfl⟩ := List.getElem_of_mem hx
  have := h i hi
  rwa [List.getD_eq_getElem?_getD, List.getElem?_eq_getElem hi] at this
theorem nf_all {s : List Int} (h : ∀ x ∈ s, 48 ≤ x ∧ x ≤ 57) : AllD s := fun i hi => by
  rw [List.getD_eq_getElem?_getD, List.getElem?_eq_getElem hi]
  exact h _ (List.getElem_mem hi)
theorem headL_sub (c : Int) : ∀ l : List Int, ∀ x ∈ headL c l, x ∈ l
  | [], x, h => h
  | y :: r, x, h => by
    rw [headL] at h
    split at h
    · exact List.mem_cons_of_mem _ (headL_sub c r x h)
    · exact h
theorem headL_ne : ∀ l : List Int, headL 48 l ≠ [] → (headL 48 l).getD 0 0 ≠ 48
  | [], h => absurd rfl h
  | x :: r, h => by
    rw [headL] at h ⊢
    split
    · rename_i e
      rw [if_pos e] at h
      exact headL_ne r h
    · rename_i e
      exact e
theorem norm_form {s : List Int} (x : Int) (h : AllD s) : NormF (normS s) (normX s x) := by
  have hd := nf_digs h
  unfold normS normX
  have hg : ∀ y ∈ headL 48 s, 48 ≤ y ∧ y ≤ 57 := fun y hy => hd y (headL_sub 48 s y hy)
  have hn := headL_ne s
  generalize headL 48 s = t at *
  by_cases ht : t = []
  · rw [if_pos ht, if_pos ht]
    exact ⟨fun i hi => by
      match i, hi with
      | 0, _ => decide
      | i + 1, h => simp at h, by decide, fun _ => rfl, fun h => absurd rfl h⟩
  · rw [if_neg ht, if_neg ht]
    have h0 := hn ht
    have hp := List.length_pos_iff.2 ht
    have hz : endN t 48 t.length ≠ 0 := fun e => h0 ((endN_zero _).1 e 0 hp)
    have h4 := endN_le t 48 t.length
    have h5 := endN_last t.length hz
    have hlen : (t.take (endN t 48 t.length)).length = endN t 48 t.length := by rw [List.length_take]; omega
    have hg0 : (t.take (endN t 48 t.length)).getD 0 0 ≠ 48 := by rw [getD_take' (by omega)]; exact h0
    exact ⟨nf_all fun y hy => hg y (List.mem_of_mem_take hy), fun e => by rw [e] at hlen; simp at hlen; omega, fun e => absurd (by rw [e]; rfl) hg0, fun _ => ⟨hg0, by rw [hlen, getD_take' (by omega)]; exact h5⟩⟩
theorem norm_self {s : List Int} {x : Int} (h : NormF s x) : normS s = s ∧ normX s x = x := by
  by_cases e : s = [48]
  · subst e
    exact ⟨rfl, (h.zero rfl).symm⟩
  · obtain ⟨h0, h1⟩ := h.ends e
    have hh : headL 48 s = s := by
      cases s with
      | nil => rfl
      | cons y r => rw [headL, if_neg (show ¬ y = 48 from h0)]
    have hp := List.length_pos_iff.2 h.ne
    have hE : endN s 48 s.length = s.length := by
      obtain ⟨n, hn⟩ : ∃ n, s.length = n + 1 := ⟨s.length - 1, by omega⟩
      rw [hn] at h1 ⊢
      rw [Nat.add_sub_cancel] at h1
      rw [endN, if_neg h1]
    unfold normS normX
    rw [hh, if_neg h.ne, if_neg h.ne, hE, List.take_length]
    exact ⟨rfl, by omega⟩
theorem norm_ok {s : List Int} {x : Int} (h : NormF s x) (hx : InR x) : NormOk s x := ⟨h.ne, hx, h.all, by rw [(norm_self h).2]; exact hx.2⟩
theorem norm_len' {s : List Int} (hs : s ≠ []) : (normS s).length ≤ s.length := by
  have hl := headL_le 48 s
  have hp := List.length_pos_iff.2 hs
  unfold normS
  split
  · exact hp
  · rw [List.length_take]
    omega
theorem normX_low {s : List Int} {x : Int} (h : InR x) : -1152921504606846976 ≤ normX s x := by
  have h4 := endN_le (headL 48 s) 48 (headL 48 s).length
  have := h.1
  unfold normX
  split <;> omega
theorem norm_inR {s : List Int} {x : Int} (h : NormOk s x) : InR (normX s x) := ⟨normX_low h.2.1, h.2.2.2⟩
abbrev decP (n : Bool) (s : List Int) (x : Int) : PV := .agg [.bool n, .str s, .int .i64 x]
def pdI (s : List Int) (i : Int) : Int := if i < 0 ∨ (s.length : Int) ≤ i then 48 else s.getD i.toNat 0
def pd (s : List Int) (i : Nat) : Int := if s.length ≤ i then 48 else s.getD i 0
theorem pd_nat (s : List Int) {z : Int} (i : Nat) (h : z = i) : pdI s z = pd s i := by
  subst h
  unfold pdI pd
  by_cases h : s.length ≤ i
  · rw [if_pos h, if_pos (.inr (by omega))]
  · rw [if_neg h, if_neg (by omega), Int.toNat_natCast]
theorem lex_pad {s t : List Int} (hs : AllD s) (ht : AllD t) (ls : s.getD (s.length - 1) 0 ≠ 48) (lt : t.getD (t.length - 1) 0 ≠ 48) (i : Nat) (hi : i < s.length ∨ i < t.length) :
    (pd s i = pd t i → lexI (s.drop (i + 1)) (t.drop (i + 1)) = lexI (s.drop i) (t.drop i)) ∧ (pd s i < pd t i → lexI (s.drop i) (t.drop i) = -1) ∧ (¬ pd s i = pd t i → ¬ pd s i < pd t i → lexI (s.drop i) (t.drop i) = 1) := by
  unfold pd
  by_cases h1 : s.length ≤ i
  · have h2 : i < t.length := by omega
    have n2 : ¬ t.length ≤ i := by omega
    rw [if_pos h1, if_neg n2, List.drop_of_length_le h1, List.drop_of_length_le (show s.length ≤ i + 1 by omega), drop_headD t h2]
    have := ht i h2
    unfold isDig at this
    refine ⟨fun e => ?_, fun _ => rfl, fun _ _ => by omega⟩
    have : i + 1 < t.length := by
      rcases Nat.lt_or_ge (i + 1) t.length with h | h
      · exact h
      · exact absurd (show t.getD (t.length - 1) 0 = 48 by rw [show t.length - 1 = i by omega]; exact e.symm) lt
    rw [drop_headD t this]
    rfl
  · have g1 : i < s.length := by omega
    by_cases h2 : t.length ≤ i
    · rw [if_neg h1, if_pos h2, List.drop_of_length_le h2, List.drop_of_length_le (show t.length ≤ i + 1 by omega), drop_headD s g1]
      have := hs i g1
      unfold isDig at this
      refine ⟨fun e => ?_, fun _ => by omega, fun _ _ => rfl⟩
      have : i + 1 < s.length := by
        rcases Nat.lt_or_ge (i + 1) s.length with h | h
        · exact h
        · exact absurd (show s.getD (s.length - 1) 0 = 48 by rw [show s.length - 1 = i by omega]; exact e) ls
      rw [drop_headD s this]
      rfl
    · have g2 : i < t.length := by omega
      rw [if_neg h1, if_neg h2, drop_headD s g1, drop_headD t g2]
      simp only [lexI]
      refine ⟨fun e => ?_, fun e => if_pos e, fun e g => ?_⟩
      · rw [if_neg (show ¬ s.getD i 0 < t.getD i 0 by omega), if_neg (show ¬ t.getD i 0 < s.getD i 0 by omega)]
      · rw [if_neg g, if_pos (show t.getD i 0 < s.getD i 0 by omega)]
theorem ref08_digit (n : Bool) (s : List Int) (x p : Int) (hsl : s.length ≤ 281474976710656) (hx : InR x) (hp : -2305843009213693952 ≤ p ∧ p ≤ 2305843009213693952) : Meets Tryz.prog 118 [decP n s x, .int .i64 p] (.int .u8 (pdI s (x + s.length - 1 - p))) := by
  obtain ⟨hx1, hx2⟩ := hx
  have w1 : IntKind.wrap .i64 (x + (s.length : Int)) = x + s.length := wrap_i64 (by omega)
  have w2 : IntKind.wrap .i64 (x + (s.length : Int) - 1) = x + s.length - 1 := wrap_i64 (by omega)
  obtain ⟨z, hz⟩ : ∃ z, x + (s.length : Int) - 1 - p = z := ⟨_, rfl⟩
  have w3 : IntKind.wrap .i64 (x + (s.length : Int) - 1 - p) = z := by rw [wrap_i64 (by omega)]; exact hz
  rw [hz]
  have hc : (decide (z < 0) = true ∧ decide (z < 0) = true ∧ pdI s z = 48) ∨ (decide (z < 0) = false ∧ decide ((s.length : Int) ≤ z) = true ∧ pdI s z = 48) ∨ (decide (z < 0) = false ∧ decide ((s.length : Int) ≤ z) = false ∧ pdI s z = s.getD z.toNat 0 ∧ 0 ≤ z ∧ z < (s.length : Int)) := by
    unfold pdI
    by_cases h1 : z < 0
    · exact .inl ⟨decide_eq_true h1, decide_eq_true h1, if_pos (.inl h1)⟩
    · by_cases h2 : (s.length : Int) ≤ z
      · exact .inr (.inl ⟨decide_eq_false h1, decide_eq_true h2, if_pos (.inr h2)⟩)
      · exact .inr (.inr ⟨decide_eq_false h1, decide_eq_false h2, if_neg (fun h => h.elim h1 h2), by omega, by omega⟩)
  rcases hc with ⟨d1, d2, e⟩ | ⟨d1, d2, e⟩ | ⟨d1, d2, e, c1, c2⟩
  all_goals rw [e]
  all_goals (refine meets_by ttOk Tryz.func118 Tryz.ntmps118 Tryz.results118 (by kernel_rfl) (c := _) rfl rfl rfl fun E => ?_; simp only [argsFrame])
  all_goals
    have W := cj d1 (cj d2 (cj w1 (cj w2 w3)))
    exact walk
abbrev szF (p h : Int) : PV.Frame := [(6, .int .i64 p), (5, .int .i64 h), (4, .int .i64 0), (3, .ptr 1 0 0), (2, .ptr 0 0 0)]
abbrev szH (n1 : Bool) (s : List Int) (x : Int) (n2 : Bool) (t : List Int) (y : Int) : PV.Heap := ⟨2, [(0, .var [.bool n1, .str s, .int .i64 x]), (1, .var [.bool n2, .str t, .int .i64 y])], [], [(1, 31), (0, 31)]⟩
theorem ref08_size_early (n1 n2 : Bool) (s t : List Int) (x y r : Int) (hls : s.length ≤ 281474976710656) (hlt : t.length ≤ 281474976710656) (hx : InR x) (hy : InR y)
    (h : (s = [48] ∧ t = [48] ∧ r = 0) ∨ (s = [48] ∧ t ≠ [48] ∧ r = -1) ∨ (s ≠ [48] ∧ t = [48] ∧ r = 1) ∨ (s ≠ [48] ∧ t ≠ [48] ∧ x + s.length < y + t.length ∧ r = -1) ∨ (s ≠ [48] ∧ t ≠ [48] ∧ y + t.length < x + s.length ∧ r = 1)) :
    Meets Tryz.prog 83 [.agg [.bool n1, .str s, .int .i64 x], .agg [.bool n2, .str t, .int .i64 y]] (.int .i64 r) := by
  unfold InR at hx hy
  have w1 : IntKind.wrap .i64 (x + (s.length : Int)) = x + s.length := wrap_i64 (by omega)
  have w2 : IntKind.wrap .i64 (y + (t.length : Int)) = y + t.length := wrap_i64 (by omega)
  rcases h with ⟨h1, h2, rfl⟩ | ⟨h1, h2, rfl⟩ | ⟨h1, h2, rfl⟩ | ⟨h1, h2, h3, rfl⟩ | ⟨h1, h2, h3, rfl⟩
  case' inl =>
    have d0 : decide (s = t) = true := decide_eq_true (by rw [h1, h2])
  case' inr.inl =>
    have d0 : decide (s = t) = false := decide_eq_false fun e => h2 (by rw [← e, h1])
  case' inr.inr.inl =>
    have d0 : decide (s = t) = false := decide_eq_false fun e => h1 (by rw [e, h2])
  case' inr.inr.inr.inl => have d0 := True.intro
  case' inr.inr.inr.inr => have d0 := True.intro
  all_goals first
    | (have d1 : decide (s = [48]) = true := decide_eq_true h1)
    | (have d1 : decide (s = [48]) = false := decide_eq_false h1)
  all_goals first
    | (have d2 : decide (t = [48]) = true := decide_eq_true h2)
    | (have d2 : decide (t = [48]) = false := decide_eq_false h2)
  all_goals first
    | (have d3 : decide (y + (t.length : Int) = x + s.length) = false := decide_eq_false (by omega))
    | (have d3 := True.intro)
  all_goals first
    | (have d4 : decide (x + (s.length : Int) < y + t.length) = true := decide_eq_true (by omega))
    | (have d4 : decide (x + (s.length : Int) < y + t.length) = false := decide_eq_false (by omega))
    | (have d4 := True.intro)
  all_goals (refine meets_by ttOk Tryz.func83 Tryz.ntmps83 Tryz.results83 (by kernel_rfl) (c := _) rfl rfl rfl fun E => ?_; simp only [argsFrame])
  all_goals
    have W := cj d0 (cj d1 (cj d2 (cj d3 (cj d4 (cj w1 w2)))))
    exact walk
theorem ref08_size_walk (n1 n2 : Bool) (s t : List Int) (x y : Int) (hls : s.length ≤ 281474976710656) (hlt : t.length ≤ 281474976710656) (hx : InR x) (hy : InR y) (hs : AllD s) (ht : AllD t) (ls : s.getD (s.length - 1) 0 ≠ 48) (lt : t.getD (t.length - 1) 0 ≠ 48)
    (h1 : s ≠ [48]) (h2 : t ≠ [48]) (he : y + t.length = x + s.length) :
    Meets Tryz.prog 83 [.agg [.bool n1, .str s, .int .i64 x], .agg [.bool n2, .str t, .int .i64 y]] (.int .i64 (lexI s t)) := by
  have hx' := hx
  have hy' := hy
  unfold InR at hx' hy'
  obtain ⟨z, hz⟩ : ∃ z : Int, x + (s.length : Int) = z := ⟨_, rfl⟩
  have w1 : IntKind.wrap .i64 (x + (s.length : Int)) = z := by rw [wrap_i64 (by omega)]; exact hz
  have w2 : IntKind.wrap .i64 (y + (t.length : Int)) = z := by rw [wrap_i64 (by omega), he]; exact hz
  have w3 : IntKind.wrap .i64 (z - 1) = z - 1 := wrap_i64 (by omega)
  have d1 : decide (s = [48]) = false := decide_eq_false h1
  have d2 : decide (t = [48]) = false := decide_eq_false h2
  have dz : decide (z = z) = true := decide_eq_true rfl
  have hg1 := fun (i : Nat) (h : i < s.length ∨ i < t.length) => ref08_digit n1 s x (z - 1 - i) hls hx (by omega)
  have hg2 := fun (i : Nat) (h : i < s.length ∨ i < t.length) => ref08_digit n2 t y (z - 1 - i) hlt hy (by omega)
  have hpad := lex_pad hs ht ls lt
  have hend : ∀ i, s.length ≤ i → t.length ≤ i → lexI (s.drop i) (t.drop i) = 0 := fun i a b => by rw [List.drop_of_length_le a, List.drop_of_length_le b]; rfl
  obtain ⟨r, hr⟩ : ∃ r, lexI s t = r := ⟨_, rfl⟩
  have h0 : lexI (s.drop 0) (t.drop 0) = r := hr
  rw [hr]
  clear hr
  refine meets_by ttOk Tryz.func83 Tryz.ntmps83 Tryz.results83 (by kernel_rfl) (c := _) rfl rfl rfl fun E => ?_
  simp only [argsFrame]
  have W := cj d1 (cj d2 (cj w1 (cj w2 (cj w3 dz))))
  refine walk1 ?_
  refine PW.loopA (fun m F H => ∃ i : Nat, i + m = max s.length t.length ∧ lexI (s.drop i) (t.drop i) = r ∧ F = szF (z - 1 - i) z ∧ H = szH n1 s x n2 t y) (max s.length t.length) (szF (z - 1 - ((0 : Nat) : Int)) z) (szH n1 s x n2 t y) (Sub.norm ⟨by rw [show z - 1 - ((0 : Nat) : Int) = z - 1 by omega]; rfl, rfl, rfl, rfl, rfl, trivial⟩ ⟨rfl, rfl, trivial⟩ (Nat.le_refl _) rfl rfl rfl rfl (tyOk_spec rfl)) ⟨0, by omega, h0, rfl, rfl⟩ ?_
  clear h0
  rintro m F H ⟨i, hi, hR, rfl, rfl⟩
  cases m with
  | zero =>
    rw [hend i (by omega) (by omega)] at hR
    subst hR
    have d3 : decide (x ≤ z - 1 - (i : Int)) = false := decide_eq_false (by omega)
    have d4 : decide (y ≤ z - 1 - (i : Int)) = false := decide_eq_false (by omega)
    clear hg1 hg2 hpad hend
    repeat' first
      | (with_reducible first | refine PW.seq ?_ | refine PW.block ?_ | refine PW.fork ?_ | refine PW.skip ?_ | refine PW.exit ?_ | refine PW.ret ?_ | refine PW.scope ?_ | refine PW.label ?_ | refine PW.goto ?_)
      | (simp only [d3, d4])
      | (with_reducible refine PW.region ttOk ?_ ?_
         · rfl)
      | (with_reducible refine PW.regionD ttOk mixed ?_ ?_ ?_
         · rfl
         · rfl)
      | (with_reducible refine ifW_dec (fun g => ?_) (fun g => ?_) <;> first | (exfalso; omega) | (simp -dsimp only [g, wkI]))
      | (with_reducible refine condE_dec (fun g => ?_) (fun g => ?_) <;> try (exfalso; omega))
      | (with_reducible refine condE_not (fun g => ?_) (fun g => ?_) <;> try (exfalso; omega))
      | (simp -dsimp only [↓wkA, ↓wkE, ↓wkJ, wkB, ↓tt, Nat.reduceBEq, Nat.reduceEqDiff, ↓reduceIte, Nat.reduceLT, Array.toList, Nat.reduceAdd, Nat.reduceMul, Int.reduceToNat, Int.reducePow, UInt8.reduceToNat])
      | (simp -dsimp (disch := first | assumption | omega) only [dec_t, dec_f])
      | (refine andI ?_)
      | (simp (disch := omega) only [wkW, Int.reduceToNat, Int.reducePow])
      | fail
  | succ m =>
    have hin : i < s.length ∨ i < t.length := by omega
    have h3 := hg1 i hin
    have h4 := hg2 i hin
    rw [pd_nat s i (by omega)] at h3
    rw [pd_nat t i (by omega)] at h4
    obtain ⟨L1, L2, L3⟩ := hpad i hin
    have hor : (decide (x ≤ z - 1 - (i : Int)) = true ∧ decide (x ≤ z - 1 - (i : Int)) = true) ∨ (decide (x ≤ z - 1 - (i : Int)) = false ∧ decide (y ≤ z - 1 - (i : Int)) = true) := by
      by_cases h : x ≤ z - 1 - (i : Int)
      · exact .inl ⟨decide_eq_true h, decide_eq_true h⟩
      · exact .inr ⟨decide_eq_false h, decide_eq_true (by omega)⟩
    have w4 : IntKind.wrap .i64 (z - 1 - (i : Int) - 1) = z - 1 - ((i + 1 : Nat) : Int) := by rw [wrap_i64 (by omega)]; omega
    clear hg1 hg2 hpad hend w1 w2 w3
    generalize pd s i = a at *
    generalize pd t i = b at *
    have hcs : (decide (a = b) = true ∧ decide (a = b) = true ∧ lexI (s.drop (i + 1)) (t.drop (i + 1)) = r) ∨ (decide (a = b) = false ∧ decide (a < b) = true ∧ r = -1) ∨ (decide (a = b) = false ∧ decide (a < b) = false ∧ r = 1) := by
      by_cases e : a = b
      · exact .inl ⟨decide_eq_true e, decide_eq_true e, by rw [L1 e, hR]⟩
      · by_cases g : a < b
        · exact .inr (.inl ⟨decide_eq_false e, decide_eq_true g, by rw [← hR, L2 g]⟩)
        · exact .inr (.inr ⟨decide_eq_false e, decide_eq_false g, by rw [← hR, L3 e g]⟩)
    clear L1 L2 L3 hR
    rcases hor with ⟨d3, d4⟩ | ⟨d3, d4⟩ <;> rcases hcs with ⟨d5, d6, hR⟩ | ⟨d5, d6, rfl⟩ | ⟨d5, d6, rfl⟩
    all_goals
      repeat' first
        | (with_reducible first | refine PW.seq ?_ | refine PW.block ?_ | refine PW.fork ?_ | refine PW.skip ?_ | refine PW.exit ?_ | refine PW.ret ?_ | refine PW.scope ?_ | refine PW.label ?_ | refine PW.goto ?_)
        | (simp only [d3, d4, d5, d6, w4])
        | (with_reducible refine PW.region ttOk ?_ ?_
           · rfl)
        | (with_reducible refine PW.regionD ttOk mixed ?_ ?_ ?_
           · rfl
           · rfl)
        | (with_reducible refine ifW_dec (fun g => ?_) (fun g => ?_) <;> first | (exfalso; omega) | (simp -dsimp only [g, wkI]))
        | (with_reducible refine condE_dec (fun g => ?_) (fun g => ?_) <;> try (exfalso; omega))
        | (with_reducible refine condE_not (fun g => ?_) (fun g => ?_) <;> try (exfalso; omega))
        | (simp -dsimp only [↓wkA, ↓wkE, ↓wkJ, wkB, ↓tt, Nat.reduceBEq, Nat.reduceEqDiff, ↓reduceIte, Nat.reduceLT, Array.toList, Nat.reduceAdd, Nat.reduceMul, Int.reduceToNat, Int.reducePow, UInt8.reduceToNat])
        | (refine call_by (h3) (views_data rfl) (by simp only [okViews, okView, okViews0, okView0, and_self]) rfl ?_)
        | (refine call_by (h4) (views_data rfl) (by simp only [okViews, okView, okViews0, okView0, and_self]) rfl ?_)
        | (simp -dsimp (disch := first | assumption | omega) only [dec_t, dec_f])
        | (refine andI ?_)
        | (simp (disch := omega) only [wkW, Int.reduceToNat, Int.reducePow])
        | fail
    all_goals exact Again.mk m (szF (z - 1 - ((i + 1 : Nat) : Int)) z) (szH n1 s x n2 t y) (by omega) (Sub.norm ⟨rfl, rfl, rfl, rfl, rfl, trivial⟩ ⟨rfl, rfl, trivial⟩ (Nat.le_refl _) rfl rfl rfl rfl (tyOk_spec rfl)) ⟨i + 1, by omega, hR, rfl, rfl⟩
theorem ref08_size (n1 n2 : Bool) {s t : List Int} {x y : Int} (h1 : NormF s x) (h2 : NormF t y) (hls : s.length ≤ 281474976710656) (hlt : t.length ≤ 281474976710656) (hx : InR x) (hy : InR y) :
    Meets Tryz.prog 83 [.agg [.bool n1, .str s, .int .i64 x], .agg [.bool n2, .str t, .int .i64 y]] (.int .i64 (sizeV s x t y)) := by
  have E := fun r h => ref08_size_early n1 n2 s t x y r hls hlt hx hy h
  unfold sizeV
  by_cases e1 : s = [48]
  · rw [if_pos e1]
    by_cases e2 : t = [48]
    · rw [if_pos e2]; exact E _ (.inl ⟨e1, e2, rfl⟩)
    · rw [if_neg e2]; exact E _ (.inr (.inl ⟨e1, e2, rfl⟩))
  · rw [if_neg e1]
    by_cases e2 : t = [48]
    · rw [if_pos e2]; exact E _ (.inr (.inr (.inl ⟨e1, e2, rfl⟩)))
    · rw [if_neg e2]
      by_cases h3 : x + s.length < y + t.length
      · rw [if_pos h3]; exact E _ (.inr (.inr (.inr (.inl ⟨e1, e2, h3, rfl⟩))))
      · rw [if_neg h3]
        by_cases h4 : y + t.length < x + s.length
        · rw [if_pos h4]; exact E _ (.inr (.inr (.inr (.inr ⟨e1, e2, h4, rfl⟩))))
        · rw [if_neg h4]
          exact ref08_size_walk n1 n2 s t x y hls hlt hx hy h1.all h2.all (h1.ends e1).2 (h2.ends e2).2 e1 e2 (by omega)
abbrev idF (i : Nat) : PV.Frame := [(3, .int .i64 (i : Int)), (2, .bool false), (1, .ptr 0 0 0)]
abbrev idH (neg : Bool) (s : List Int) (x : Int) : PV.Heap := ⟨1, [(0, .var [.bool neg, .str s, .int .i64 x])], [], [(0, 31)]⟩
theorem ref08_isdec_loop (neg : Bool) (s : List Int) (x : Int) (hs : s ≠ []) (hx : InR x) (hsl : s.length ≤ 281474976710656) (u : List Int) (e : Int) (hn : Meets Tryz.prog 82 [.bool neg, .str s, .int .i64 x] (.agg [.bool neg, .str u, .int .i64 e])) (r : Bool)
    (hr1 : ¬ AllD s → r = false) (hr2 : AllD s → r = decide (e ≤ 1152921504606846976)) : Meets Tryz.prog 81 [.agg [.bool neg, .str s, .int .i64 x]] (.bool r) := by
  have hp := List.length_pos_iff.2 hs
  obtain ⟨hx1, hx2⟩ := hx
  have d1 : decide ((s.length : Int) = 0) = false := decide_eq_false (by omega)
  have d2 : decide (x < -1152921504606846976) = false := decide_eq_false (by omega)
  have d3 : decide (1152921504606846976 < x) = false := decide_eq_false (by omega)
  refine meets_by ttOk Tryz.func81 Tryz.ntmps81 Tryz.results81 (by kernel_rfl) (c := _) rfl rfl rfl fun E => ?_
  simp only [argsFrame]
  have W := cj d1 (cj d2 d3)
  refine walk1 ?_
  refine PW.loopA (fun m F H => ∃ i : Nat, i + m = s.length ∧ (∀ j, j < i → isDig (s.getD j 0)) ∧ F = idF i ∧ H = idH neg s x) s.length (idF 0) (idH neg s x) (Sub.norm ⟨rfl, rfl, rfl, trivial⟩ ⟨rfl, trivial⟩ (Nat.le_refl _) rfl rfl rfl rfl (tyOk_spec rfl)) ⟨0, by omega, fun j hj => by omega, rfl, rfl⟩ ?_
  rintro m F H ⟨i, hi, hd, rfl, rfl⟩
  cases m with
  | zero =>
    have hr := hr2 fun j hj => hd j (by omega)
    subst hr
    have d4 : decide ((i : Int) < (s.length : Int)) = false := decide_eq_false (by omega)
    clear hd hr1 hr2 d1 d2 d3
    repeat' first
      | (with_reducible first | refine PW.seq ?_ | refine PW.block ?_ | refine PW.fork ?_ | refine PW.skip ?_ | refine PW.exit ?_ | refine PW.ret ?_ | refine PW.scope ?_ | refine PW.label ?_ | refine PW.goto ?_)
      | (simp only [d4])
      | (with_reducible refine PW.region ttOk ?_ ?_
         · rfl)
      | (with_reducible refine PW.regionD ttOk mixed ?_ ?_ ?_
         · rfl
         · rfl)
      | (with_reducible refine ifW_dec (fun g => ?_) (fun g => ?_) <;> first | (exfalso; omega) | (simp -dsimp only [g, wkI]))
      | (with_reducible refine condE_dec (fun g => ?_) (fun g => ?_) <;> try (exfalso; omega))
      | (with_reducible refine condE_not (fun g => ?_) (fun g => ?_) <;> try (exfalso; omega))
      | (simp -dsimp only [↓wkA, ↓wkE, ↓wkJ, wkB, ↓tt, Nat.reduceBEq, Nat.reduceEqDiff, ↓reduceIte, Nat.reduceLT, Array.toList, Nat.reduceAdd, Nat.reduceMul, Int.reduceToNat, Int.reducePow, UInt8.reduceToNat])
      | (refine call_by (hn) (views_data rfl) ⟨trivial, trivial, trivial, trivial⟩ rfl ?_)
      | (simp -dsimp (disch := first | assumption | omega) only [dec_t, dec_f])
      | (refine andI ?_)
      | (simp (disch := omega) only [wkW, Int.reduceToNat, Int.reducePow])
      | fail
  | succ m =>
    have d4 : decide ((i : Int) < (s.length : Int)) = true := decide_eq_true (by omega)
    have w1 : IntKind.wrap .i64 ((i : Int) + 1) = ((i + 1 : Nat) : Int) := wrap_i64 (by omega)
    have hcs : (isDig (s.getD i 0) ∧ decide (s.getD i 0 < 48) = false ∧ decide (57 < s.getD i 0) = false) ∨ (r = false ∧ decide (s.getD i 0 < 48) = true ∧ decide (s.getD i 0 < 48) = true) ∨ (r = false ∧ decide (s.getD i 0 < 48) = false ∧ decide (57 < s.getD i 0) = true) := by
      by_cases h5 : isDig (s.getD i 0)
      · exact .inl ⟨h5, decide_eq_false (by unfold isDig at h5; omega), decide_eq_false (by unfold isDig at h5; omega)⟩
      · have h6 := hr1 fun h => h5 (h i (by omega))
        unfold isDig at h5
        by_cases h7 : s.getD i 0 < 48
        · exact .inr (.inl ⟨h6, decide_eq_true h7, decide_eq_true h7⟩)
        · exact .inr (.inr ⟨h6, decide_eq_false h7, decide_eq_true (by omega)⟩)
    clear hr1 hr2 hn d1 d2 d3
    rcases hcs with ⟨h5, d5, d6⟩ | ⟨rfl, d5, d6⟩ | ⟨rfl, d5, d6⟩
    all_goals
      repeat' first
        | (with_reducible first | refine PW.seq ?_ | refine PW.block ?_ | refine PW.fork ?_ | refine PW.skip ?_ | refine PW.exit ?_ | refine PW.ret ?_ | refine PW.scope ?_ | refine PW.label ?_ | refine PW.goto ?_)
        | (simp only [d4, d5, d6, w1, Int.toNat_natCast])
        | (with_reducible refine PW.region ttOk ?_ ?_
           · rfl)
        | (with_reducible refine PW.regionD ttOk mixed ?_ ?_ ?_
           · rfl
           · rfl)
        | (with_reducible refine ifW_dec (fun g => ?_) (fun g => ?_) <;> first | (exfalso; omega) | (simp -dsimp only [g, wkI]))
        | (with_reducible refine condE_dec (fun g => ?_) (fun g => ?_) <;> try (exfalso; omega))
        | (with_reducible refine condE_not (fun g => ?_) (fun g => ?_) <;> try (exfalso; omega))
        | (simp -dsimp only [↓wkA, ↓wkE, ↓wkJ, wkB, ↓tt, Nat.reduceBEq, Nat.reduceEqDiff, ↓reduceIte, Nat.reduceLT, Array.toList, Nat.reduceAdd, Nat.reduceMul, Int.reduceToNat, Int.reducePow, UInt8.reduceToNat])
        | (simp -dsimp (disch := first | assumption | omega) only [dec_t, dec_f])
        | (refine andI ?_)
        | (simp (disch := omega) only [wkW, Int.reduceToNat, Int.reducePow])
        | fail
    exact Again.mk m (idF (i + 1)) (idH neg s x) (by omega) (Sub.norm ⟨rfl, rfl, rfl, trivial⟩ ⟨rfl, trivial⟩ (Nat.le_refl _) rfl rfl rfl rfl (tyOk_spec rfl)) ⟨i + 1, by omega, fun j hj => by
      rcases Nat.lt_succ_iff_lt_or_eq.1 hj with h | rfl
      · exact hd j h
      · exact h5, rfl, rfl⟩
theorem ref08_isdec_none (neg : Bool) (s : List Int) (x : Int) (h : s = [] ∨ x < -1152921504606846976 ∨ 1152921504606846976 < x) : Meets Tryz.prog 81 [.agg [.bool neg, .str s, .int .i64 x]] (.bool false) := by
  have hh : (decide ((s.length : Int) = 0) = true ∧ decide ((s.length : Int) = 0) = true ∧ decide ((s.length : Int) = 0) = true) ∨ (decide ((s.length : Int) = 0) = false ∧ decide (x < -1152921504606846976) = true ∧ decide (x < -1152921504606846976) = true) ∨ (decide ((s.length : Int) = 0) = false ∧ decide (x < -1152921504606846976) = false ∧ decide (1152921504606846976 < x) = true) := by
    by_cases h1 : s = []
    · have := decide_eq_true (show (s.length : Int) = 0 by rw [h1]; rfl); exact .inl ⟨this, this, this⟩
    · have hp := List.length_pos_iff.2 h1
      by_cases h2 : x < -1152921504606846976
      · have := decide_eq_true h2; exact .inr (.inl ⟨decide_eq_false (by omega), this, this⟩)
      · refine .inr (.inr ⟨decide_eq_false (by omega), decide_eq_false h2, decide_eq_true ?_⟩)
        rcases h with h | h | h
        · exact absurd h h1
        · exact absurd h h2
        · exact h
  clear h
  rcases hh with ⟨d1, d2, d3⟩ | ⟨d1, d2, d3⟩ | ⟨d1, d2, d3⟩
  all_goals (refine meets_by ttOk Tryz.func81 Tryz.ntmps81 Tryz.results81 (by kernel_rfl) (c := _) rfl rfl rfl fun E => ?_; simp only [argsFrame])
  all_goals
    have W := cj d1 (cj d2 d3)
    exact walk
theorem ref08_isdec (neg : Bool) (s : List Int) (x : Int) (hsl : s.length ≤ 281474976710656) : ∃ r : Bool, Meets Tryz.prog 81 [.agg [.bool neg, .str s, .int .i64 x]] (.bool r) ∧ (r = true ↔ NormOk s x) := by
  by_cases h1 : s ≠ [] ∧ InR x
  · by_cases hA : AllD s
    · exact ⟨_, ref08_isdec_loop neg s x h1.1 h1.2 hsl _ _ (ref08_normal neg s x h1.2 hsl) _ (fun h => absurd hA h) (fun _ => rfl), by rw [decide_eq_true_eq]; exact ⟨fun h => ⟨h1.1, h1.2, hA, h⟩, fun h => h.2.2.2⟩⟩
    · exact ⟨_, ref08_isdec_loop neg s x h1.1 h1.2 hsl _ _ (ref08_normal neg s x h1.2 hsl) false (fun _ => rfl) (fun h => absurd h hA), ⟨fun h => (by cases h), fun h => absurd h.2.2.1 hA⟩⟩
  · refine ⟨false, ref08_isdec_none neg s x ?_, ⟨fun h => (by cases h), fun h => absurd ⟨h.1, h.2.1⟩ h1⟩⟩
    by_cases h2 : s = []
    · exact .inl h2
    · refine .inr ?_
      by_cases h3 : x < -1152921504606846976
      · exact .inl h3
      · refine .inr ?_
        by_cases h4 : 1152921504606846976 < x
        · exact h4
        · exact absurd ⟨h2, by omega, by omega⟩ h1
theorem ref08_norm_walk (neg : Bool) (s u : List Int) (x e : Int) (r : Bool) (res : PV) (h1 : Meets Tryz.prog 81 [.agg [.bool neg, .str s, .int .i64 x]] (.bool r))
    (h : (r = false ∧ res = .tup [.agg [.bool false, .str [], .int .i64 0], .int .i64 80]) ∨ (r = true ∧ Meets Tryz.prog 82 [.bool neg, .str s, .int .i64 x] (.agg [.bool neg, .str u, .int .i64 e]) ∧ res = .tup [.agg [.bool neg, .str u, .int .i64 e], .int .i64 0])) : Meets Tryz.prog 40 [.agg [.bool neg, .str s, .int .i64 x]] res := by
  rcases h with ⟨rfl, rfl⟩ | ⟨rfl, h2, rfl⟩
  case' inl => have h2 := True.intro
  all_goals (refine meets_by ttOk Tryz.func40 Tryz.ntmps40 Tryz.results40 (by kernel_rfl) (c := _) rfl rfl rfl fun E => ?_; simp only [argsFrame])
  all_goals
    exact walk
theorem ref08_norm_ok (neg : Bool) {s : List Int} {x : Int} (h : NormOk s x) (hsl : s.length ≤ 281474976710656) : Meets Tryz.prog 40 [.agg [.bool neg, .str s, .int .i64 x]] (.tup [.agg [.bool neg, .str (normS s), .int .i64 (normX s x)], .int .i64 0]) := by
  obtain ⟨r, h1, h2⟩ := ref08_isdec neg s x hsl
  exact ref08_norm_walk neg s _ x _ r _ h1 (.inr ⟨h2.2 h, ref08_normal neg s x h.2.1 hsl, rfl⟩)
theorem ref08_norm_bad (neg : Bool) {s : List Int} {x : Int} (h : ¬ NormOk s x) (hsl : s.length ≤ 281474976710656) : Meets Tryz.prog 40 [.agg [.bool neg, .str s, .int .i64 x]] (.tup [.agg [.bool false, .str [], .int .i64 0], .int .i64 80]) := by
  obtain ⟨r, h1, h2⟩ := ref08_isdec neg s x hsl
  refine ref08_norm_walk neg s [] x 0 r _ h1 (.inl ⟨?_, rfl⟩)
  cases r with
  | false => rfl
  | true => exact absurd (h2.1 rfl) h
theorem size_range (s : List Int) (x : Int) (t : List Int) (y : Int) : sizeV s x t y = -1 ∨ sizeV s x t y = 0 ∨ sizeV s x t y = 1 := by
  have hl : ∀ s t, lexI s t = -1 ∨ lexI s t = 0 ∨ lexI s t = 1 := by
    intro s
    induction s with
    | nil => intro t; cases t <;> simp [lexI]
    | cons a s ih =>
      intro t
      cases t with
      | nil => simp [lexI]
      | cons b t =>
        rw [lexI]
        split
        · exact .inl rfl
        · split
          · exact .inr (.inr rfl)
          · exact ih t
  unfold sizeV
  repeat' split
  all_goals first | exact hl _ _ | simp
theorem scan_cmp_n {s t : List Int} {x y : Int} (h1 : NormF s x) (h2 : NormF t y) (hx : InR x) (hy : InR y) (hls : s.length ≤ 281474976710656) (hlt : t.length ≤ 281474976710656) :
    Meets Tryz.prog 30 [decP false s x, decP false t y] (.tup [.int .i64 (sizeV s x t y), .int .i64 0]) := by
  have n1 := scan_norm_ok false (norm_ok h1 hx) hls
  have n2 := scan_norm_ok false (norm_ok h2 hy) hlt
  rw [(norm_self h1).1, (norm_self h1).2] at n1
  rw [(norm_self h2).1, (norm_self h2).2] at n2
  have hs := scan_size false false s t x y hls hlt hx hy
  have hw : IntKind.wrap .i64 (0 - sizeV s x t y) = 0 - sizeV s x t y := wrap_i64 (by rcases size_range s x t y with h | h | h <;> omega)
  refine cmp_walk false false s t s t x y x y _ _ hw n1 n2 hs ?_
  by_cases e1 : s = [48] <;> by_cases e2 : t = [48]
  · exact .inl ⟨e1, e2, by unfold sizeV; rw [if_pos e1, if_pos e2]⟩
  · exact .inr (.inl ⟨e1, e2, rfl, rfl⟩)
  · exact .inr (.inr (.inr (.inr (.inl ⟨e1, e2, rfl, rfl⟩))))
  · exact .inr (.inr (.inr (.inr (.inr (.inr (.inr (.inr (.inr (.inr ⟨e1, e2, rfl, rfl, rfl⟩)))))))))
theorem ref08_cmp_walk (s t : List Int) (x y c : Int) (h1 : Meets Tryz.prog 40 [decP false s x] (.tup [decP false s x, .int .i64 0])) (h2 : Meets Tryz.prog 40 [decP false t y] (.tup [decP false t y, .int .i64 0])) (h3 : Meets Tryz.prog 83 [decP false s x, decP false t y] (.int .i64 c)) :
    Meets Tryz.prog 41 [decP false s x, decP false t y] (.tup [.int .i64 c, .int .i64 0]) := by
  obtain ⟨b1, d1⟩ : ∃ b, decide (s = [48]) = b := ⟨_, rfl⟩
  obtain ⟨b2, d2⟩ : ∃ b, decide (t = [48]) = b := ⟨_, rfl⟩
  cases b1 <;> cases b2
  all_goals (refine meets_by ttOk Tryz.func41 Tryz.ntmps41 Tryz.results41 (by kernel_rfl) (c := _) rfl rfl rfl fun E => ?_; simp only [argsFrame])
  all_goals
    have W := cj d1 d2
    exact walk
theorem ref08_cmp_n {s t : List Int} {x y : Int} (h1 : NormF s x) (h2 : NormF t y) (hx : InR x) (hy : InR y) (hls : s.length ≤ 281474976710656) (hlt : t.length ≤ 281474976710656) :
    Meets Tryz.prog 41 [decP false s x, decP false t y] (.tup [.int .i64 (sizeV s x t y), .int .i64 0]) := by
  have n1 := ref08_norm_ok false (norm_ok h1 hx) hls
  have n2 := ref08_norm_ok false (norm_ok h2 hy) hlt
  rw [(norm_self h1).1, (norm_self h1).2] at n1
  rw [(norm_self h2).1, (norm_self h2).2] at n2
  exact ref08_cmp_walk s t x y _ n1 n2 (ref08_size false false h1 h2 hls hlt hx hy)
def holdsR (a b : Int) (cl : Bool) : Bool := if cl then decide (a ≤ 0 ∧ b ≤ 0) else decide (a < 0 ∧ b < 0)
theorem holds_cases (a b : Int) (cl : Bool) : (cl = true ∧ holdsR a b cl = true ∧ a ≤ 0 ∧ b ≤ 0) ∨ (cl = true ∧ holdsR a b cl = false ∧ ¬ (a ≤ 0 ∧ b ≤ 0)) ∨ (cl = false ∧ holdsR a b cl = true ∧ a < 0 ∧ b < 0) ∨ (cl = false ∧ holdsR a b cl = false ∧ ¬ (a < 0 ∧ b < 0)) := by
  cases cl
  · by_cases h : a < 0 ∧ b < 0
    · exact .inr (.inr (.inl ⟨rfl, decide_eq_true h, h.1, h.2⟩))
    · exact .inr (.inr (.inr ⟨rfl, decide_eq_false h, h⟩))
  · by_cases h : a ≤ 0 ∧ b ≤ 0
    · exact .inl ⟨rfl, decide_eq_true h, h.1, h.2⟩
    · exact .inr (.inl ⟨rfl, decide_eq_false h, h⟩)
theorem short_holds_early (neg ng cl : Bool) (s s1 l h : List Int) (x x1 d u v : Int) (res : PV) (hneg : decide (9223372036854775808 ≤ d) = ng)
    (hc : (Meets Tryz.prog 29 [decP neg s x] (.tup [dec0, .int .i64 80]) ∧ res = .tup [.bool false, .int .i64 80]) ∨
      (Meets Tryz.prog 29 [decP neg s x] (.tup [decP neg s1 x1, .int .i64 0]) ∧ Meets Tryz.prog 18 [.int .u64 d] (.tup [dec0, dec0, .bool false, .int .i64 5]) ∧ res = .tup [.bool false, .int .i64 5]) ∨
      (Meets Tryz.prog 29 [decP neg s x] (.tup [decP neg s1 x1, .int .i64 0]) ∧ Meets Tryz.prog 18 [.int .u64 d] (.tup [decP false l u, decP false h v, .bool cl, .int .i64 0]) ∧ ng = !neg ∧ res = .tup [.bool false, .int .i64 0])) :
    Meets Tryz.prog 15 [decP neg s x, .int .u64 d] res := by
  rcases hc with ⟨h1, rfl⟩ | ⟨h1, h2, rfl⟩ | ⟨h1, h2, rfl, rfl⟩
  case' inl => have h2 := h1
  all_goals (have q1 : (false == true) = false := rfl; have q2 : (true == false) = false := rfl)
  case' inr.inr => cases neg <;> simp only [Bool.not_true, Bool.not_false] at hneg
  all_goals (refine meets_by ttOk Tryz.func15 Tryz.ntmps15 Tryz.results15 (by kernel_rfl) (c := _) rfl rfl rfl fun E => ?_; simp only [argsFrame])
  all_goals
    have W := cj hneg (cj q1 q2)
    exact walk
theorem short_holds_walk (ng cl r : Bool) (s s1 l h : List Int) (x x1 d u v a b : Int) (hneg : decide (9223372036854775808 ≤ d) = ng)
    (hr : (cl = true ∧ r = true ∧ a ≤ 0 ∧ b ≤ 0) ∨ (cl = true ∧ r = false ∧ ¬ (a ≤ 0 ∧ b ≤ 0)) ∨ (cl = false ∧ r = true ∧ a < 0 ∧ b < 0) ∨ (cl = false ∧ r = false ∧ ¬ (a < 0 ∧ b < 0)))
    (h1 : Meets Tryz.prog 29 [decP ng s x] (.tup [decP ng s1 x1, .int .i64 0])) (h2 : Meets Tryz.prog 18 [.int .u64 d] (.tup [decP false l u, decP false h v, .bool cl, .int .i64 0]))
    (h3 : Meets Tryz.prog 30 [decP false l u, decP false s1 x1] (.tup [.int .i64 a, .int .i64 0])) (h4 : Meets Tryz.prog 30 [decP false s1 x1, decP false h v] (.tup [.int .i64 b, .int .i64 0])) :
    Meets Tryz.prog 15 [decP ng s x, .int .u64 d] (.tup [.bool r, .int .i64 0]) := by
  rcases hr with ⟨rfl, rfl, ha, hb⟩ | ⟨rfl, rfl, hab⟩ | ⟨rfl, rfl, ha, hb⟩ | ⟨rfl, rfl, hab⟩
  all_goals (refine meets_by ttOk Tryz.func15 Tryz.ntmps15 Tryz.results15 (by kernel_rfl) (c := _) rfl rfl rfl fun E => ?_; simp only [argsFrame])
  all_goals
    have W := hneg
    exact walk
theorem ref_holds_early (neg ng cl : Bool) (s s1 l h : List Int) (x x1 d u v : Int) (res : PV) (hneg : decide (9223372036854775808 ≤ d) = ng)
    (hc : (Meets Tryz.prog 40 [decP neg s x] (.tup [dec0, .int .i64 80]) ∧ res = .tup [.bool false, .int .i64 80]) ∨
      (Meets Tryz.prog 40 [decP neg s x] (.tup [decP neg s1 x1, .int .i64 0]) ∧ Meets Tryz.prog 19 [.int .u64 d] (.tup [dec0, dec0, .bool false, .int .i64 5]) ∧ res = .tup [.bool false, .int .i64 5]) ∨
      (Meets Tryz.prog 40 [decP neg s x] (.tup [decP neg s1 x1, .int .i64 0]) ∧ Meets Tryz.prog 19 [.int .u64 d] (.tup [decP false l u, decP false h v, .bool cl, .int .i64 0]) ∧ ng = !neg ∧ res = .tup [.bool false, .int .i64 0])) :
    Meets Tryz.prog 20 [decP neg s x, .int .u64 d] res := by
  rcases hc with ⟨h1, rfl⟩ | ⟨h1, h2, rfl⟩ | ⟨h1, h2, rfl, rfl⟩
  case' inl => have h2 := h1
  all_goals (have q1 : (false == true) = false := rfl; have q2 : (true == false) = false := rfl)
  case' inr.inr => cases neg <;> simp only [Bool.not_true, Bool.not_false] at hneg
  all_goals (refine meets_by ttOk Tryz.func20 Tryz.ntmps20 Tryz.results20 (by kernel_rfl) (c := _) rfl rfl rfl fun E => ?_; simp only [argsFrame])
  all_goals
    have W := cj hneg (cj q1 q2)
    exact walk
theorem ref_holds_walk (ng cl r : Bool) (s s1 l h : List Int) (x x1 d u v a b : Int) (hneg : decide (9223372036854775808 ≤ d) = ng)
    (hr : (cl = true ∧ r = true ∧ a ≤ 0 ∧ b ≤ 0) ∨ (cl = true ∧ r = false ∧ ¬ (a ≤ 0 ∧ b ≤ 0)) ∨ (cl = false ∧ r = true ∧ a < 0 ∧ b < 0) ∨ (cl = false ∧ r = false ∧ ¬ (a < 0 ∧ b < 0)))
    (h1 : Meets Tryz.prog 40 [decP ng s x] (.tup [decP ng s1 x1, .int .i64 0])) (h2 : Meets Tryz.prog 19 [.int .u64 d] (.tup [decP false l u, decP false h v, .bool cl, .int .i64 0]))
    (h3 : Meets Tryz.prog 41 [decP false l u, decP false s1 x1] (.tup [.int .i64 a, .int .i64 0])) (h4 : Meets Tryz.prog 41 [decP false s1 x1, decP false h v] (.tup [.int .i64 b, .int .i64 0])) :
    Meets Tryz.prog 20 [decP ng s x, .int .u64 d] (.tup [.bool r, .int .i64 0]) := by
  rcases hr with ⟨rfl, rfl, ha, hb⟩ | ⟨rfl, rfl, hab⟩ | ⟨rfl, rfl, ha, hb⟩ | ⟨rfl, rfl, hab⟩
  all_goals (refine meets_by ttOk Tryz.func20 Tryz.ntmps20 Tryz.results20 (by kernel_rfl) (c := _) rfl rfl rfl fun E => ?_; simp only [argsFrame])
  all_goals
    have W := hneg
    exact walk
theorem exS_form {m : Nat} {e : Int} (hm0 : m ≠ 0) (hm : m < 2 ^ 60) (he : -1100 ≤ e ∧ e ≤ 1000) : NormF (exS m e) (exX m e) ∧ InR (exX m e) ∧ (exS m e).length ≤ 900 := by
  obtain ⟨v0, v1⟩ := exV_ok hm0 hm he
  have hwl := written_le v0 v1
  have h1 := headL_le 48 (written 10 false (exV m e))
  have h2 := endN_le (headL 48 (written 10 false (exV m e))) 48 (headL 48 (written 10 false (exV m e))).length
  have hx : -2100 ≤ exX m e ∧ exX m e ≤ 2100 := by
    unfold exX normX
    repeat' split
    all_goals omega
  exact ⟨norm_form _ (written_all_d v0), ⟨by omega, by omega⟩, Nat.le_trans (normS_le (written_ne (by decide) false _)) hwl⟩
theorem holds_both (neg : Bool) (s : List Int) (x : Int) (hsl : s.length ≤ 281474976710656) (d : Nat) (hd : d < 18446744073709551616) : ∃ b e, Meets Tryz.prog 15 [decP neg s x, .int .u64 (d : Int)] (.tup [.bool b, .int .i64 e]) ∧ Meets Tryz.prog 20 [decP neg s x, .int .u64 (d : Int)] (.tup [.bool b, .int .i64 e]) := by
  have hng : decide (9223372036854775808 ≤ (d : Int)) = negD d := decide_eq_decide.2 (by omega)
  by_cases hn : NormOk s x
  · have n1 := scan_norm_ok neg hn hsl
    have n2 := ref08_norm_ok neg hn hsl
    have b1 := short_bounds d hd
    have b2 := ref12_bounds d hd
    have hF := norm_form x hn.2.2.1
    have hR := norm_inR hn
    have hL : (normS s).length ≤ 281474976710656 := Nat.le_trans (norm_len' hn.1) hsl
    unfold bndP at b1 b2
    by_cases hf : finD d
    · rw [if_neg (fun h => h hf)] at b1 b2
      obtain ⟨l, u, h, v, cl, hl, hh, e1⟩ : ∃ l u h v cl, (NormF l u ∧ InR u ∧ l.length ≤ 900) ∧ (NormF h v ∧ InR v ∧ h.length ≤ 900) ∧ (if absD d = 0 then PV.tup [.agg [.bool false, .str [48], .int .i64 0], exP 1 (-1075), .bool true, .int .i64 0] else .tup [exP (lowM d) (spE d), exP (4 * mantD d + 2) (spE d), .bool (decide (d % 2 = 0)), .int .i64 0]) = .tup [decP false l u, decP false h v, .bool cl, .int .i64 0] := by
        by_cases h0 : absD d = 0
        · rw [if_pos h0]
          exact ⟨[48], 0, _, _, true, ⟨⟨fun i hi => by
            match i, hi with
            | 0, _ => decide
            | i + 1, h => simp at h, by decide, fun _ => rfl, fun h => absurd rfl h⟩, ⟨by decide, by decide⟩, by decide⟩, exS_form (m := 1) (e := -1075) (by decide) (by decide) (by decide), rfl⟩
        · rw [if_neg h0]
          have hm0 : mantD d ≠ 0 := fun e => h0 (mantD_zero.1 e)
          have hml := mantD_lt d
          have he1 := expD_ge d
          have he2 := expD_le hf
          have he : -1100 ≤ spE d ∧ spE d ≤ 1000 := by unfold spE; omega
          have e60 : (2 : Nat) ^ 60 = 1152921504606846976 := by decide
          obtain ⟨l1, l2⟩ := lowM_bounds d hm0
          exact ⟨_, _, _, _, _, exS_form (m := lowM d) (e := spE d) (by omega) (by rw [e60]; omega) he, exS_form (m := 4 * mantD d + 2) (e := spE d) (by omega) (by rw [e60]; omega) he, rfl⟩
      rw [e1] at b1 b2
      by_cases hg : neg = negD d
      · subst hg
        exact ⟨_, _, short_holds_walk _ cl _ s _ l h x _ _ u v _ _ hng (holds_cases _ _ cl) n1 b1 (scan_cmp_n hl.1 hF hl.2.1 hR (by omega) hL) (scan_cmp_n hF hh.1 hR hh.2.1 hL (by omega)),
          ref_holds_walk _ cl _ s _ l h x _ _ u v _ _ hng (holds_cases _ _ cl) n2 b2 (ref08_cmp_n hl.1 hF hl.2.1 hR (by omega) hL) (ref08_cmp_n hF hh.1 hR hh.2.1 hL (by omega))⟩
      · have hg : negD d = !neg := by revert hg; cases neg <;> cases negD d <;> simp
        exact ⟨_, _, short_holds_early neg _ cl s _ l h x _ _ u v _ hng (.inr (.inr ⟨n1, b1, hg, rfl⟩)), ref_holds_early neg _ cl s _ l h x _ _ u v _ hng (.inr (.inr ⟨n2, b2, hg, rfl⟩))⟩
    · rw [if_pos hf] at b1 b2
      exact ⟨_, _, short_holds_early neg _ false s _ [] [] x _ _ 0 0 _ hng (.inr (.inl ⟨n1, b1, rfl⟩)), ref_holds_early neg _ false s _ [] [] x _ _ 0 0 _ hng (.inr (.inl ⟨n2, b2, rfl⟩))⟩
  · exact ⟨_, _, short_holds_early neg _ false s [] [] [] x 0 _ 0 0 _ hng (.inl ⟨scan_norm_bad neg hn hsl, rfl⟩), ref_holds_early neg _ false s [] [] [] x 0 _ 0 0 _ hng (.inl ⟨ref08_norm_bad neg hn hsl, rfl⟩)⟩
end Go.Proofs.YtmoilbeomnapfaaGreatDoor
namespace Go.PV
open Go Go.RowKit
end Go.PV
namespace Go.Proofs.YtmoilbeomnapfaaGreatDoor
open Go Go.PV
abbrev decS : List Shape := [.bool, .str, .int .i64]
theorem typed_dec : Typed Tryz.prog 31 decS :=
  .struct [[.bool], [.str], [.int .i64]] Tryz.underlying31 rfl (by kernel_rfl)
    (fun i f h => by
      match i, h with
      | 0, h => cases h; exact .bool (by kernel_rfl)
      | 1, h => cases h; exact .str (by kernel_rfl)
      | 2, h => cases h; exact .int (by kernel_rfl)
      | i + 3, h => simp at h)
    (fun i f h => by
      match i, h with
      | 0, h => cases h; exact ⟨rfl, by kernel_rfl⟩
      | 1, h => cases h; exact ⟨rfl, by kernel_rfl⟩
      | 2, h => cases h; exact ⟨rfl, by kernel_rfl⟩
      | i + 3, h => simp at h)
structure OpS where
  (k d n : Int)
  neg : Bool
  s : List Int
  x : Int
def OpS.pv (o : OpS) : PV := .agg [.int .i64 o.k, .int .u64 o.d, .int .i64 o.n, .bool o.neg, .str o.s, .int .i64 o.x]
structure OpS.Ok (o : OpS) : Prop where
  d : 0 ≤ o.d ∧ o.d < 18446744073709551616
  sl : o.s.length ≤ 140737488351232
theorem opS_get {ops : List OpS} {i : Nat} (h : i < ops.length) : ∃ o ∈ ops, (ops.map OpS.pv).getD i .undef = o.pv ∧ ops.drop i = o :: ops.drop (i + 1) := by
  refine ⟨ops[i], List.getElem_mem h, ?_, List.drop_eq_getElem_cons h⟩
  rw [List.getD_eq_getElem?_getD, List.getElem?_map, List.getElem?_eq_getElem h]
  rfl
def muchS : List OpS → Nat → Bool
  | [], t => decide (16777216 < t)
  | o :: r, t => if t ≤ 16777216 then muchS r (t + o.s.length) else decide (16777216 < t)
theorem muchS_stop {r : List OpS} {t : Nat} (h : ¬ t ≤ 16777216) : muchS r t = true := by
  cases r with
  | nil => exact decide_eq_true (by omega)
  | cons o r => rw [muchS, if_neg h]; exact decide_eq_true (by omega)
abbrev opSS : List Shape := [.int .i64, .int .u64, .int .i64, .bool, .str, .int .i64]
theorem fits_opsS {p : PV} (h : Fits (.rows true 56 opSS) p) : ∃ ops : List OpS, p = .list 6 (ops.map OpS.pv) ∧ (∀ o ∈ ops, o.Ok) ∧ ops.length * 56 ≤ 140737488351232 := by
  refine fits_list h OpS.pv OpS.Ok fun ps hl hf => ?_
  match ps, hl with
  | [p0, p1, p2, p3, p4, p5], _ =>
    have h0 : Fits (.int .i64) p0 := hf 0 (by decide)
    have h1 : Fits (.int .u64) p1 := hf 1 (by decide)
    have h2 : Fits (.int .i64) p2 := hf 2 (by decide)
    have h3 : Fits .bool p3 := hf 3 (by decide)
    have h4 : Fits .str p4 := hf 4 (by decide)
    have h5 : Fits (.int .i64) p5 := hf 5 (by decide)
    cases h0 with | int _ k hk =>
    cases h1 with | int _ d hd =>
    cases h2 with | int _ n hn =>
    cases h3 with | bool neg =>
    cases h4 with | str s hs hsb =>
    cases h5 with | int _ x hx =>
    exact ⟨⟨k, d, n, neg, s, x⟩, rfl, ⟨wf_u64 hd, hs⟩⟩
theorem digits_both (d : Nat) (hd : d < 18446744073709551616) : ∃ a s x e, Meets Tryz.prog 13 [.int .u64 (d : Int)] (.tup [decP a s x, .int .i64 e]) ∧ Meets Tryz.prog 16 [.int .u64 (d : Int)] (.tup [decP a s x, .int .i64 e]) := by
  have h1 := short_finite d hd
  have g1 := ref04_finite d hd
  have h2 := ieee_class d hd
  have g2 := ref04_abs d hd
  have hneg : decide (9223372036854775808 ≤ (d : Int)) = negD d := decide_eq_decide.2 (by omega)
  by_cases hf : finD d
  · rw [decide_eq_true hf] at h1 g1
    by_cases h0 : absD d = 0
    · exact ⟨_, _, _, _, digits_cases _ (negD d) true _ _ hneg h1 (.inr ⟨rfl, class_zeroU.2 h0, h2, rfl⟩), ref_digits_cases _ _ _ _ _ true (.inr rfl) (ref_within_cases _ 1 _ true (negD d) _ (neg_zero hd h0) g1 (.inr (.inr (.inr ⟨rfl, by decide, by decide, by omega, g2, rfl⟩))))⟩
    · obtain ⟨k, k1, k2, hT⟩ := lead_ex hf h0
      have h3 := short_digits d hd hf h0 k ⟨k1, k2⟩ hT
      obtain ⟨e, g3, g4⟩ := ref12_digits d hd hf h0 k ⟨k1, k2⟩ hT
      obtain rfl := g4 ⟨17, by decide, by decide, best_17 hf h0 ⟨k1, k2⟩ hT⟩
      obtain ⟨a, s, x, hR⟩ := first_dec d k 17 1
      unfold shortP at h3 g3
      rw [hR] at h3 g3
      exact ⟨a, s, x, 0, h3, g3⟩
  · rw [decide_eq_false hf] at h1 g1
    exact ⟨_, _, _, _, digits_cases _ (negD d) false 0 _ hneg h1 (.inl ⟨rfl, rfl⟩), ref_digits_cases _ _ _ _ _ false (.inl (by decide)) (ref_within_cases _ 1 0 false _ _ rfl g1 (.inl ⟨rfl, rfl⟩))⟩
theorem written_at {v k : Nat} (h1 : 10 ^ k ≤ v) (h2 : v < 10 ^ (k + 1)) : written 10 false v = digL (k + 1) v := by
  have h0 : v ≠ 0 := by have := Nat.pow_pos (n := k) (show 0 < 10 by decide); omega
  rw [written, if_neg h0, text_digL, ndig_of h1 h2]
theorem digits_tenth : Meets Tryz.prog 13 [.int .u64 4591870180066957722] (.tup [decP false [49] (-1), .int .i64 0]) := by
  have hd : 4591870180066957722 < 18446744073709551616 := by decide
  have hf : finD 4591870180066957722 := by decide
  have h0 : absD 4591870180066957722 ≠ 0 := by decide
  have hT : Ten (4 * mantD 4591870180066957722) (spE 4591870180066957722) (-1) := ⟨by decide +kernel, by decide +kernel⟩
  have g1 := short_digits 4591870180066957722 hd hf h0 (-1) (by decide) hT
  have hb : bestD 4591870180066957722 (-1) = some 1 := by decide +kernel
  have hw : written 10 false 1 = [49] := by rw [written_at (k := 0) (by decide) (by decide)]; rfl
  have hs : shortP 4591870180066957722 (-1) = .agg [.bool false, .str [49], .int .i64 (-1)] := by
    show (if (bestD 4591870180066957722 (-1)).isSome then decR (negD 4591870180066957722) (-1) (bestD 4591870180066957722 (-1)) else firstD 4591870180066957722 (-1) 16 2) = _
    rw [hb]
    show PV.agg [.bool false, .str (normS (written 10 false 1)), .int .i64 (normX (written 10 false 1) (-1))] = _
    rw [hw]
    rfl
  rw [hs] at g1
  exact g1
theorem within_third : Meets Tryz.prog 14 [.int .u64 4599676419421066581, .int .i64 16] (.tup [decP false [51, 51, 51, 51, 51, 51, 51, 51, 51, 51, 51, 51, 51, 51, 51, 51] (-16), .bool true, .int .i64 0]) := by
  have hd : 4599676419421066581 < 18446744073709551616 := by decide
  have hf : finD 4599676419421066581 := by decide
  have h0 : absD 4599676419421066581 ≠ 0 := by decide
  have hT : Ten (4 * mantD 4599676419421066581) (spE 4599676419421066581) (-1) := ⟨by decide +kernel, by decide +kernel⟩
  have h1 := short_finite 4599676419421066581 hd
  rw [decide_eq_true hf] at h1
  have h4 := short_within 4599676419421066581 hd hf h0 (-1) (-16) 16 (by decide) (by decide) hT rfl
  have hb : bestD 4599676419421066581 (-16) = some 3333333333333333 := by decide +kernel
  have hw : written 10 false 3333333333333333 = digL 16 3333333333333333 := written_at (k := 15) (by decide) (by decide)
  rw [hb] at h4
  have e : decR (negD 4599676419421066581) (-16) (some 3333333333333333) = decP false [51, 51, 51, 51, 51, 51, 51, 51, 51, 51, 51, 51, 51, 51, 51, 51] (-16) := by
    show PV.agg [.bool false, .str (normS (written 10 false 3333333333333333)), .int .i64 (normX (written 10 false 3333333333333333) (-16))] = _
    rw [hw, show normS (digL 16 3333333333333333) = [51, 51, 51, 51, 51, 51, 51, 51, 51, 51, 51, 51, 51, 51, 51, 51] by decide +kernel, show normX (digL 16 3333333333333333) (-16) = -16 by decide +kernel]
  rw [e] at h4
  exact within_cases _ 16 (-1) _ true _ false _ _ _ _ _ rfl (by decide) h1 (.inr (.inr (.inr (.inr ⟨rfl, by decide, by decide, fun e => h0 (class_zeroU.1 e), ieee_class 4599676419421066581 hd, short_leading 4599676419421066581 hd hf h0 (-1) (by decide) hT, h4, rfl⟩))))
theorem holds_tenth : Meets Tryz.prog 15 [decP false [49] (-1), .int .u64 4591870180066957722] (.tup [.bool true, .int .i64 0]) := by
  have hn : NormOk [49] (-1) := ⟨by decide, ⟨by decide, by decide⟩, fun i hi => by
    match i, hi with
    | 0, _ => decide
    | i + 1, h => simp at h, by decide⟩
  have n1 := scan_norm_ok false hn (by decide)
  have hF := norm_form (-1) hn.2.2.1
  have hR := norm_inR hn
  have b1 := short_bounds 4591870180066957722 (by decide)
  unfold bndP at b1
  rw [if_neg (by decide), if_neg (by decide)] at b1
  have e60 : (2 : Nat) ^ 60 = 1152921504606846976 := by decide
  have hl := exS_form (m := lowM 4591870180066957722) (e := spE 4591870180066957722) (by decide) (by decide) (by decide)
  have hh := exS_form (m := 4 * mantD 4591870180066957722 + 2) (e := spE 4591870180066957722) (by decide) (by decide) (by decide)
  have s1 : sizeV (exS (lowM 4591870180066957722) (spE 4591870180066957722)) (exX (lowM 4591870180066957722) (spE 4591870180066957722)) (normS [49]) (normX [49] (-1)) = -1 := by
    unfold exS exX
    rw [written_at (k := 56) (by decide +kernel) (by decide +kernel)]
    decide +kernel
  have s2 : sizeV (normS [49]) (normX [49] (-1)) (exS (4 * mantD 4591870180066957722 + 2) (spE 4591870180066957722)) (exX (4 * mantD 4591870180066957722 + 2) (spE 4591870180066957722)) = -1 := by
    unfold exS exX
    rw [written_at (k := 57) (by decide +kernel) (by decide +kernel)]
    decide +kernel
  have c1 := scan_cmp_n hl.1 hF hl.2.1 hR (by omega) (by decide)
  have c2 := scan_cmp_n hF hh.1 hR hh.2.1 (by decide) (by omega)
  rw [s1] at c1
  rw [s2] at c2
  exact short_holds_walk false _ _ _ _ _ _ _ _ _ _ _ (-1) (-1) (by decide) (.inl ⟨rfl, rfl, by decide, by decide⟩) n1 b1 c1 c2
theorem text_half : Meets Tryz.prog 11 [.int .u64 4612811918334230528] (.str [50, 46, 53]) := by
  have hd : 4612811918334230528 < 18446744073709551616 := by decide
  have hf : finD 4612811918334230528 := by decide
  have h0 : absD 4612811918334230528 ≠ 0 := by decide
  have hT : Ten (4 * mantD 4612811918334230528) (spE 4612811918334230528) 0 := ⟨by decide +kernel, by decide +kernel⟩
  have g1 := short_digits 4612811918334230528 hd hf h0 0 (by decide) hT
  have h1 := ieee_class 4612811918334230528 hd
  have hb0 : bestD 4612811918334230528 0 = none := by decide +kernel
  have hb : bestD 4612811918334230528 (-1) = some 25 := by decide +kernel
  have hw : written 10 false 25 = [50, 53] := by rw [written_at (k := 1) (by decide) (by decide)]; rfl
  have hs : shortP 4612811918334230528 0 = .agg [.bool false, .str [50, 53], .int .i64 (-1)] := by
    show (if (bestD 4612811918334230528 0).isSome then decR (negD 4612811918334230528) 0 (bestD 4612811918334230528 0) else if (bestD 4612811918334230528 (-1)).isSome then decR (negD 4612811918334230528) (-1) (bestD 4612811918334230528 (-1)) else firstD 4612811918334230528 0 15 3) = _
    rw [hb0, hb]
    show PV.agg [.bool false, .str (normS (written 10 false 25)), .int .i64 (normX (written 10 false 25) (-1))] = _
    rw [hw]
    rfl
  rw [hs] at g1
  have hq : (itoaI 1).length ≤ 1000 := by
    have h5 : (itoaI 1).length = (Lib.itoa 1).length := by unfold itoaI bytesI; simp
    rw [h5]
    decide +kernel
  exact text_walk 4612811918334230528 2 0 false false [50, 53] [50, 46, 53] (itoaI 1) (-1) 1 1 (by decide) (by decide) (by decide) (by decide) (by decide) (.inr (.inl ⟨by decide, by decide, by decide, by decide, rfl⟩)) hq h1 g1 (repeat_byte 48 (by decide) 1 (by decide)) (itoa_meets 1 (by decide))
theorem law12_awake : Meets Tryz.prog 8 [] (.bool true) := by
  have h1 := digits_tenth
  have h2 := within_third
  have h3 := holds_tenth
  have h4 := text_half
  refine meets_by ttOk Tryz.func8 Tryz.ntmps8 Tryz.results8 (by kernel_rfl) (c := _) rfl rfl rfl fun E => ?_
  simp only [argsFrame]
  exact walk
theorem law12_much (ops : List OpS) (hok : ∀ o ∈ ops, o.Ok) (hn : ops.length ≤ 140737488351232) : Meets Tryz.prog 9 [.list 6 (ops.map OpS.pv)] (.bool (muchS ops 0)) := by
  refine meets_by ttOk Tryz.func9 Tryz.ntmps9 Tryz.results9 (by kernel_rfl) (c := _) rfl rfl rfl fun E => ?_
  simp only [argsFrame]
  have hget : ∀ i, i < ops.length → ∃ o ∈ ops, (ops.map OpS.pv).getD i .undef = o.pv ∧ ops.drop i = o :: ops.drop (i + 1) := fun i h => opS_get h
  have hlen : (ops.map OpS.pv).length = ops.length := List.length_map ..
  generalize ops.map OpS.pv = L at *
  refine walk1 ?_
  refine PW.loopA (fun m F H => ∃ i t : Nat, i + m = L.length ∧ t ≤ 16777216 + 140737488351232 ∧ muchS (ops.drop i) t = muchS ops 0 ∧ F = [(4, .int .i64 (i : Int)), (3, .int .i64 (t : Int)), (0, .list 6 L)] ∧ H = ⟨0, [], [], []⟩) L.length [(4, .int .i64 ((0 : Nat) : Int)), (3, .int .i64 ((0 : Nat) : Int)), (0, .list 6 L)] ⟨0, [], [], []⟩ (Sub.norm ⟨rfl, rfl, rfl, trivial⟩ trivial (Nat.zero_le _) rfl rfl rfl rfl) ⟨0, 0, by omega, by omega, by rw [List.drop_zero], rfl, rfl⟩ ?_
  rintro m F H ⟨i, t, hi, ht, hm, rfl, rfl⟩
  cases m with
  | zero =>
    have hd : ops.drop i = [] := List.drop_eq_nil_of_le (by omega)
    rw [hd, muchS] at hm
    rw [← hm]
    clear hm
    obtain rfl : i = L.length := by omega
    refine walk1 ?_
    all_goals (refine congrArg PV.bool ?_; first | exact decide_eq_true (by omega) | exact decide_eq_false (by omega) | (rw [decide_eq_decide]; omega))
  | succ m =>
    obtain ⟨o, ho, hg, hdr⟩ := hget i (by omega)
    have hsl := (hok o ho).sl
    by_cases hgo : t ≤ 16777216
    · rw [hdr, muchS, if_pos hgo] at hm
      obtain ⟨k, d, n, neg, s, x⟩ := o
      simp only [OpS.pv] at *
      have W := cj Int.toNat_natCast hg
      refine walk1 ?_
      exact Again.mk m [(4, .int .i64 ((i + 1 : Nat) : Int)), (3, .int .i64 ((t + s.length : Nat) : Int)), (0, .list 6 L)] ⟨0, [], [], []⟩ (by omega) (Sub.norm ⟨rfl, rfl, rfl, trivial⟩ trivial (Nat.zero_le _) rfl rfl rfl rfl) ⟨i + 1, _, by omega, by omega, hm, rfl, rfl⟩
    · rw [muchS_stop hgo] at hm
      rw [← hm]
      clear hm
      repeat' first
        | (simp only [Int.toNat_natCast])
        | (with_reducible first | refine PW.seq ?_ | refine PW.block ?_ | refine PW.fork ?_ | refine PW.skip ?_ | refine PW.exit ?_ | refine PW.ret ?_ | refine PW.scope ?_ | refine PW.label ?_ | refine PW.goto ?_)
        | (with_reducible refine PW.region ttOk ?_ ?_
           · rfl)
        | (with_reducible refine PW.regionD ttOk mixed ?_ ?_ ?_
           · rfl
           · rfl)
        | (with_reducible refine ifW_dec (fun g => ?_) (fun g => ?_) <;> first | (exfalso; omega) | (simp -dsimp only [g, wkI]))
        | (with_reducible refine condE_dec (fun g => ?_) (fun g => ?_) <;> try (exfalso; omega))
        | (with_reducible refine condE_not (fun g => ?_) (fun g => ?_) <;> try (exfalso; omega))
        | (simp -dsimp only [↓wkA, ↓wkE, ↓wkJ, wkB, ↓tt, Nat.reduceBEq, Nat.reduceEqDiff, ↓reduceIte, Nat.reduceLT, Array.toList, Nat.reduceAdd, Nat.reduceMul, Int.reduceToNat, Int.reducePow, UInt8.reduceToNat])
        | (simp -dsimp (disch := first | assumption | omega) only [dec_t, dec_f])
        | (refine andI ?_)
        | (simp (disch := omega) only [wkW, Int.reduceToNat, Int.reducePow])
        | fail
      all_goals (refine congrArg PV.bool ?_; first | rfl | exact (decide_eq_true (by omega)).symm)
theorem bnd_form (d : Nat) : ∃ l u h v cl e, bndP d = .tup [decP false l u, decP false h v, .bool cl, .int .i64 e] := by
  unfold bndP
  split
  · exact ⟨_, _, _, _, _, _, rfl⟩
  · split <;> exact ⟨_, _, _, _, _, _, rfl⟩
theorem plays_digits (d n : Int) (neg a : Bool) (s t : List Int) (x y e : Int) (h1 : Meets Tryz.prog 13 [.int .u64 d] (.tup [decP a t y, .int .i64 e])) (h2 : Meets Tryz.prog 16 [.int .u64 d] (.tup [decP a t y, .int .i64 e])) :
    Meets Tryz.prog 10 [.agg [.int .i64 1, .int .u64 d, .int .i64 n, .bool neg, .str s, .int .i64 x]] (.bool true) := by
  refine meets_by ttOk Tryz.func10 Tryz.ntmps10 Tryz.results10 (by kernel_rfl) (c := _) rfl rfl rfl fun E => ?_
  simp only [argsFrame]
  exact walk
theorem plays_within (d n : Int) (neg a ok : Bool) (s t : List Int) (x y e : Int) (h1 : Meets Tryz.prog 14 [.int .u64 d, .int .i64 n] (.tup [decP a t y, .bool ok, .int .i64 e])) (h2 : Meets Tryz.prog 17 [.int .u64 d, .int .i64 n] (.tup [decP a t y, .bool ok, .int .i64 e])) :
    Meets Tryz.prog 10 [.agg [.int .i64 2, .int .u64 d, .int .i64 n, .bool neg, .str s, .int .i64 x]] (.bool true) := by
  refine meets_by ttOk Tryz.func10 Tryz.ntmps10 Tryz.results10 (by kernel_rfl) (c := _) rfl rfl rfl fun E => ?_
  simp only [argsFrame]
  exact walk
theorem plays_bounds (d n : Int) (neg cl : Bool) (s l h : List Int) (x u v e : Int) (h1 : Meets Tryz.prog 18 [.int .u64 d] (.tup [decP false l u, decP false h v, .bool cl, .int .i64 e])) (h2 : Meets Tryz.prog 19 [.int .u64 d] (.tup [decP false l u, decP false h v, .bool cl, .int .i64 e])) :
    Meets Tryz.prog 10 [.agg [.int .i64 3, .int .u64 d, .int .i64 n, .bool neg, .str s, .int .i64 x]] (.bool true) := by
  refine meets_by ttOk Tryz.func10 Tryz.ntmps10 Tryz.results10 (by kernel_rfl) (c := _) rfl rfl rfl fun E => ?_
  simp only [argsFrame]
  exact walk
theorem plays_holds (d n : Int) (neg ok : Bool) (s : List Int) (x e : Int) (h1 : Meets Tryz.prog 15 [decP neg s x, .int .u64 d] (.tup [.bool ok, .int .i64 e])) (h2 : Meets Tryz.prog 20 [decP neg s x, .int .u64 d] (.tup [.bool ok, .int .i64 e])) :
    Meets Tryz.prog 10 [.agg [.int .i64 4, .int .u64 d, .int .i64 n, .bool neg, .str s, .int .i64 x]] (.bool true) := by
  refine meets_by ttOk Tryz.func10 Tryz.ntmps10 Tryz.results10 (by kernel_rfl) (c := _) rfl rfl rfl fun E => ?_
  simp only [argsFrame]
  repeat' first
    | (with_reducible first | refine PW.seq ?_ | refine PW.block ?_ | refine PW.fork ?_ | refine PW.skip ?_ | refine PW.exit ?_ | refine PW.ret ?_ | refine PW.scope ?_ | refine PW.label ?_ | refine PW.goto ?_)
    | (simp only [eq_self_iff_true, decide_true])
    | (with_reducible refine PW.region ttOk ?_ ?_
       · rfl)
    | (with_reducible refine PW.regionD ttOk mixed ?_ ?_ ?_
       · rfl
       · rfl)
    | (with_reducible refine ifW_dec (fun g => ?_) (fun g => ?_) <;> first | (exfalso; omega) | (simp -dsimp only [g, wkI]))
    | (with_reducible refine condE_dec (fun g => ?_) (fun g => ?_) <;> try (exfalso; omega))
    | (with_reducible refine condE_not (fun g => ?_) (fun g => ?_) <;> try (exfalso; omega))
    | (simp -dsimp only [↓wkA, ↓wkE, ↓wkJ, wkB, ↓tt, Nat.reduceBEq, Nat.reduceEqDiff, ↓reduceIte, Nat.reduceLT, Array.toList, Nat.reduceAdd, Nat.reduceMul, Int.reduceToNat, Int.reducePow, UInt8.reduceToNat])
    | (refine call_by h1 (views_data rfl) ⟨⟨trivial, trivial, trivial, trivial⟩, trivial, trivial⟩ rfl ?_)
    | (refine call_by h2 (views_data rfl) ⟨⟨trivial, trivial, trivial, trivial⟩, trivial, trivial⟩ rfl ?_)
    | (simp -dsimp (disch := first | assumption | omega) only [dec_t, dec_f])
    | (refine andI ?_)
    | (simp (disch := omega) only [wkW, Int.reduceToNat, Int.reducePow])
    | fail
theorem plays_text (d n : Int) (neg : Bool) (s t : List Int) (x : Int) (h1 : Meets Tryz.prog 11 [.int .u64 d] (.str t)) (h2 : Meets Tryz.prog 12 [.int .u64 d] (.str t)) :
    Meets Tryz.prog 10 [.agg [.int .i64 5, .int .u64 d, .int .i64 n, .bool neg, .str s, .int .i64 x]] (.bool true) := by
  refine meets_by ttOk Tryz.func10 Tryz.ntmps10 Tryz.results10 (by kernel_rfl) (c := _) rfl rfl rfl fun E => ?_
  simp only [argsFrame]
  exact walk
theorem plays_else (k d n : Int) (neg : Bool) (s : List Int) (x : Int) (h1 : ¬ k = 1) (h2 : ¬ k = 2) (h3 : ¬ k = 3) (h4 : ¬ k = 4) (h5 : ¬ k = 5) :
    Meets Tryz.prog 10 [.agg [.int .i64 k, .int .u64 d, .int .i64 n, .bool neg, .str s, .int .i64 x]] (.bool true) := by
  have d1 := decide_eq_false h1
  have d2 := decide_eq_false h2
  have d3 := decide_eq_false h3
  have d4 := decide_eq_false h4
  have d5 := decide_eq_false h5
  refine meets_by ttOk Tryz.func10 Tryz.ntmps10 Tryz.results10 (by kernel_rfl) (c := _) rfl rfl rfl fun E => ?_
  simp only [argsFrame]
  have W := cj d1 (cj d2 (cj d3 (cj d4 d5)))
  exact walk
theorem law12_plays (o : OpS) (ho : o.Ok) : Meets Tryz.prog 10 [o.pv] (.bool true) := by
  obtain ⟨k, d, n, neg, s, x⟩ := o
  obtain ⟨⟨hd0, hd⟩, hsl⟩ := ho
  simp only at hd0 hd hsl
  obtain ⟨d, rfl⟩ := Int.eq_ofNat_of_zero_le hd0
  have hd : d < 18446744073709551616 := by omega
  unfold OpS.pv
  by_cases h1 : k = 1
  · obtain ⟨a, t, y, e, g1, g2⟩ := digits_both d hd
    rw [h1]
    exact plays_digits _ n neg a s t x y e g1 g2
  by_cases h2 : k = 2
  · obtain ⟨a, t, y, ok, e, g1, g2⟩ := withins d hd n
    rw [h2]
    exact plays_within _ n neg a ok s t x y e g1 g2
  by_cases h3 : k = 3
  · obtain ⟨l, u, h, v, cl, e, he⟩ := bnd_form d
    have g1 := short_bounds d hd
    have g2 := ref12_bounds d hd
    rw [he] at g1 g2
    rw [h3]
    exact plays_bounds _ n neg cl s l h x u v e g1 g2
  by_cases h4 : k = 4
  · obtain ⟨b, e, g1, g2⟩ := holds_both neg s x (by omega) d hd
    rw [h4]
    exact plays_holds _ n neg b s x e g1 g2
  by_cases h5 : k = 5
  · obtain ⟨t, g1, g2⟩ := texts d hd
    rw [h5]
    exact plays_text _ n neg s t x g1 g2
  exact plays_else k d n neg s x h1 h2 h3 h4 h5
theorem law12_upto (ops : List OpS) (hok : ∀ o ∈ ops, o.Ok) (hn : ops.length ≤ 140737488351232) : Meets Tryz.prog 5 [.list 6 (ops.map OpS.pv), .int .i64 1, .int .i64 5] (.bool true) := by
  have hmu := law12_much ops hok hn
  have haw := law12_awake
  refine meets_by ttOk Tryz.func5 Tryz.ntmps5 Tryz.results5 (by kernel_rfl) (c := _) rfl rfl rfl fun E => ?_
  simp only [argsFrame]
  have hget : ∀ i, i < ops.length → ∃ o ∈ ops, (ops.map OpS.pv).getD i .undef = o.pv ∧ ops.drop i = o :: ops.drop (i + 1) := fun i h => opS_get h
  have hlen : (ops.map OpS.pv).length = ops.length := List.length_map ..
  generalize ops.map OpS.pv = L at *
  obtain ⟨q, hq⟩ : ∃ q, muchS ops 0 = q := ⟨_, rfl⟩
  rw [hq] at hmu
  clear hq
  cases q
  all_goals
    repeat' first
      | (with_reducible first | refine PW.seq ?_ | refine PW.block ?_ | refine PW.fork ?_ | refine PW.skip ?_ | refine PW.exit ?_ | refine PW.ret ?_ | refine PW.scope ?_ | refine PW.label ?_ | refine PW.goto ?_)
      | (with_reducible refine PW.region ttOk ?_ ?_
         · rfl)
      | (with_reducible refine PW.regionD ttOk mixed ?_ ?_ ?_
         · rfl
         · rfl)
      | (with_reducible refine ifW_dec (fun g => ?_) (fun g => ?_) <;> first | (exfalso; omega) | (simp -dsimp only [g, wkI]))
      | (with_reducible refine condE_dec (fun g => ?_) (fun g => ?_) <;> try (exfalso; omega))
      | (with_reducible refine condE_not (fun g => ?_) (fun g => ?_) <;> try (exfalso; omega))
      | (simp -dsimp only [↓wkA, ↓wkE, ↓wkJ, wkB, ↓tt, Nat.reduceBEq, Nat.reduceEqDiff, ↓reduceIte, Nat.reduceLT, Array.toList, Nat.reduceAdd, Nat.reduceMul, Int.reduceToNat, Int.reducePow, UInt8.reduceToNat])
      | (refine call_by (haw) (views_data rfl) trivial rfl ?_)
      | (refine call_by (hmu) (views_data rfl) ⟨trivial, trivial⟩ rfl ?_)
      | (simp -dsimp (disch := first | assumption | omega) only [dec_t, dec_f])
      | (refine andI ?_)
      | (simp (disch := omega) only [wkW, Int.reduceToNat, Int.reducePow])
      | fail
  refine PW.loopA (fun m F H => ∃ i, i + m = L.length ∧ F = [(8, .int .i64 (i : Int)), (7, .bool true), (0, .list 6 L), (1, .int .i64 1), (2, .int .i64 5)] ∧ H = ⟨0, [], [], []⟩) L.length [(8, .int .i64 ((0 : Nat) : Int)), (7, .bool true), (0, .list 6 L), (1, .int .i64 1), (2, .int .i64 5)] ⟨0, [], [], []⟩ (Sub.norm ⟨rfl, rfl, rfl, rfl, rfl, trivial⟩ trivial (Nat.zero_le _) rfl rfl rfl rfl) ⟨0, by omega, rfl, rfl⟩ ?_
  rintro m F H ⟨i, hi, rfl, rfl⟩
  cases m with
  | zero =>
    obtain rfl : i = L.length := by omega
    exact walk
  | succ m =>
    obtain ⟨o, ho, hg, _⟩ := hget i (by omega)
    have hp := law12_plays o (hok o ho)
    obtain ⟨k, d, n, neg, s, x⟩ := o
    simp only [OpS.pv] at *
    repeat' first
      | (simp only [Int.toNat_natCast, hg])
      | (with_reducible first | refine PW.seq ?_ | refine PW.block ?_ | refine PW.fork ?_ | refine PW.skip ?_ | refine PW.exit ?_ | refine PW.ret ?_ | refine PW.scope ?_ | refine PW.label ?_ | refine PW.goto ?_)
      | (with_reducible refine PW.region ttOk ?_ ?_
         · rfl)
      | (with_reducible refine PW.regionD ttOk mixed ?_ ?_ ?_
         · rfl
         · rfl)
      | (with_reducible refine ifW_dec (fun g => ?_) (fun g => ?_) <;> first | (exfalso; omega) | (simp -dsimp only [g, wkI]))
      | (with_reducible refine condE_dec (fun g => ?_) (fun g => ?_) <;> try (exfalso; omega))
      | (with_reducible refine condE_not (fun g => ?_) (fun g => ?_) <;> try (exfalso; omega))
      | (simp -dsimp only [↓wkA, ↓wkE, ↓wkJ, wkB, ↓tt, Nat.reduceBEq, Nat.reduceEqDiff, ↓reduceIte, Nat.reduceLT, Array.toList, Nat.reduceAdd, Nat.reduceMul, Int.reduceToNat, Int.reducePow, UInt8.reduceToNat])
      | (refine call_by (hp) (views_data rfl) (by simp only [okViews, okView, okViews0, okView0, and_self]) rfl ?_)
      | (simp -dsimp (disch := first | assumption | omega) only [dec_t, dec_f])
      | (refine andI ?_)
      | (simp (disch := omega) only [wkW, Int.reduceToNat, Int.reducePow])
      | fail
    all_goals exact Again.mk m [(8, .int .i64 ((i + 1 : Nat) : Int)), (7, .bool true), (0, .list 6 L), (1, .int .i64 1), (2, .int .i64 5)] ⟨0, [], [], []⟩ (by omega) (Sub.norm ⟨rfl, rfl, rfl, rfl, rfl, trivial⟩ trivial (Nat.zero_le _) rfl rfl rfl rfl) ⟨i + 1, by omega, rfl, rfl⟩
theorem shortest_all (ops : List OpS) (hok : ∀ o ∈ ops, o.Ok) (hn : ops.length ≤ 140737488351232) : Meets Tryz.prog 3 [.list 6 (ops.map OpS.pv)] (.bool true) := by
  have h := law12_upto ops hok hn
  generalize ops.map OpS.pv = L at *
  refine meets_by ttOk Tryz.func3 Tryz.ntmps3 Tryz.results3 (by kernel_rfl) (c := _) rfl rfl rfl fun E => ?_
  simp only [argsFrame]
  exact walk
theorem typed_opS : Typed Tryz.prog 33 opSS :=
  .struct [[.int .i64], [.int .u64], [.int .i64], decS] Tryz.underlying33 rfl (by kernel_rfl)
    (fun i f h => by
      match i, h with
      | 0, h => cases h; exact .int (by kernel_rfl)
      | 1, h => cases h; exact .int (by kernel_rfl)
      | 2, h => cases h; exact .int (by kernel_rfl)
      | 3, h => cases h; exact typed_dec
      | i + 4, h => simp at h)
    (fun i f h => by
      match i, h with
      | 0, h => cases h; exact ⟨rfl, by kernel_rfl⟩
      | 1, h => cases h; exact ⟨rfl, by kernel_rfl⟩
      | 2, h => cases h; exact ⟨rfl, by kernel_rfl⟩
      | 3, h => cases h; exact ⟨rfl, by kernel_rfl⟩
      | i + 4, h => simp at h)
theorem typed_opsS : Typed Tryz.prog 22 [.rows true 56 opSS] := .rows true Tryz.underlying22 typed_opS (by kernel_rfl) (by kernel_rfl) (by decide) (fun h => by cases h)
end Go.Proofs.YtmoilbeomnapfaaGreatDoor

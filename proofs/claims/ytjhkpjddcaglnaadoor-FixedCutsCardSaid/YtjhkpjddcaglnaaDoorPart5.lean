/- Contracts and laws that the row leans on, part 5: texts that were built one by one, laid together. -/
import Derived.Test.YtjhkpjddcaglnaaDoorPart4
import Derived.Shelf.Spec.BitsCarry
set_option linter.unusedVariables false
set_option linter.unusedSimpArgs false
namespace Go.Proofs.YtjhkpjddcaglnaaDoor
open Go Go.PV

/-- What a byte is worth as a digit. -/
def worth (c : Int) : Int := if 48 ≤ c ∧ c ≤ 57 then c - 48 else if 97 ≤ c ∧ c ≤ 122 then c - 87 else if 65 ≤ c ∧ c ≤ 90 then c - 55 else 36

theorem numeral_worth (c : Int) (hc : 0 ≤ c ∧ c < 256) : Meets Tryd.prog 62 [.int .u8 c] (.int .i64 (worth c)) := by
  refine meets_by ttOk Tryd.func62 Tryd.ntmps62 Tryd.results62 (by kernel_rfl) (c := _) rfl rfl rfl fun E => ?_
  simp only [argsFrame]
  repeat' first
    | (simp (disch := omega) only [wkW, Int.reduceToNat, Int.reducePow])
    | (with_reducible first | refine PW.seq ?_ | refine PW.block ?_ | refine PW.fork ?_ | refine PW.skip ?_ | refine PW.exit ?_ | refine PW.ret ?_)
    | (with_reducible refine PW.region ttOk ?_ ?_
       · rfl)
    | (with_reducible refine PW.regionD ttOk mixed ?_ ?_ ?_
       · rfl
       · rfl)
    | (with_reducible refine ifW_dec (fun g => ?_) (fun g => ?_) <;> first | (exfalso; omega) | (simp -dsimp only [g, wkI]))
    | (with_reducible refine condE_dec (fun g => ?_) (fun g => ?_) <;> try (exfalso; omega))
    | (with_reducible refine condE_not (fun g => ?_) (fun g => ?_) <;> try (exfalso; omega))
    | (simp -dsimp only [↓wkA, ↓wkE, wkB, ↓tt, Nat.reduceBEq, Nat.reduceEqDiff, ↓reduceIte, Nat.reduceLT, Array.toList, Nat.reduceAdd, Nat.reduceMul, Int.reduceToNat, Int.reducePow, UInt8.reduceToNat])
    | (simp -dsimp (disch := first | assumption | omega) only [dec_t, dec_f])
    | (refine And.intro ?_ ?_
       · first | omega | decide | (simp (disch := omega) only [wkW, Int.reduceToNat, Int.reducePow] <;> omega) | (simp <;> omega))
    | (simp (disch := omega) only [wkW, Int.reduceToNat, Int.reducePow])
    | fail
  all_goals
    refine congrArg _ ?_
    unfold worth
    repeat' split
    all_goals omega

theorem worth_nonneg (c : Int) : 0 ≤ worth c := by
  unfold worth
  repeat' split
  all_goals omega
theorem worth_le (c : Int) : worth c ≤ 36 := by
  unfold worth
  repeat' split
  all_goals omega

/-- The number that digits write, the highest first. -/
def numN (b : Nat) (s : List Int) : Nat → Nat
  | 0 => 0
  | i + 1 => numN b s i * b + (worth (s.getD i 0)).toNat
def num (b : Nat) (s : List Int) : Nat := numN b s s.length

theorem numN_mono (b : Nat) (hb : 1 ≤ b) (s : List Int) (i : Nat) : ∀ d, numN b s i ≤ numN b s (i + d)
  | 0 => Nat.le_refl _
  | d + 1 => by
    have := numN_mono b hb s i d
    rw [show i + (d + 1) = (i + d) + 1 by omega]
    simp only [numN]
    have h2 : numN b s (i + d) * 1 ≤ numN b s (i + d) * b := Nat.mul_le_mul_left _ hb
    omega

/-- The limbs of a number, no high zero among them. -/
def natL (v : Nat) : List Int := (digs 18446744073709551616 v).map fun (d : Nat) => (d : Int)
def Nrm (a : List Int) : Prop := a.length ≠ 0 → B64 ^ (a.length - 1) ≤ val a

theorem vt_cons (x : Int) (l : List Int) : ∀ n, vt (x :: l) (n + 1) = x + B64 * vt l n
  | 0 => by simp [vt]
  | n + 1 => by
    have ih := vt_cons x l n
    have e1 : vt (x :: l) (n + 1 + 1) = vt (x :: l) (n + 1) + B64 ^ (n + 1) * (x :: l).getD (n + 1) 0 := rfl
    have e2 : vt l (n + 1) = vt l n + B64 ^ n * l.getD n 0 := rfl
    rw [e1, e2, ih, Int.pow_succ, List.getD_cons_succ]
    grind

theorem val_cons (x : Int) (l : List Int) : val (x :: l) = x + B64 * val l := vt_cons x l l.length

theorem natL_val {a : List Int} (ha : Limbs a) (hn : Nrm a) : a = natL (val a).toNat := by
  induction a with
  | nil => simp [val, vt, natL, digs_zero]
  | cons x l ih =>
    have hx := ha x (by simp)
    have hl : Limbs l := fun y hy => ha y (by simp [hy])
    have hlv := vt_bound hl l.length
    have hv := val_cons x l
    have h1 := hn (by simp)
    have hnl : Nrm l := fun h0 => by
      simp only [List.length_cons, Nat.add_sub_cancel] at h1
      obtain ⟨m, hm⟩ : ∃ m, l.length = m + 1 := ⟨l.length - 1, by omega⟩
      rw [hm, Int.pow_succ, hv] at h1
      rw [hm, Nat.add_sub_cancel]
      simp only [B64] at h1 ⊢
      omega
    have e := ih hl hnl
    have hvn : 0 ≤ val l := hlv.1
    have hne : (val (x :: l)).toNat ≠ 0 := by
      have : 0 < B64 ^ ((x :: l).length - 1) := pow_pos64 _
      omega
    have hm : (val (x :: l)).toNat % 18446744073709551616 = x.toNat := by rw [hv]; simp only [B64]; omega
    have hd : (val (x :: l)).toNat / 18446744073709551616 = (val l).toNat := by rw [hv]; simp only [B64]; omega
    unfold natL at e ⊢
    rw [digs_step (b := 18446744073709551616) (by decide) hne, hm, hd, List.map_cons, ← e]
    congr 1
    omega

theorem nrm_of_top {a : List Int} (ha : Limbs a) (h : a.length ≠ 0 → a.getD (a.length - 1) 0 ≠ 0) : Nrm a := by
  intro h0
  obtain ⟨m, hm⟩ : ∃ m, a.length = m + 1 := ⟨a.length - 1, by omega⟩
  have h1 := h h0
  rw [hm, Nat.add_sub_cancel] at h1 ⊢
  have h2 := getD_limb ha m
  have h3 := vt_bound ha m
  have h4 : B64 ^ m * 1 ≤ B64 ^ m * a.getD m 0 := Int.mul_le_mul_of_nonneg_left (by omega) (Int.le_of_lt (pow_pos64 m))
  have h5 : val a = vt a m + B64 ^ m * a.getD m 0 := by unfold val; rw [hm]; rfl
  omega

theorem val_trim (a : List Int) : val (trim a) = val a := by
  have h := size_le a
  have hl : (trim a).length = size a := by simp [trim]; omega
  unfold val
  rw [hl]
  refine Eq.trans ?_ (vt_size a)
  exact vt_same _ fun j hj => by simp [trim, List.getD_eq_getElem?_getD, List.getElem?_take, hj]

theorem limbs_trim {a : List Int} (ha : Limbs a) : Limbs (trim a) := limbs_take ha _

theorem nrm_trim {a : List Int} (ha : Limbs a) : Nrm (trim a) := by
  refine nrm_of_top (limbs_trim ha) fun h0 => ?_
  have h := size_le a
  have hl : (trim a).length = size a := by simp [trim]; omega
  rw [hl] at h0 ⊢
  have := sizeN_top a a.length h0
  simp only [trim, List.getD_eq_getElem?_getD, List.getElem?_take] at this ⊢
  rw [if_pos (by omega)]; exact this

theorem trim_eq {a : List Int} (ha : Limbs a) : trim a = natL (val a).toNat := by
  have := natL_val (limbs_trim ha) (nrm_trim ha)
  rwa [val_trim] at this

/-- Multiplication by one limb and addition: the limbs below j are done. -/
structure MulA (a t : List Int) (f p0 : Int) (j : Nat) (p : Int) : Prop where
  len : t.length = a.length
  lim : Limbs t
  high : ∀ i, j ≤ i → t.getD i 0 = a.getD i 0
  car : 0 ≤ p ∧ p < B64
  eq : vt t j + B64 ^ j * p = vt a j * f + p0

theorem MulA.start {a : List Int} {f p0 : Int} (ha : Limbs a) (hp : 0 ≤ p0 ∧ p0 < B64) : MulA a a f p0 0 p0 :=
  ⟨rfl, ha, fun _ _ => rfl, hp, by simp [vt]⟩

theorem MulA.step {a t : List Int} {f p0 p : Int} {j : Nat} (h : MulA a t f p0 j p) (ha : Limbs a) (hj : j < a.length) (hf : 0 < f ∧ f < B64) :
    MulA a (t.set j ((a.getD j 0 * f + p) % B64)) f p0 (j + 1) ((a.getD j 0 * f + p) / B64) := by
  have hx := getD_limb ha j
  have hc := h.car
  have hjt : j < t.length := by rw [h.len]; exact hj
  have hB : (0 : Int) < B64 := by decide
  have hxf : 0 ≤ a.getD j 0 * f := Int.mul_nonneg hx.1 (by omega)
  have hxf2 : a.getD j 0 * f ≤ (B64 - 1) * (B64 - 1) := Int.mul_le_mul (by omega) (by omega) (by omega) (by omega)
  have e := Int.emod_add_mul_ediv (a.getD j 0 * f + p) B64
  have e1 := Int.emod_nonneg (a.getD j 0 * f + p) (show B64 ≠ 0 by decide)
  have e2 := Int.emod_lt_of_pos (a.getD j 0 * f + p) hB
  refine ⟨by rw [List.length_set]; exact h.len, limbs_set h.lim j ⟨e1, e2⟩, fun i hi => ?_, ⟨Int.ediv_nonneg (by omega) (by decide), ?_⟩, ?_⟩
  · rw [getD_set _ _ _ _ hjt, if_neg (by omega)]; exact h.high i (by omega)
  · simp only [B64] at *; omega
  · simp only [vt]
    rw [vt_set_ge _ _ _ _ hjt (Nat.le_refl _), getD_set _ _ _ _ hjt, if_pos rfl, Int.pow_succ]
    have h3 := h.eq
    generalize (a.getD j 0 * f + p) % B64 = r at *
    generalize (a.getD j 0 * f + p) / B64 = q at *
    have e3 : B64 ^ j * r + B64 ^ j * B64 * q = B64 ^ j * (r + B64 * q) := by grind
    rw [Int.add_assoc, e3, e]
    grind
def Bytes' (l : List Int) : Prop := ∀ c ∈ l, 0 ≤ c ∧ c < 256
theorem getD_byte' {l : List Int} (hb : Bytes' l) {i : Nat} (h : i < l.length) : 0 ≤ l.getD i 0 ∧ l.getD i 0 < 256 := by
  rw [List.getD_eq_getElem?_getD, List.getElem?_eq_getElem h]; exact hb _ (List.getElem_mem h)
theorem byteOf_list {l : List Int} (h : Bytes' l) : l.map PV.byteOf = l := by
  refine (List.map_congr_left fun c hc => ?_).trans (List.map_id' l)
  have := h c hc
  unfold PV.byteOf
  omega
end Go.Proofs.YtjhkpjddcaglnaaDoor
set_option linter.unusedVariables false
set_option linter.unusedSimpArgs false
namespace Go.Proofs.YtjhkpjddcaglnaaDoor
open Go Go.PV

abbrev ff1 (s : List Int) (base : Int) (i : Nat) : PV.Frame := [(7, .int .i64 (i : Int)), (0, .str s), (1, .int .i64 base)]
def IFaul (s : List Int) (base : Int) (i0 m : Nat) (F : PV.Frame) (H : PV.Heap) : Prop :=
  ∃ i, i + m = i0 ∧ F = ff1 s base i ∧ H = ⟨0, [], [], []⟩

theorem from_base_bad (s : List Int) (base : Int) (h : base < 2 ∨ 36 < base) : Meets Tryd.prog 33 [.str s, .int .i64 base] (.tup [.nil, .int .i64 0, .int .i64 32]) := by
  refine meets_by ttOk Tryd.func33 Tryd.ntmps33 Tryd.results33 (by kernel_rfl) (c := _) rfl rfl rfl fun E => ?_
  simp only [argsFrame]
  repeat' first
    | (with_reducible first | refine PW.seq ?_ | refine PW.block ?_ | refine PW.fork ?_ | refine PW.skip ?_ | refine PW.exit ?_ | refine PW.ret ?_)
    | (with_reducible refine PW.region ttOk ?_ ?_
       · rfl)
    | (with_reducible refine PW.regionD ttOk mixed ?_ ?_ ?_
       · rfl
       · rfl)
    | (with_reducible refine ifW_dec (fun g => ?_) (fun g => ?_) <;> first | (exfalso; omega) | (simp -dsimp only [g, wkI]))
    | (with_reducible refine condE_dec (fun g => ?_) (fun g => ?_) <;> try (exfalso; omega))
    | (with_reducible refine condE_not (fun g => ?_) (fun g => ?_) <;> try (exfalso; omega))
    | (simp -dsimp only [↓wkA, ↓wkE, wkB, ↓tt, Nat.reduceBEq, Nat.reduceEqDiff, ↓reduceIte, Nat.reduceLT, Array.toList, Nat.reduceAdd, Nat.reduceMul, Int.reduceToNat, Int.reducePow, UInt8.reduceToNat])
    | (simp -dsimp (disch := first | assumption | omega) only [dec_t, dec_f])
    | (refine And.intro ?_ ?_
       · first | omega | decide | (simp (disch := omega) only [wkW, Int.reduceToNat, Int.reducePow] <;> omega) | (simp <;> omega))
    | (simp (disch := omega) only [wkW, Int.reduceToNat, Int.reducePow])
    | fail

theorem from_base_empty (base : Int) (h : ¬ (base < 2 ∨ 36 < base)) : Meets Tryd.prog 33 [.str [], .int .i64 base] (.tup [.nil, .int .i64 0, .int .i64 30]) := by
  refine meets_by ttOk Tryd.func33 Tryd.ntmps33 Tryd.results33 (by kernel_rfl) (c := _) rfl rfl rfl fun E => ?_
  simp only [argsFrame]
  repeat' first
    | (with_reducible first | refine PW.seq ?_ | refine PW.block ?_ | refine PW.fork ?_ | refine PW.skip ?_ | refine PW.exit ?_ | refine PW.ret ?_)
    | (with_reducible refine PW.region ttOk ?_ ?_
       · rfl)
    | (with_reducible refine PW.regionD ttOk mixed ?_ ?_ ?_
       · rfl
       · rfl)
    | (with_reducible refine ifW_dec (fun g => ?_) (fun g => ?_) <;> first | (exfalso; omega) | (simp -dsimp only [g, wkI]))
    | (with_reducible refine condE_dec (fun g => ?_) (fun g => ?_) <;> try (exfalso; omega))
    | (with_reducible refine condE_not (fun g => ?_) (fun g => ?_) <;> try (exfalso; omega))
    | (simp -dsimp only [↓wkA, ↓wkE, wkB, ↓tt, Nat.reduceBEq, Nat.reduceEqDiff, ↓reduceIte, Nat.reduceLT, Array.toList, Nat.reduceAdd, Nat.reduceMul, Int.reduceToNat, Int.reducePow, UInt8.reduceToNat])
    | (simp -dsimp (disch := first | assumption | omega) only [dec_t, dec_f])
    | (refine And.intro ?_ ?_
       · first | omega | decide | (simp (disch := omega) only [wkW, Int.reduceToNat, Int.reducePow] <;> omega) | (simp <;> omega))
    | (simp (disch := omega) only [wkW, Int.reduceToNat, Int.reducePow])
    | fail
  all_goals (exfalso; rename_i g; revert g; decide)

theorem from_base_digit (s : List Int) (hs : Bytes' s) (hsl : s.length ≤ 1000000000000000) (base : Int) (h : ¬ (base < 2 ∨ 36 < base)) (i0 : Nat) (hi0 : i0 < s.length) (hok : ∀ j, j < i0 → worth (s.getD j 0) < base) (hbad : base ≤ worth (s.getD i0 0)) :
    Meets Tryd.prog 33 [.str s, .int .i64 base] (.tup [.nil, .int .i64 (i0 : Int), .int .i64 31]) := by
  refine meets_by ttOk Tryd.func33 Tryd.ntmps33 Tryd.results33 (by kernel_rfl) (c := _) rfl rfl rfl fun E => ?_
  simp only [argsFrame]
  have hne : s ≠ [] := by rintro rfl; simp at hi0
  have hd : decide (s = []) = false := by simp [hne]
  repeat' first
    | (simp only [bytesI_mk, List.map_nil, hd, condE_f])
    | (with_reducible first | refine PW.seq ?_ | refine PW.block ?_ | refine PW.fork ?_ | refine PW.skip ?_ | refine PW.exit ?_ | refine PW.ret ?_)
    | (with_reducible refine PW.region ttOk ?_ ?_
       · rfl)
    | (with_reducible refine PW.regionD ttOk mixed ?_ ?_ ?_
       · rfl
       · rfl)
    | (with_reducible refine ifW_dec (fun g => ?_) (fun g => ?_) <;> first | (exfalso; omega) | (simp -dsimp only [g, wkI]))
    | (with_reducible refine condE_dec (fun g => ?_) (fun g => ?_) <;> try (exfalso; omega))
    | (with_reducible refine condE_not (fun g => ?_) (fun g => ?_) <;> try (exfalso; omega))
    | (simp -dsimp only [↓wkA, ↓wkE, wkB, ↓tt, Nat.reduceBEq, Nat.reduceEqDiff, ↓reduceIte, Nat.reduceLT, Array.toList, Nat.reduceAdd, Nat.reduceMul, Int.reduceToNat, Int.reducePow, UInt8.reduceToNat])
    | (simp -dsimp (disch := first | assumption | omega) only [dec_t, dec_f])
    | (refine And.intro ?_ ?_
       · first | omega | decide | (simp (disch := omega) only [wkW, Int.reduceToNat, Int.reducePow] <;> omega) | (simp <;> omega))
    | (simp (disch := omega) only [wkW, Int.reduceToNat, Int.reducePow])
    | fail
  refine PW.loopA (IFaul s base i0) i0 (ff1 s base 0) ⟨0, [], [], []⟩ (Sub.norm ⟨rfl, rfl, rfl, trivial⟩ trivial (Nat.le_refl _) rfl rfl rfl rfl) ⟨0, by omega, rfl, rfl⟩ ?_
  rintro m F H ⟨i, hi, rfl, rfl⟩
  have hw := numeral_worth (s.getD i 0) (getD_byte' hs (by omega))
  by_cases hlast : i = i0
  · subst hlast
    repeat' first
      | (with_reducible first | refine PW.seq ?_ | refine PW.block ?_ | refine PW.fork ?_ | refine PW.skip ?_ | refine PW.exit ?_ | refine PW.ret ?_)
      | (with_reducible refine PW.region ttOk ?_ ?_
         · rfl)
      | (with_reducible refine PW.regionD ttOk mixed ?_ ?_ ?_
         · rfl
         · rfl)
      | (with_reducible refine ifW_dec (fun g => ?_) (fun g => ?_) <;> first | (exfalso; omega) | (simp -dsimp only [g, wkI]))
      | (with_reducible refine condE_dec (fun g => ?_) (fun g => ?_) <;> try (exfalso; omega))
      | (with_reducible refine condE_not (fun g => ?_) (fun g => ?_) <;> try (exfalso; omega))
      | (simp -dsimp only [↓wkA, ↓wkE, wkB, ↓tt, Nat.reduceBEq, Nat.reduceEqDiff, ↓reduceIte, Nat.reduceLT, Array.toList, Nat.reduceAdd, Nat.reduceMul, Int.reduceToNat, Int.reducePow, UInt8.reduceToNat])
      | (refine call_by hw (views_data rfl) ⟨trivial, trivial⟩ rfl ?_)
      | (simp -dsimp (disch := first | assumption | omega) only [dec_t, dec_f])
      | (refine And.intro ?_ ?_
         · first | omega | decide | (simp (disch := omega) only [wkW, Int.reduceToNat, Int.reducePow] <;> omega) | (simp <;> omega))
      | (simp (disch := omega) only [wkW, Int.reduceToNat, Int.reducePow])
      | fail
  · have := hok i (by omega)
    repeat' first
      | (with_reducible first | refine PW.seq ?_ | refine PW.block ?_ | refine PW.fork ?_ | refine PW.skip ?_ | refine PW.exit ?_ | refine PW.ret ?_)
      | (with_reducible refine PW.region ttOk ?_ ?_
         · rfl)
      | (with_reducible refine PW.regionD ttOk mixed ?_ ?_ ?_
         · rfl
         · rfl)
      | (with_reducible refine ifW_dec (fun g => ?_) (fun g => ?_) <;> first | (exfalso; omega) | (simp -dsimp only [g, wkI]))
      | (with_reducible refine condE_dec (fun g => ?_) (fun g => ?_) <;> try (exfalso; omega))
      | (with_reducible refine condE_not (fun g => ?_) (fun g => ?_) <;> try (exfalso; omega))
      | (simp -dsimp only [↓wkA, ↓wkE, wkB, ↓tt, Nat.reduceBEq, Nat.reduceEqDiff, ↓reduceIte, Nat.reduceLT, Array.toList, Nat.reduceAdd, Nat.reduceMul, Int.reduceToNat, Int.reducePow, UInt8.reduceToNat])
      | (refine call_by hw (views_data rfl) ⟨trivial, trivial⟩ rfl ?_)
      | (simp -dsimp (disch := first | assumption | omega) only [dec_t, dec_f])
      | (refine And.intro ?_ ?_
         · first | omega | decide | (simp (disch := omega) only [wkW, Int.reduceToNat, Int.reducePow] <;> omega) | (simp <;> omega))
      | (simp (disch := omega) only [wkW, Int.reduceToNat, Int.reducePow])
      | fail
    exact Again.mk (m - 1) (ff1 s base (i + 1)) ⟨0, [], [], []⟩ (by omega) (Sub.norm ⟨rfl, rfl, rfl, trivial⟩ trivial (Nat.le_refl _) rfl rfl rfl rfl) ⟨i + 1, by omega, rfl, rfl⟩
end Go.Proofs.YtjhkpjddcaglnaaDoor
set_option linter.unusedVariables false
set_option linter.unusedSimpArgs false
namespace Go.Proofs.YtjhkpjddcaglnaaDoor
open Go Go.PV

abbrev ffO (b k : Nat) (s : List Int) (i n : Nat) : PV.Frame := [(11, .int .i64 (i : Int)), (10, .sl 0 0 n true), (9, .int .i64 (k : Int)), (0, .str s), (1, .int .i64 (b : Int))]
abbrev fhO (a : List Int) : PV.Heap := ⟨1, [(0, .ints .u64 a)], [], []⟩
def FOut (b k : Nat) (s : List Int) (m : Nat) (F : PV.Frame) (H : PV.Heap) : Prop :=
  ∃ i a, i + m = s.length ∧ Limbs a ∧ Nrm a ∧ val a = (numN b s i : Int) ∧ a.length ≤ 4096 ∧ F = ffO b k s i a.length ∧ H = fhO a
def FDig (b k : Nat) (s a : List Int) (i0 m : Nat) (F : PV.Frame) (H : PV.Heap) : Prop :=
  ∃ j part : Nat, j + m = k ∧ i0 + j ≤ s.length ∧ part < b ^ j ∧ numN b s i0 * b ^ j + part = numN b s (i0 + j) ∧
    F = (14, .int .i64 (j : Int)) :: (12, .int .u64 (part : Int)) :: (13, .int .u64 ((b ^ j : Nat) : Int)) :: ffO b k s (i0 + j) a.length ∧ H = fhO a
def FMul (b k : Nat) (s a : List Int) (i : Nat) (f p0 : Int) (m : Nat) (F : PV.Frame) (H : PV.Heap) : Prop :=
  ∃ j t p, j + m = a.length ∧ MulA a t f p0 j p ∧ F = (79, .int .i64 (j : Int)) :: (78, .int .i64 (a.length : Int)) :: (12, .int .u64 p) :: (13, .int .u64 f) :: ffO b k s i a.length ∧ H = fhO t

theorem nrm_bound {a : List Int} (hn : Nrm a) {k : Nat} (h : val a < B64 ^ k) : a.length ≤ k := by
  rcases Nat.lt_or_ge k a.length with h1 | h1
  · exfalso
    have h2 := hn (by omega)
    have h3 := pow_mono64 (show k ≤ a.length - 1 by omega)
    omega
  · exact h1

set_option maxHeartbeats 1000000 in
theorem from_base_main (s : List Int) (hs : Bytes' s) (hsl : s.length ≤ 1000000000000000) (b : Nat) (hb : 2 ≤ b ∧ b ≤ 36) (hne : s ≠ []) (hok : ∀ j, j < s.length → worth (s.getD j 0) < b)
    (R : PV) (hR1 : ((num b s : Nat) : Int) < B64 ^ 4096 → R = .tup [.ints .u64 (natL (num b s)), .int .i64 0, .int .i64 0]) (hR2 : ¬ ((num b s : Nat) : Int) < B64 ^ 4096 → R = .tup [.nil, .int .i64 0, .int .i64 2]) :
    Meets Tryd.prog 33 [.str s, .int .i64 (b : Int)] R := by
  refine meets_by ttOk Tryd.func33 Tryd.ntmps33 Tryd.results33 (by kernel_rfl) (c := _) rfl rfl rfl fun E => ?_
  simp only [argsFrame]
  have hd : decide (s = []) = false := by simp [hne]
  obtain ⟨k, hk1, hk2, hk3, hk4, hk5⟩ := chunk_ex b hb
  have hchunk := numeral_chunk b k hb hk1 hk2 hk3 hk4 hk5
  repeat' first
    | (simp only [bytesI_mk, List.map_nil, hd, condE_f])
    | (with_reducible first | refine PW.seq ?_ | refine PW.block ?_ | refine PW.fork ?_ | refine PW.skip ?_ | refine PW.exit ?_ | refine PW.ret ?_)
    | (with_reducible refine PW.region ttOk ?_ ?_
       · rfl)
    | (with_reducible refine PW.regionD ttOk mixed ?_ ?_ ?_
       · rfl
       · rfl)
    | (with_reducible refine ifW_dec (fun g => ?_) (fun g => ?_) <;> first | (exfalso; omega) | (simp -dsimp only [g, wkI]))
    | (with_reducible refine condE_dec (fun g => ?_) (fun g => ?_) <;> try (exfalso; omega))
    | (with_reducible refine condE_not (fun g => ?_) (fun g => ?_) <;> try (exfalso; omega))
    | (simp -dsimp only [↓wkA, ↓wkE, wkB, ↓tt, Nat.reduceBEq, Nat.reduceEqDiff, ↓reduceIte, Nat.reduceLT, Array.toList, Nat.reduceAdd, Nat.reduceMul, Int.reduceToNat, Int.reducePow, UInt8.reduceToNat])
    | (simp -dsimp (disch := first | assumption | omega) only [dec_t, dec_f])
    | (refine And.intro ?_ ?_
       · first | omega | decide | (simp (disch := omega) only [wkW, Int.reduceToNat, Int.reducePow] <;> omega) | (simp <;> omega))
    | (simp (disch := omega) only [wkW, Int.reduceToNat, Int.reducePow])
    | fail
  refine PW.meetB (fun F H => F = [(0, .str s), (1, .int .i64 (b : Int))] ∧ H = ⟨0, [], [], []⟩) ?_ ?_
  · refine PW.loopA (IFaul s b s.length) s.length (ff1 s b 0) ⟨0, [], [], []⟩ (Sub.norm ⟨rfl, rfl, rfl, trivial⟩ trivial (Nat.le_refl _) rfl rfl rfl rfl) ⟨0, by omega, rfl, rfl⟩ ?_
    rintro m F H ⟨i, hi, rfl, rfl⟩
    by_cases hlast : i = s.length
    · skip
      repeat' first
        | (with_reducible first | refine PW.seq ?_ | refine PW.block ?_ | refine PW.fork ?_ | refine PW.skip ?_ | refine PW.exit ?_ | refine PW.ret ?_)
        | (with_reducible refine PW.region ttOk ?_ ?_
           · rfl)
        | (with_reducible refine PW.regionD ttOk mixed ?_ ?_ ?_
           · rfl
           · rfl)
        | (with_reducible refine ifW_dec (fun g => ?_) (fun g => ?_) <;> first | (exfalso; omega) | (simp -dsimp only [g, wkI]))
        | (with_reducible refine condE_dec (fun g => ?_) (fun g => ?_) <;> try (exfalso; omega))
        | (with_reducible refine condE_not (fun g => ?_) (fun g => ?_) <;> try (exfalso; omega))
        | (simp -dsimp only [↓wkA, ↓wkE, wkB, ↓tt, Nat.reduceBEq, Nat.reduceEqDiff, ↓reduceIte, Nat.reduceLT, Array.toList, Nat.reduceAdd, Nat.reduceMul, Int.reduceToNat, Int.reducePow, UInt8.reduceToNat])
        | (simp -dsimp (disch := first | assumption | omega) only [dec_t, dec_f])
        | (refine And.intro ?_ ?_
           · first | omega | decide | (simp (disch := omega) only [wkW, Int.reduceToNat, Int.reducePow] <;> omega) | (simp <;> omega))
        | (simp (disch := omega) only [wkW, Int.reduceToNat, Int.reducePow])
        | fail
      exact Meet.mk [(0, .str s), (1, .int .i64 (b : Int))] ⟨0, [], [], []⟩ (Sub.norm ⟨rfl, rfl, trivial⟩ trivial (Nat.le_refl _) rfl rfl rfl rfl) ⟨rfl, rfl⟩
    · have := hok i (by omega)
      have hw := numeral_worth (s.getD i 0) (getD_byte' hs (by omega))
      repeat' first
        | (with_reducible first | refine PW.seq ?_ | refine PW.block ?_ | refine PW.fork ?_ | refine PW.skip ?_ | refine PW.exit ?_ | refine PW.ret ?_)
        | (with_reducible refine PW.region ttOk ?_ ?_
           · rfl)
        | (with_reducible refine PW.regionD ttOk mixed ?_ ?_ ?_
           · rfl
           · rfl)
        | (with_reducible refine ifW_dec (fun g => ?_) (fun g => ?_) <;> first | (exfalso; omega) | (simp -dsimp only [g, wkI]))
        | (with_reducible refine condE_dec (fun g => ?_) (fun g => ?_) <;> try (exfalso; omega))
        | (with_reducible refine condE_not (fun g => ?_) (fun g => ?_) <;> try (exfalso; omega))
        | (simp -dsimp only [↓wkA, ↓wkE, wkB, ↓tt, Nat.reduceBEq, Nat.reduceEqDiff, ↓reduceIte, Nat.reduceLT, Array.toList, Nat.reduceAdd, Nat.reduceMul, Int.reduceToNat, Int.reducePow, UInt8.reduceToNat])
        | (refine call_by hw (views_data rfl) ⟨trivial, trivial⟩ rfl ?_)
        | (simp -dsimp (disch := first | assumption | omega) only [dec_t, dec_f])
        | (refine And.intro ?_ ?_
           · first | omega | decide | (simp (disch := omega) only [wkW, Int.reduceToNat, Int.reducePow] <;> omega) | (simp <;> omega))
        | (simp (disch := omega) only [wkW, Int.reduceToNat, Int.reducePow])
        | fail
      exact Again.mk (m - 1) (ff1 s b (i + 1)) ⟨0, [], [], []⟩ (by omega) (Sub.norm ⟨rfl, rfl, rfl, trivial⟩ trivial (Nat.le_refl _) rfl rfl rfl rfl) ⟨i + 1, by omega, rfl, rfl⟩
  rintro F H ⟨rfl, rfl⟩
  repeat' first
    | (with_reducible first | refine PW.seq ?_ | refine PW.block ?_ | refine PW.fork ?_ | refine PW.skip ?_ | refine PW.exit ?_ | refine PW.ret ?_)
    | (with_reducible refine PW.region ttOk ?_ ?_
       · rfl)
    | (with_reducible refine PW.regionD ttOk mixed ?_ ?_ ?_
       · rfl
       · rfl)
    | (with_reducible refine ifW_dec (fun g => ?_) (fun g => ?_) <;> first | (exfalso; omega) | (simp -dsimp only [g, wkI]))
    | (with_reducible refine condE_dec (fun g => ?_) (fun g => ?_) <;> try (exfalso; omega))
    | (with_reducible refine condE_not (fun g => ?_) (fun g => ?_) <;> try (exfalso; omega))
    | (simp -dsimp only [↓wkA, ↓wkE, wkB, ↓tt, Nat.reduceBEq, Nat.reduceEqDiff, ↓reduceIte, Nat.reduceLT, Array.toList, Nat.reduceAdd, Nat.reduceMul, Int.reduceToNat, Int.reducePow, UInt8.reduceToNat])
    | (refine call_by hchunk (views_data rfl) ⟨trivial, trivial⟩ rfl ?_)
    | (simp -dsimp (disch := first | assumption | omega) only [dec_t, dec_f])
    | (refine And.intro ?_ ?_
       · first | omega | decide | (simp (disch := omega) only [wkW, Int.reduceToNat, Int.reducePow] <;> omega) | (simp <;> omega))
    | (simp (disch := omega) only [wkW, Int.reduceToNat, Int.reducePow])
    | fail
  refine PW.meetB (fun F H => ∃ a, Limbs a ∧ Nrm a ∧ val a = (num b s : Int) ∧ a.length ≤ 4096 ∧ F = [(10, .sl 0 0 a.length true)] ∧ H = fhO a) ?_ ?_
  · refine PW.loopA (FOut b k s) s.length (ffO b k s 0 0) (fhO []) (Sub.trans (Sub.nilVar 10 38 .u64 rfl) (Sub.norm ⟨rfl, rfl, rfl, rfl, rfl, trivial⟩ ⟨rfl, trivial⟩ (Nat.le_refl _) rfl rfl rfl rfl)) ⟨0, [], by omega, (fun x hx => by cases hx), (fun h => absurd rfl h), rfl, by simp, rfl, rfl⟩ ?_
    rintro m F H ⟨i, a, hi, haL, haN, hav, hal, rfl, rfl⟩
    by_cases hlast : i = s.length
    · subst hlast
      repeat' first
        | (with_reducible first | refine PW.seq ?_ | refine PW.block ?_ | refine PW.fork ?_ | refine PW.skip ?_ | refine PW.exit ?_ | refine PW.ret ?_)
        | (with_reducible refine PW.region ttOk ?_ ?_
           · rfl)
        | (with_reducible refine PW.regionD ttOk mixed ?_ ?_ ?_
           · rfl
           · rfl)
        | (with_reducible refine ifW_dec (fun g => ?_) (fun g => ?_) <;> first | (exfalso; omega) | (simp -dsimp only [g, wkI]))
        | (with_reducible refine condE_dec (fun g => ?_) (fun g => ?_) <;> try (exfalso; omega))
        | (with_reducible refine condE_not (fun g => ?_) (fun g => ?_) <;> try (exfalso; omega))
        | (simp -dsimp only [↓wkA, ↓wkE, wkB, ↓tt, Nat.reduceBEq, Nat.reduceEqDiff, ↓reduceIte, Nat.reduceLT, Array.toList, Nat.reduceAdd, Nat.reduceMul, Int.reduceToNat, Int.reducePow, UInt8.reduceToNat])
        | (simp -dsimp (disch := first | assumption | omega) only [dec_t, dec_f])
        | (refine And.intro ?_ ?_
           · first | omega | decide | (simp (disch := omega) only [wkW, Int.reduceToNat, Int.reducePow] <;> omega) | (simp <;> omega))
        | (simp (disch := omega) only [wkW, Int.reduceToNat, Int.reducePow])
        | fail
      exact Meet.mk [(10, .sl 0 0 a.length true)] (fhO a) (Sub.norm ⟨rfl, trivial⟩ ⟨rfl, trivial⟩ (Nat.le_refl _) rfl rfl rfl rfl) ⟨a, haL, haN, hav, hal, rfl, rfl⟩
    repeat' first
      | (with_reducible first | refine PW.seq ?_ | refine PW.block ?_ | refine PW.fork ?_ | refine PW.skip ?_ | refine PW.exit ?_ | refine PW.ret ?_)
      | (with_reducible refine PW.region ttOk ?_ ?_
         · rfl)
      | (with_reducible refine PW.regionD ttOk mixed ?_ ?_ ?_
         · rfl
         · rfl)
      | (with_reducible refine ifW_dec (fun g => ?_) (fun g => ?_) <;> first | (exfalso; omega) | (simp -dsimp only [g, wkI]))
      | (with_reducible refine condE_dec (fun g => ?_) (fun g => ?_) <;> try (exfalso; omega))
      | (with_reducible refine condE_not (fun g => ?_) (fun g => ?_) <;> try (exfalso; omega))
      | (simp -dsimp only [↓wkA, ↓wkE, wkB, ↓tt, Nat.reduceBEq, Nat.reduceEqDiff, ↓reduceIte, Nat.reduceLT, Array.toList, Nat.reduceAdd, Nat.reduceMul, Int.reduceToNat, Int.reducePow, UInt8.reduceToNat])
      | (simp -dsimp (disch := first | assumption | omega) only [dec_t, dec_f])
      | (refine And.intro ?_ ?_
         · first | omega | decide | (simp (disch := omega) only [wkW, Int.reduceToNat, Int.reducePow] <;> omega) | (simp <;> omega))
      | (simp (disch := omega) only [wkW, Int.reduceToNat, Int.reducePow])
      | fail
    -- a chunk of digits
    refine PW.meetB (fun F H => ∃ j part : Nat, j ≠ 0 ∧ j ≤ k ∧ i + j ≤ s.length ∧ part < b ^ j ∧ numN b s i * b ^ j + part = numN b s (i + j) ∧ F = (12, .int .u64 (part : Int)) :: (13, .int .u64 ((b ^ j : Nat) : Int)) :: ffO b k s (i + j) a.length ∧ H = fhO a) ?_ ?_
    · refine PW.loopA (FDig b k s a i) k ((14, .int .i64 ((0 : Nat) : Int)) :: (12, .int .u64 ((0 : Nat) : Int)) :: (13, .int .u64 ((b ^ 0 : Nat) : Int)) :: ffO b k s (i + 0) a.length) (fhO a) (Sub.norm ⟨rfl, rfl, rfl, rfl, rfl, rfl, rfl, rfl, trivial⟩ ⟨rfl, trivial⟩ (Nat.le_refl _) rfl rfl rfl rfl) ⟨0, 0, by omega, by omega, by simp, by simp, rfl, rfl⟩ ?_
      rintro m2 F H ⟨j, part, hjm, hjs, hpl, hpe, rfl, rfl⟩
      by_cases hgo : j < k ∧ i + j < s.length
      · have hwj := hok (i + j) (by omega)
        have hw0 := worth_nonneg (s.getD (i + j) 0)
        have hw := numeral_worth (s.getD (i + j) 0) (getD_byte' hs (by omega))
        obtain ⟨d, hd2⟩ := Int.eq_ofNat_of_zero_le hw0
        rw [hd2] at hw hwj
        have hpow : b ^ (j + 1) ≤ b ^ k := Nat.pow_le_pow_right (by omega) (by omega)
        have hps : b ^ (j + 1) = b ^ j * b := Nat.pow_succ b j
        have hpb : part * b + d < b ^ (j + 1) := by
          have : (part + 1) * b ≤ b ^ j * b := Nat.mul_le_mul_right _ (by omega)
          rw [Nat.add_mul] at this
          omega
        have hb64 : IntKind.wrap .u64 (b : Int) = (b : Int) := wrap_u64 (by omega)
        have e1 : ((part : Nat) : Int) * (b : Int) = ((part * b : Nat) : Int) := by simp
        have e2 : ((b ^ j : Nat) : Int) * (b : Int) = ((b ^ (j + 1) : Nat) : Int) := by rw [hps]; simp
        have e3 : ((part * b : Nat) : Int) + (d : Int) = ((part * b + d : Nat) : Int) := by simp
        have w1 : IntKind.wrap .u64 ((part * b : Nat) : Int) = ((part * b : Nat) : Int) := wrap_u64 (by omega)
        have w2 : IntKind.wrap .u64 ((b ^ (j + 1) : Nat) : Int) = ((b ^ (j + 1) : Nat) : Int) := wrap_u64 (by omega)
        have w3 : IntKind.wrap .u64 ((part * b + d : Nat) : Int) = ((part * b + d : Nat) : Int) := wrap_u64 (by omega)
        have w4 : IntKind.wrap .u64 (d : Int) = (d : Int) := wrap_u64 (by omega)
        have e5 : ((i + j : Nat) : Int).toNat = i + j := Int.toNat_natCast _
        repeat' first
          | (simp only [hb64, e1, e2, e3, w1, w2, w3, w4, e5])
          | (with_reducible first | refine PW.seq ?_ | refine PW.block ?_ | refine PW.fork ?_ | refine PW.skip ?_ | refine PW.exit ?_ | refine PW.ret ?_)
          | (with_reducible refine PW.region ttOk ?_ ?_
             · rfl)
          | (with_reducible refine PW.regionD ttOk mixed ?_ ?_ ?_
             · rfl
             · rfl)
          | (with_reducible refine ifW_dec (fun g => ?_) (fun g => ?_) <;> first | (exfalso; omega) | (simp -dsimp only [g, wkI]))
          | (with_reducible refine condE_dec (fun g => ?_) (fun g => ?_) <;> try (exfalso; omega))
          | (with_reducible refine condE_not (fun g => ?_) (fun g => ?_) <;> try (exfalso; omega))
          | (simp -dsimp only [↓wkA, ↓wkE, wkB, ↓tt, Nat.reduceBEq, Nat.reduceEqDiff, ↓reduceIte, Nat.reduceLT, Array.toList, Nat.reduceAdd, Nat.reduceMul, Int.reduceToNat, Int.reducePow, UInt8.reduceToNat])
          | (refine call_by hw (views_data rfl) ⟨trivial, trivial⟩ rfl ?_)
          | (simp -dsimp (disch := first | assumption | omega) only [dec_t, dec_f])
          | (refine And.intro ?_ ?_
             · first | omega | decide | (simp (disch := omega) only [wkW, Int.reduceToNat, Int.reducePow] <;> omega) | (simp <;> omega))
          | (simp (disch := omega) only [wkW, Int.reduceToNat, Int.reducePow])
          | fail
        refine Again.mk (m2 - 1) ((14, .int .i64 ((j + 1 : Nat) : Int)) :: (12, .int .u64 ((part * b + d : Nat) : Int)) :: (13, .int .u64 ((b ^ (j + 1) : Nat) : Int)) :: ffO b k s (i + (j + 1)) a.length) (fhO a) (by omega) (Sub.norm ⟨rfl, rfl, rfl, rfl, rfl, rfl, rfl, rfl, trivial⟩ ⟨rfl, trivial⟩ (Nat.le_refl _) rfl rfl rfl rfl) ⟨j + 1, part * b + d, by omega, by omega, hpb, ?_, rfl, rfl⟩
        rw [show i + (j + 1) = (i + j) + 1 by omega]
        simp only [numN]
        rw [hd2, Int.toNat_natCast, ← hpe, hps]
        grind
      · skip
        repeat' first
          | (with_reducible first | refine PW.seq ?_ | refine PW.block ?_ | refine PW.fork ?_ | refine PW.skip ?_ | refine PW.exit ?_ | refine PW.ret ?_)
          | (with_reducible refine PW.region ttOk ?_ ?_
             · rfl)
          | (with_reducible refine PW.regionD ttOk mixed ?_ ?_ ?_
             · rfl
             · rfl)
          | (with_reducible refine ifW_dec (fun g => ?_) (fun g => ?_) <;> first | (exfalso; omega) | (simp -dsimp only [g, wkI]))
          | (with_reducible refine condE_dec (fun g => ?_) (fun g => ?_) <;> try (exfalso; omega))
          | (with_reducible refine condE_not (fun g => ?_) (fun g => ?_) <;> try (exfalso; omega))
          | (simp -dsimp only [↓wkA, ↓wkE, wkB, ↓tt, Nat.reduceBEq, Nat.reduceEqDiff, ↓reduceIte, Nat.reduceLT, Array.toList, Nat.reduceAdd, Nat.reduceMul, Int.reduceToNat, Int.reducePow, UInt8.reduceToNat])
          | (simp -dsimp (disch := first | assumption | omega) only [dec_t, dec_f])
          | (refine And.intro ?_ ?_
             · first | omega | decide | (simp (disch := omega) only [wkW, Int.reduceToNat, Int.reducePow] <;> omega) | (simp <;> omega))
          | (simp (disch := omega) only [wkW, Int.reduceToNat, Int.reducePow])
          | fail
        all_goals exact Meet.mk ((12, .int .u64 (part : Int)) :: (13, .int .u64 ((b ^ j : Nat) : Int)) :: ffO b k s (i + j) a.length) (fhO a) (Sub.norm ⟨rfl, rfl, rfl, rfl, rfl, rfl, rfl, trivial⟩ ⟨rfl, trivial⟩ (Nat.le_refl _) rfl rfl rfl rfl) ⟨j, part, by omega, by omega, hjs, hpl, hpe, rfl, rfl⟩
    rintro F H ⟨j, part, hj0, hjk, hjs, hpl, hpe, rfl, rfl⟩
    have hf1 : 1 ≤ b ^ j := Nat.pow_pos (by omega)
    have hf2 : b ^ j < 18446744073709551616 := Nat.lt_of_le_of_lt (Nat.pow_le_pow_right (by omega) hjk) hk3
    obtain ⟨f, hf⟩ : ∃ f : Int, ((b ^ j : Nat) : Int) = f := ⟨_, rfl⟩
    have hf0 : 0 < f ∧ f < B64 := by simp only [B64]; omega
    have hf64 := hf0
    simp only [B64] at hf64
    simp only [hf]
    repeat' first
      | (with_reducible first | refine PW.seq ?_ | refine PW.block ?_ | refine PW.fork ?_ | refine PW.skip ?_ | refine PW.exit ?_ | refine PW.ret ?_)
      | (with_reducible refine PW.region ttOk ?_ ?_
         · rfl)
      | (with_reducible refine PW.regionD ttOk mixed ?_ ?_ ?_
         · rfl
         · rfl)
      | (with_reducible refine ifW_dec (fun g => ?_) (fun g => ?_) <;> first | (exfalso; omega) | (simp -dsimp only [g, wkI]))
      | (with_reducible refine condE_dec (fun g => ?_) (fun g => ?_) <;> try (exfalso; omega))
      | (with_reducible refine condE_not (fun g => ?_) (fun g => ?_) <;> try (exfalso; omega))
      | (simp -dsimp only [↓wkA, ↓wkE, wkB, ↓tt, Nat.reduceBEq, Nat.reduceEqDiff, ↓reduceIte, Nat.reduceLT, Array.toList, Nat.reduceAdd, Nat.reduceMul, Int.reduceToNat, Int.reducePow, UInt8.reduceToNat])
      | (simp -dsimp (disch := first | assumption | omega) only [dec_t, dec_f])
      | (refine And.intro ?_ ?_
         · first | omega | decide | (simp (disch := omega) only [wkW, Int.reduceToNat, Int.reducePow] <;> omega) | (simp <;> omega))
      | (simp (disch := omega) only [wkW, Int.reduceToNat, Int.reducePow])
      | fail
    refine PW.meetB (fun F H => ∃ t p, MulA a t f part a.length p ∧ F = (12, .int .u64 p) :: ffO b k s (i + j) a.length ∧ H = fhO t) ?_ ?_
    · refine PW.loopA (FMul b k s a (i + j) f part) a.length ((79, .int .i64 ((0 : Nat) : Int)) :: (78, .int .i64 (a.length : Int)) :: (12, .int .u64 (part : Int)) :: (13, .int .u64 f) :: ffO b k s (i + j) a.length) (fhO a) (Sub.norm ⟨rfl, rfl, rfl, rfl, rfl, rfl, rfl, rfl, rfl, trivial⟩ ⟨rfl, trivial⟩ (Nat.le_refl _) rfl rfl rfl rfl) ⟨0, a, part, by omega, MulA.start haL (by simp only [B64]; omega), rfl, rfl⟩ ?_
      rintro m2 F H ⟨jj, t, p, hjm, hmul, rfl, rfl⟩
      have htl := hmul.len
      have hcar := hmul.car
      by_cases hend : jj = a.length
      · subst hend
        repeat' first
          | (with_reducible first | refine PW.seq ?_ | refine PW.block ?_ | refine PW.fork ?_ | refine PW.skip ?_ | refine PW.exit ?_ | refine PW.ret ?_)
          | (with_reducible refine PW.region ttOk ?_ ?_
             · rfl)
          | (with_reducible refine PW.regionD ttOk mixed ?_ ?_ ?_
             · rfl
             · rfl)
          | (with_reducible refine ifW_dec (fun g => ?_) (fun g => ?_) <;> first | (exfalso; omega) | (simp -dsimp only [g, wkI]))
          | (with_reducible refine condE_dec (fun g => ?_) (fun g => ?_) <;> try (exfalso; omega))
          | (with_reducible refine condE_not (fun g => ?_) (fun g => ?_) <;> try (exfalso; omega))
          | (simp -dsimp only [↓wkA, ↓wkE, wkB, ↓tt, Nat.reduceBEq, Nat.reduceEqDiff, ↓reduceIte, Nat.reduceLT, Array.toList, Nat.reduceAdd, Nat.reduceMul, Int.reduceToNat, Int.reducePow, UInt8.reduceToNat])
          | (simp -dsimp (disch := first | assumption | omega) only [dec_t, dec_f])
          | (refine And.intro ?_ ?_
             · first | omega | decide | (simp (disch := omega) only [wkW, Int.reduceToNat, Int.reducePow] <;> omega) | (simp <;> omega))
          | (simp (disch := omega) only [wkW, Int.reduceToNat, Int.reducePow])
          | fail
        exact Meet.mk ((12, .int .u64 p) :: ffO b k s (i + j) a.length) (fhO t) (Sub.norm ⟨rfl, rfl, rfl, rfl, rfl, rfl, trivial⟩ ⟨rfl, trivial⟩ (Nat.le_refl _) rfl rfl rfl rfl) ⟨t, p, hmul, rfl, rfl⟩
      · have hx := getD_limb haL jj
        have hxt := hmul.high jj (Nat.le_refl _)
        have hstep := hmul.step haL (by omega) hf0
        have hm := mul64 (a.getD jj 0) f hx ⟨by omega, hf0.2⟩
        have hxf : 0 ≤ a.getD jj 0 * f := Int.mul_nonneg hx.1 (by omega)
        have hxf2 : a.getD jj 0 * f ≤ 340282366920938463426481119284349108225 := Int.le_trans (Int.mul_le_mul (show a.getD jj 0 ≤ 18446744073709551615 by simp only [B64] at hx; omega) (show f ≤ 18446744073709551615 by omega) (by omega) (by omega)) (by decide)
        simp only [B64] at hm hcar hx
        repeat' first
          | (simp only [hxt])
          | (with_reducible first | refine PW.seq ?_ | refine PW.block ?_ | refine PW.fork ?_ | refine PW.skip ?_ | refine PW.exit ?_ | refine PW.ret ?_)
          | (with_reducible refine PW.region ttOk ?_ ?_
             · rfl)
          | (with_reducible refine PW.regionD ttOk mixed ?_ ?_ ?_
             · rfl
             · rfl)
          | (with_reducible refine ifW_dec (fun g => ?_) (fun g => ?_) <;> first | (exfalso; omega) | (simp -dsimp only [g, wkI]))
          | (with_reducible refine condE_dec (fun g => ?_) (fun g => ?_) <;> try (exfalso; omega))
          | (with_reducible refine condE_not (fun g => ?_) (fun g => ?_) <;> try (exfalso; omega))
          | (simp -dsimp only [↓wkA, ↓wkE, wkB, ↓tt, Nat.reduceBEq, Nat.reduceEqDiff, ↓reduceIte, Nat.reduceLT, Array.toList, Nat.reduceAdd, Nat.reduceMul, Int.reduceToNat, Int.reducePow, UInt8.reduceToNat])
          | (refine call_by hm (views_data rfl) ⟨trivial, trivial, trivial⟩ rfl ?_)
          | (refine call_by (add64 (by omega) (by omega) (by omega)) (views_data rfl) ⟨trivial, trivial, trivial, trivial⟩ rfl ?_)
          | (simp -dsimp (disch := first | assumption | omega) only [dec_t, dec_f])
          | (refine And.intro ?_ ?_
             · first | omega | decide | (simp (disch := omega) only [wkW, Int.reduceToNat, Int.reducePow] <;> omega) | (simp <;> omega))
          | (simp (disch := omega) only [wkW, Int.reduceToNat, Int.reducePow])
          | fail
        have hs1 : a.getD jj 0 * f / 18446744073709551616 + (a.getD jj 0 * f % 18446744073709551616 + p + 0) / 18446744073709551616 = (a.getD jj 0 * f + p) / B64 := by
          simp only [B64]; omega
        have hs2 : (a.getD jj 0 * f % 18446744073709551616 + p + 0) % 18446744073709551616 = (a.getD jj 0 * f + p) % B64 := by
          simp only [B64]; omega
        rw [hs1, hs2]
        exact Again.mk (m2 - 1) ((79, .int .i64 ((jj + 1 : Nat) : Int)) :: (78, .int .i64 (a.length : Int)) :: (12, .int .u64 ((a.getD jj 0 * f + p) / B64)) :: (13, .int .u64 f) :: ffO b k s (i + j) a.length) (fhO (t.set jj ((a.getD jj 0 * f + p) % B64))) (by omega) (Sub.norm ⟨rfl, rfl, rfl, rfl, rfl, rfl, rfl, rfl, rfl, trivial⟩ ⟨rfl, trivial⟩ (Nat.le_refl _) rfl rfl rfl rfl) ⟨jj + 1, _, _, by omega, hstep, rfl, rfl⟩
    rintro F H ⟨t, p, hmul, rfl, rfl⟩
    have htl := hmul.len
    have hcar := hmul.car
    have heq := hmul.eq
    have hva : vt a a.length = val a := rfl
    have hvt : vt t a.length = val t := by unfold val; rw [htl]
    rw [hva, hvt, hav] at heq
    have hN : (numN b s i : Int) * f + part = (numN b s (i + j) : Int) := by
      rw [← hf, ← hpe]; simp
    rw [hN] at heq
    have hval0 : val a ≤ val a * f := by
      have h1 : 0 ≤ val a := by rw [hav]; omega
      have := Int.mul_le_mul_of_nonneg_left (show 1 ≤ f by omega) h1
      omega
    have hmono := numN_mono b (by omega) s (i + j) (s.length - (i + j))
    rw [show i + j + (s.length - (i + j)) = s.length by omega] at hmono
    have toobig : ∀ l : List Int, Nrm l → val l = (numN b s (i + j) : Int) → 4096 < l.length → R = .tup [.nil, .int .i64 0, .int .i64 2] := by
      intro l hln hlv hll
      refine hR2 fun hsm => ?_
      have h1 := hln (by omega)
      have h2 := pow_mono64 (show 4096 ≤ l.length - 1 by omega)
      unfold num at hsm
      omega
    by_cases hp0 : p = 0
    · subst hp0
      have hvt2 : val t = (numN b s (i + j) : Int) := by rw [← heq]; simp
      have htn : Nrm t := fun h0 => by
        rw [htl] at h0 ⊢
        have := haN h0
        rw [hvt2, ← hN, ← hav]; omega
      rw [← htl]
      repeat' first
        | (with_reducible first | refine PW.seq ?_ | refine PW.block ?_ | refine PW.fork ?_ | refine PW.skip ?_ | refine PW.exit ?_ | refine PW.ret ?_)
        | (with_reducible refine PW.region ttOk ?_ ?_
           · rfl)
        | (with_reducible refine PW.regionD ttOk mixed ?_ ?_ ?_
           · rfl
           · rfl)
        | (with_reducible refine ifW_dec (fun g => ?_) (fun g => ?_) <;> first | (exfalso; omega) | (simp -dsimp only [g, wkI]))
        | (with_reducible refine condE_dec (fun g => ?_) (fun g => ?_) <;> try (exfalso; omega))
        | (with_reducible refine condE_not (fun g => ?_) (fun g => ?_) <;> try (exfalso; omega))
        | (simp -dsimp only [↓wkA, ↓wkE, wkB, ↓tt, Nat.reduceBEq, Nat.reduceEqDiff, ↓reduceIte, Nat.reduceLT, Array.toList, Nat.reduceAdd, Nat.reduceMul, Int.reduceToNat, Int.reducePow, UInt8.reduceToNat])
        | (simp -dsimp (disch := first | assumption | omega) only [dec_t, dec_f])
        | (refine And.intro ?_ ?_
           · first | omega | decide | (simp (disch := omega) only [wkW, Int.reduceToNat, Int.reducePow] <;> omega) | (simp <;> omega))
        | (simp (disch := omega) only [wkW, Int.reduceToNat, Int.reducePow])
        | fail
      exact Again.mk (m - j) (ffO b k s (i + j) t.length) (fhO t) (by omega) (Sub.norm ⟨rfl, rfl, rfl, rfl, rfl, trivial⟩ ⟨rfl, trivial⟩ (Nat.le_refl _) rfl rfl rfl rfl) ⟨i + j, t, by omega, hmul.lim, htn, hvt2, by omega, rfl, rfl⟩
    · have hvt2 : val (t ++ [p]) = (numN b s (i + j) : Int) := by
        rw [← heq]
        unfold val
        rw [List.length_append, List.length_singleton]
        have e1 : vt (t ++ [p]) (t.length + 1) = vt (t ++ [p]) t.length + B64 ^ t.length * (t ++ [p]).getD t.length 0 := rfl
        have e2 : (t ++ [p]).getD t.length 0 = p := by simp [List.getD_eq_getElem?_getD]
        have e3 : vt (t ++ [p]) t.length = vt t t.length := vt_same _ fun j hj => by simp [List.getD_eq_getElem?_getD, List.getElem?_append_left hj]
        rw [e1, e2, e3, htl]
      have htn : Nrm (t ++ [p]) := fun h0 => by
        rw [hvt2, ← heq, List.length_append, List.length_singleton, Nat.add_sub_cancel, htl]
        have h1 := vt_bound hmul.lim t.length
        have h2 : 0 ≤ val t := h1.1
        have h3 : B64 ^ a.length * 1 ≤ B64 ^ a.length * p := Int.mul_le_mul_of_nonneg_left (by omega) (Int.le_of_lt (pow_pos64 _))
        omega
      have htL : Limbs (t ++ [p]) := fun x hx => by
        rcases List.mem_append.1 hx with h | h
        · exact hmul.lim x h
        · rw [List.mem_singleton] at h; subst h; exact hcar
      have htl2 : (t ++ [p]).length = a.length + 1 := by simp [htl]
      rw [← htl]
      have hcar2 := hcar
      simp only [B64] at hcar2
      repeat' first
        | (with_reducible first | refine PW.seq ?_ | refine PW.block ?_ | refine PW.fork ?_ | refine PW.skip ?_ | refine PW.exit ?_ | refine PW.ret ?_)
        | (with_reducible refine PW.region ttOk ?_ ?_
           · rfl)
        | (with_reducible refine PW.regionD ttOk mixed ?_ ?_ ?_
           · rfl
           · rfl)
        | (with_reducible refine ifW_dec (fun g => ?_) (fun g => ?_) <;> first | (exfalso; omega) | (simp -dsimp only [g, wkI]))
        | (with_reducible refine condE_dec (fun g => ?_) (fun g => ?_) <;> try (exfalso; omega))
        | (with_reducible refine condE_not (fun g => ?_) (fun g => ?_) <;> try (exfalso; omega))
        | (simp -dsimp only [↓wkA, ↓wkE, wkB, ↓tt, Nat.reduceBEq, Nat.reduceEqDiff, ↓reduceIte, Nat.reduceLT, Array.toList, Nat.reduceAdd, Nat.reduceMul, Int.reduceToNat, Int.reducePow, UInt8.reduceToNat])
        | (simp -dsimp (disch := first | assumption | omega) only [dec_t, dec_f])
        | (refine And.intro ?_ ?_
           · first | omega | decide | (simp (disch := omega) only [wkW, Int.reduceToNat, Int.reducePow] <;> omega) | (simp <;> omega))
        | (simp (disch := omega) only [wkW, Int.reduceToNat, Int.reducePow])
        | fail
      · exact toobig _ htn hvt2 (by rw [htl2]; omega)
      · exact Again.mk (m - j) (ffO b k s (i + j) (t ++ [p]).length) (fhO (t ++ [p])) (by omega) (Sub.norm ⟨rfl, by simp only [List.length_append, List.length_singleton]; rfl, rfl, rfl, rfl, trivial⟩ ⟨rfl, trivial⟩ (by show 1 ≤ 2; omega) rfl rfl rfl rfl) ⟨i + j, t ++ [p], by omega, htL, htn, hvt2, by omega, rfl, rfl⟩
  · rintro F H ⟨a, haL, haN, hav, hal, rfl, rfl⟩
    have hsm : ((num b s : Nat) : Int) < B64 ^ 4096 := by
      rw [← hav]
      have h1 := vt_bound haL a.length
      have h2 := pow_mono64 hal
      unfold val; omega
    have hnat := natL_val haL haN
    rw [hav, Int.toNat_natCast] at hnat
    rw [hR1 hsm, ← hnat]
    repeat' first
      | (with_reducible first | refine PW.seq ?_ | refine PW.block ?_ | refine PW.fork ?_ | refine PW.skip ?_ | refine PW.exit ?_ | refine PW.ret ?_)
      | (with_reducible refine PW.region ttOk ?_ ?_
         · rfl)
      | (with_reducible refine PW.regionD ttOk mixed ?_ ?_ ?_
         · rfl
         · rfl)
      | (with_reducible refine ifW_dec (fun g => ?_) (fun g => ?_) <;> first | (exfalso; omega) | (simp -dsimp only [g, wkI]))
      | (with_reducible refine condE_dec (fun g => ?_) (fun g => ?_) <;> try (exfalso; omega))
      | (with_reducible refine condE_not (fun g => ?_) (fun g => ?_) <;> try (exfalso; omega))
      | (simp -dsimp only [↓wkA, ↓wkE, wkB, ↓tt, Nat.reduceBEq, Nat.reduceEqDiff, ↓reduceIte, Nat.reduceLT, Array.toList, Nat.reduceAdd, Nat.reduceMul, Int.reduceToNat, Int.reducePow, UInt8.reduceToNat])
      | (exact Nat.le_refl _)
      | (simp -dsimp (disch := first | assumption | omega) only [dec_t, dec_f])
      | (refine And.intro ?_ ?_
         · first | omega | decide | (simp (disch := omega) only [wkW, Int.reduceToNat, Int.reducePow] <;> omega) | (simp <;> omega))
      | (simp (disch := omega) only [wkW, Int.reduceToNat, Int.reducePow])
      | fail
end Go.Proofs.YtjhkpjddcaglnaaDoor
set_option linter.unusedVariables false
set_option linter.unusedSimpArgs false
namespace Go.Proofs.YtjhkpjddcaglnaaDoor
open Go Go.PV

/-- InBase's answer. -/
def inBaseR (a : List Int) (base : Int) (u : Bool) : PV :=
  if 4096 < size a then .tup [.str [], .int .i64 2] else if base < 2 ∨ 36 < base then .tup [.str [], .int .i64 32] else if size a = 0 then .tup [.str [48], .int .i64 0] else .tup [.str (text base.toNat u (val a).toNat), .int .i64 0]

theorem trim_len (a : List Int) : (trim a).length = size a := by
  have := size_le a
  simp [trim]; omega

theorem in_base_err (a : List Int) (hla : a.length ≤ 17592186043904) (base : Int) (hb : -9223372036854775808 ≤ base ∧ base ≤ 9223372036854775807) (u : Bool) (h : 4096 < size a ∨ (base < 2 ∨ 36 < base) ∨ size a = 0) :
    Meets Tryd.prog 71 [.ints .u64 a, .int .i64 base, .bool u] (inBaseR a base u) := by
  refine meets_by ttOk Tryd.func71 Tryd.ntmps71 Tryd.results71 (by kernel_rfl) (c := _) rfl rfl rfl fun E => ?_
  simp only [argsFrame]
  have htl := trim_len a
  unfold inBaseR
  by_cases h1 : 4096 < size a
  · rw [if_pos h1]
    repeat' first
      | (with_reducible first | refine PW.seq ?_ | refine PW.block ?_ | refine PW.fork ?_ | refine PW.skip ?_ | refine PW.exit ?_ | refine PW.ret ?_)
      | (with_reducible refine PW.region ttOk ?_ ?_
         · rfl)
      | (with_reducible refine PW.regionD ttOk mixed ?_ ?_ ?_
         · rfl
         · rfl)
      | (with_reducible refine ifW_dec (fun g => ?_) (fun g => ?_) <;> first | (exfalso; omega) | (simp -dsimp only [g, wkI]))
      | (with_reducible refine condE_dec (fun g => ?_) (fun g => ?_) <;> try (exfalso; omega))
      | (with_reducible refine condE_not (fun g => ?_) (fun g => ?_) <;> try (exfalso; omega))
      | (simp -dsimp only [↓wkA, ↓wkE, wkB, ↓tt, Nat.reduceBEq, Nat.reduceEqDiff, ↓reduceIte, Nat.reduceLT, Array.toList, Nat.reduceAdd, Nat.reduceMul, Int.reduceToNat, Int.reducePow, UInt8.reduceToNat])
      | (refine call_h (nat_trim_h a hla _ _ _ _) (fun res H' hR => ?_); obtain ⟨rfl, rfl⟩ := hR; refine ⟨_, _, rfl, ?_⟩)
      | (simp -dsimp (disch := first | assumption | omega) only [dec_t, dec_f])
      | (refine And.intro ?_ ?_
         · first | omega | decide | (simp (disch := omega) only [wkW, Int.reduceToNat, Int.reducePow] <;> omega) | (simp <;> omega))
      | (simp (disch := omega) only [wkW, Int.reduceToNat, Int.reducePow])
      | fail
  rw [if_neg h1]
  by_cases h2 : base < 2 ∨ 36 < base
  · rw [if_pos h2]
    repeat' first
      | (with_reducible first | refine PW.seq ?_ | refine PW.block ?_ | refine PW.fork ?_ | refine PW.skip ?_ | refine PW.exit ?_ | refine PW.ret ?_)
      | (with_reducible refine PW.region ttOk ?_ ?_
         · rfl)
      | (with_reducible refine PW.regionD ttOk mixed ?_ ?_ ?_
         · rfl
         · rfl)
      | (with_reducible refine ifW_dec (fun g => ?_) (fun g => ?_) <;> first | (exfalso; omega) | (simp -dsimp only [g, wkI]))
      | (with_reducible refine condE_dec (fun g => ?_) (fun g => ?_) <;> try (exfalso; omega))
      | (with_reducible refine condE_not (fun g => ?_) (fun g => ?_) <;> try (exfalso; omega))
      | (simp -dsimp only [↓wkA, ↓wkE, wkB, ↓tt, Nat.reduceBEq, Nat.reduceEqDiff, ↓reduceIte, Nat.reduceLT, Array.toList, Nat.reduceAdd, Nat.reduceMul, Int.reduceToNat, Int.reducePow, UInt8.reduceToNat])
      | (refine call_h (nat_trim_h a hla _ _ _ _) (fun res H' hR => ?_); obtain ⟨rfl, rfl⟩ := hR; refine ⟨_, _, rfl, ?_⟩)
      | (simp -dsimp (disch := first | assumption | omega) only [dec_t, dec_f])
      | (refine And.intro ?_ ?_
         · first | omega | decide | (simp (disch := omega) only [wkW, Int.reduceToNat, Int.reducePow] <;> omega) | (simp <;> omega))
      | (simp (disch := omega) only [wkW, Int.reduceToNat, Int.reducePow])
      | fail
  rw [if_neg h2]
  have h3 : size a = 0 := by omega
  rw [if_pos h3]
  repeat' first
    | (with_reducible first | refine PW.seq ?_ | refine PW.block ?_ | refine PW.fork ?_ | refine PW.skip ?_ | refine PW.exit ?_ | refine PW.ret ?_)
    | (with_reducible refine PW.region ttOk ?_ ?_
       · rfl)
    | (with_reducible refine PW.regionD ttOk mixed ?_ ?_ ?_
       · rfl
       · rfl)
    | (with_reducible refine ifW_dec (fun g => ?_) (fun g => ?_) <;> first | (exfalso; omega) | (simp -dsimp only [g, wkI]))
    | (with_reducible refine condE_dec (fun g => ?_) (fun g => ?_) <;> try (exfalso; omega))
    | (with_reducible refine condE_not (fun g => ?_) (fun g => ?_) <;> try (exfalso; omega))
    | (simp -dsimp only [↓wkA, ↓wkE, wkB, ↓tt, Nat.reduceBEq, Nat.reduceEqDiff, ↓reduceIte, Nat.reduceLT, Array.toList, Nat.reduceAdd, Nat.reduceMul, Int.reduceToNat, Int.reducePow, UInt8.reduceToNat])
    | (refine call_h (nat_trim_h a hla _ _ _ _) (fun res H' hR => ?_); obtain ⟨rfl, rfl⟩ := hR; refine ⟨_, _, rfl, ?_⟩)
    | (simp -dsimp (disch := first | assumption | omega) only [dec_t, dec_f])
    | (refine And.intro ?_ ?_
       · first | omega | decide | (simp (disch := omega) only [wkW, Int.reduceToNat, Int.reducePow] <;> omega) | (simp <;> omega))
    | (simp (disch := omega) only [wkW, Int.reduceToNat, Int.reducePow])
    | fail

abbrev ifO (b k : Nat) (ℓ : List Int) (n r : Nat) : PV.Frame := [(8, .sl 0 0 n true), (9, .str ℓ), (1, .int .i64 (b : Int)), (10, .int .u64 ((b ^ k : Nat) : Int)), (11, .int .i64 (k : Int)), (12, .sl 1 0 r true)]
abbrev ihO (t rev : List Int) : PV.Heap := ⟨2, [(0, .ints .u64 t), (1, .ints .u8 rev)], [], []⟩
/-- The outer loop: what is written, and what is still to be. -/
def IOut (b k : Nat) (ℓ R : List Int) (L : Nat) (m : Nat) (F : PV.Frame) (H : PV.Heap) : Prop :=
  ∃ n t rev, t.length = L ∧ n ≤ L ∧ Limbs t ∧ (n ≠ 0 → t.getD (n - 1) 0 ≠ 0) ∧ rev ++ (digs b (vt t n).toNat).map (fun d => ℓ.getD d 0) = R ∧ (vt t n).toNat = m ∧ F = ifO b k ℓ n rev.length ∧ H = ihO t rev

def IDiv (b k : Nat) (ℓ t rev : List Int) (n L : Nat) (i : Nat) (F : PV.Frame) (H : PV.Heap) : Prop :=
  ∃ t' rest, t'.length = L ∧ DivI t t' n i ((b ^ k : Nat) : Int) rest ∧ i ≤ n ∧ F = (14, .int .i64 ((i : Int) - 1)) :: (13, .int .u64 rest) :: ifO b k ℓ n rev.length ∧ H = ihO t' rev

def ITrim (b k : Nat) (ℓ t rev : List Int) (n : Nat) (T rest : Int) (i : Nat) (F : PV.Frame) (H : PV.Heap) : Prop :=
  i ≤ n ∧ vt t i = T ∧ F = (13, .int .u64 rest) :: ifO b k ℓ i rev.length ∧ H = ihO t rev

def IDig (b k : Nat) (ℓ R t : List Int) (n τ : Nat) (i : Nat) (F : PV.Frame) (H : PV.Heap) : Prop :=
  ∃ (j r : Nat) (rv : List Int), j + i = k ∧ r < b ^ i ∧ rv ++ (digs b (r + b ^ i * τ)).map (fun d => ℓ.getD d 0) = R ∧ F = (15, .int .i64 (j : Int)) :: (13, .int .u64 ((r : Nat) : Int)) :: ifO b k ℓ n rv.length ∧ H = ihO t rv

abbrev ihB (R : List Int) (p : PV) (l : List Int) : PV.Heap := ⟨4, [(1, .ints .u8 R), (2, .var [p, .sl 3 0 l.length true]), (3, .ints .u8 l)], [], [(3, 5), (2, 98)]⟩
def IBuild (R : List Int) (i : Nat) (F : PV.Frame) (H : PV.Heap) : Prop :=
  ∃ p, i ≤ R.length ∧ (p = .nilptr ∨ p = .ptr 2 0 0) ∧ F = [(17, .int .i64 ((i : Int) - 1)), (16, .ptr 2 0 0), (12, .sl 1 0 R.length true)] ∧ H = ihB R p (R.drop i).reverse

set_option exponentiation.threshold 300000 in
set_option maxHeartbeats 2000000 in
theorem in_base_main (a : List Int) (ha : Limbs a) (hla : a.length ≤ 17592186043904) (b : Nat) (hb : 2 ≤ b ∧ b ≤ 36) (u : Bool) (h1 : size a ≤ 4096) (h2 : size a ≠ 0) :
    Meets Tryd.prog 71 [.ints .u64 a, .int .i64 (b : Int), .bool u] (.tup [.str (text b u (val a).toNat), .int .i64 0]) := by
  refine meets_by ttOk Tryd.func71 Tryd.ntmps71 Tryd.results71 (by kernel_rfl) (c := _) rfl rfl rfl fun E => ?_
  simp only [argsFrame]
  have htl := trim_len a
  obtain ⟨k, hk1, hk2, hk3, hk4, hk5⟩ := chunk_ex b hb
  have hchunk := numeral_chunk b k hb hk1 hk2 hk3 hk4 hk5
  repeat' first
    | (with_reducible first | refine PW.seq ?_ | refine PW.block ?_ | refine PW.fork ?_ | refine PW.skip ?_ | refine PW.exit ?_ | refine PW.ret ?_)
    | (with_reducible refine PW.region ttOk ?_ ?_
       · rfl)
    | (with_reducible refine PW.regionD ttOk mixed ?_ ?_ ?_
       · rfl
       · rfl)
    | (with_reducible refine ifW_dec (fun g => ?_) (fun g => ?_) <;> first | (exfalso; omega) | (simp -dsimp only [g, wkI]))
    | (with_reducible refine condE_dec (fun g => ?_) (fun g => ?_) <;> try (exfalso; omega))
    | (with_reducible refine condE_not (fun g => ?_) (fun g => ?_) <;> try (exfalso; omega))
    | (simp -dsimp only [↓wkA, ↓wkE, wkB, ↓tt, Nat.reduceBEq, Nat.reduceEqDiff, ↓reduceIte, Nat.reduceLT, Array.toList, Nat.reduceAdd, Nat.reduceMul, Int.reduceToNat, Int.reducePow, UInt8.reduceToNat])
    | (refine call_h (nat_trim_h a hla _ _ _ _) (fun res H' hR => ?_); obtain ⟨rfl, rfl⟩ := hR; refine ⟨_, _, rfl, ?_⟩)
    | (refine call_by hchunk (views_data rfl) ⟨trivial, trivial⟩ rfl ?_)
    | (simp -dsimp (disch := first | assumption | omega) only [dec_t, dec_f])
    | (refine And.intro ?_ ?_
       · first | omega | decide | (simp (disch := omega) only [wkW, Int.reduceToNat, Int.reducePow] <;> omega) | (simp <;> omega))
    | (simp (disch := omega) only [wkW, Int.reduceToNat, Int.reducePow])
    | fail
  refine condE_meet (fun F H => F = [(8, .sl 0 0 (size a) true), (9, .str (lettersOf u)), (1, .int .i64 (b : Int))] ∧ H = ⟨1, [(0, .ints .u64 (trim a))], [], [(0, 38)]⟩) (fun hu => ?_) (fun hu => ?_) ?_
  · subst hu
    repeat' first
      | (with_reducible first | refine PW.seq ?_ | refine PW.block ?_ | refine PW.fork ?_ | refine PW.skip ?_ | refine PW.exit ?_ | refine PW.ret ?_)
      | (with_reducible refine PW.region ttOk ?_ ?_
         · rfl)
      | (with_reducible refine PW.regionD ttOk mixed ?_ ?_ ?_
         · rfl
         · rfl)
      | (with_reducible refine ifW_dec (fun g => ?_) (fun g => ?_) <;> first | (exfalso; omega) | (simp -dsimp only [g, wkI]))
      | (with_reducible refine condE_dec (fun g => ?_) (fun g => ?_) <;> try (exfalso; omega))
      | (with_reducible refine condE_not (fun g => ?_) (fun g => ?_) <;> try (exfalso; omega))
      | (simp -dsimp only [↓wkA, ↓wkE, wkB, ↓tt, Nat.reduceBEq, Nat.reduceEqDiff, ↓reduceIte, Nat.reduceLT, Array.toList, Nat.reduceAdd, Nat.reduceMul, Int.reduceToNat, Int.reducePow, UInt8.reduceToNat])
      | (simp -dsimp (disch := first | assumption | omega) only [dec_t, dec_f])
      | (refine And.intro ?_ ?_
         · first | omega | decide | (simp (disch := omega) only [wkW, Int.reduceToNat, Int.reducePow] <;> omega) | (simp <;> omega))
      | (simp (disch := omega) only [wkW, Int.reduceToNat, Int.reducePow])
      | fail
    exact Meet.mk [(8, .sl 0 0 (size a) true), (9, .str (lettersOf true)), (1, .int .i64 (b : Int))] ⟨1, [(0, .ints .u64 (trim a))], [], [(0, 38)]⟩ (Sub.norm ⟨rfl, rfl, rfl, trivial⟩ ⟨rfl, trivial⟩ (Nat.le_refl _) rfl rfl rfl rfl (tyOk_spec rfl)) ⟨rfl, rfl⟩
  · subst hu
    repeat' first
      | (with_reducible first | refine PW.seq ?_ | refine PW.block ?_ | refine PW.fork ?_ | refine PW.skip ?_ | refine PW.exit ?_ | refine PW.ret ?_)
      | (with_reducible refine PW.region ttOk ?_ ?_
         · rfl)
      | (with_reducible refine PW.regionD ttOk mixed ?_ ?_ ?_
         · rfl
         · rfl)
      | (with_reducible refine ifW_dec (fun g => ?_) (fun g => ?_) <;> first | (exfalso; omega) | (simp -dsimp only [g, wkI]))
      | (with_reducible refine condE_dec (fun g => ?_) (fun g => ?_) <;> try (exfalso; omega))
      | (with_reducible refine condE_not (fun g => ?_) (fun g => ?_) <;> try (exfalso; omega))
      | (simp -dsimp only [↓wkA, ↓wkE, wkB, ↓tt, Nat.reduceBEq, Nat.reduceEqDiff, ↓reduceIte, Nat.reduceLT, Array.toList, Nat.reduceAdd, Nat.reduceMul, Int.reduceToNat, Int.reducePow, UInt8.reduceToNat])
      | (simp -dsimp (disch := first | assumption | omega) only [dec_t, dec_f])
      | (refine And.intro ?_ ?_
         · first | omega | decide | (simp (disch := omega) only [wkW, Int.reduceToNat, Int.reducePow] <;> omega) | (simp <;> omega))
      | (simp (disch := omega) only [wkW, Int.reduceToNat, Int.reducePow])
      | fail
    exact Meet.mk [(8, .sl 0 0 (size a) true), (9, .str (lettersOf false)), (1, .int .i64 (b : Int))] ⟨1, [(0, .ints .u64 (trim a))], [], [(0, 38)]⟩ (Sub.norm ⟨rfl, rfl, rfl, trivial⟩ ⟨rfl, trivial⟩ (Nat.le_refl _) rfl rfl rfl rfl (tyOk_spec rfl)) ⟨rfl, rfl⟩
  rintro F H ⟨rfl, rfl⟩
  repeat' first
    | (with_reducible first | refine PW.seq ?_ | refine PW.block ?_ | refine PW.fork ?_ | refine PW.skip ?_ | refine PW.exit ?_ | refine PW.ret ?_)
    | (with_reducible refine PW.region ttOk ?_ ?_
       · rfl)
    | (with_reducible refine PW.regionD ttOk mixed ?_ ?_ ?_
       · rfl
       · rfl)
    | (with_reducible refine ifW_dec (fun g => ?_) (fun g => ?_) <;> first | (exfalso; omega) | (simp -dsimp only [g, wkI]))
    | (with_reducible refine condE_dec (fun g => ?_) (fun g => ?_) <;> try (exfalso; omega))
    | (with_reducible refine condE_not (fun g => ?_) (fun g => ?_) <;> try (exfalso; omega))
    | (simp -dsimp only [↓wkA, ↓wkE, wkB, ↓tt, Nat.reduceBEq, Nat.reduceEqDiff, ↓reduceIte, Nat.reduceLT, Array.toList, Nat.reduceAdd, Nat.reduceMul, Int.reduceToNat, Int.reducePow, UInt8.reduceToNat])
    | (refine call_by hchunk (views_data rfl) ⟨trivial, trivial⟩ rfl ?_)
    | (simp -dsimp (disch := first | assumption | omega) only [dec_t, dec_f])
    | (refine And.intro ?_ ?_
       · first | omega | decide | (simp (disch := omega) only [wkW, Int.reduceToNat, Int.reducePow] <;> omega) | (simp <;> omega))
    | (simp (disch := omega) only [wkW, Int.reduceToNat, Int.reducePow])
    | fail
  obtain ⟨ℓ, hℓ⟩ : ∃ ℓ, lettersOf u = ℓ := ⟨_, rfl⟩
  have hℓl : ℓ.length = 36 := by rw [← hℓ]; exact lettersOf_len u
  have hℓb : ∀ x ∈ ℓ, 0 ≤ x ∧ x < 256 := by rw [← hℓ]; exact lettersOf_byte u
  have hval : vt (trim a) (size a) = val a := by
    rw [← vt_size a]; exact vt_same _ fun j hj => by simp [trim, List.getD_eq_getElem?_getD, List.getElem?_take, hj]
  have hlim := limbs_take ha (size a)
  have hV := vt_bound hlim (size a)
  rw [show List.take (size a) a = trim a from rfl, hval] at hV
  have hVlt : (val a).toNat < 2 ^ 262144 := by
    have h3 := pow_mono64 h1
    have e : B64 ^ 4096 = ((2 ^ 262144 : Nat) : Int) := by
      rw [show (262144 : Nat) = 64 * 4096 from rfl, Nat.pow_mul, Int.natCast_pow]; rfl
    omega
  obtain ⟨R, hR⟩ : ∃ R, (digs b (val a).toNat).map (fun d => ℓ.getD d 0) = R := ⟨_, rfl⟩
  have hRl : R.length ≤ 262144 := by
    rw [← hR, List.length_map]; exact digs_len hb.1 _ _ hVlt
  have hRb : ∀ x ∈ R, 0 ≤ x ∧ x < 256 := by
    intro x hx
    rw [← hR] at hx
    obtain ⟨d, hd, rfl⟩ := List.mem_map.1 hx
    have := digs_lt hb.1 _ d hd
    rw [List.getD_eq_getElem?_getD, List.getElem?_eq_getElem (by omega)]
    exact hℓb _ (List.getElem_mem _)
  have hp2 : 2 ≤ b ^ k := Nat.le_trans hb.1 (by simpa using Nat.pow_le_pow_right (show 0 < b by omega) hk1)
  refine PW.meetB (fun F H => F = [(12, .sl 1 0 R.length true)] ∧ H = ⟨2, [(1, .ints .u8 R)], [], []⟩) ?_ ?_
  · refine PW.loopA (IOut b k ℓ R (size a)) (val a).toNat (ifO b k ℓ (size a) 0) (ihO (trim a) []) (Sub.trans (Sub.nilVar 12 5 .u8 rfl) (Sub.norm ⟨rfl, congrArg PV.str hℓ, rfl, rfl, rfl, rfl, trivial⟩ ⟨rfl, rfl, trivial⟩ (Nat.le_refl _) rfl rfl rfl rfl)) ⟨size a, trim a, [], htl, Nat.le_refl _, hlim, fun _ => ?_, ?_, by rw [hval], rfl, rfl⟩ ?_
    · have := sizeN_top a a.length h2
      simp only [trim, List.getD_eq_getElem?_getD, List.getElem?_take] at this ⊢
      rw [if_pos (by omega)]; exact this
    · rw [hval]; exact hR
    rintro m F H ⟨n, t, rev, htl', hn, htL, htop, hrev, hm, rfl, rfl⟩
    by_cases h0 : n = 0
    · subst h0
      have hv0 : vt t 0 = 0 := rfl
      rw [hv0] at hrev
      simp only [Int.toNat_zero, digs_zero, List.map_nil, List.append_nil] at hrev
      subst hrev
      repeat' first
        | (with_reducible first | refine PW.seq ?_ | refine PW.block ?_ | refine PW.fork ?_ | refine PW.skip ?_ | refine PW.exit ?_ | refine PW.ret ?_)
        | (with_reducible refine PW.region ttOk ?_ ?_
           · rfl)
        | (with_reducible refine PW.regionD ttOk mixed ?_ ?_ ?_
           · rfl
           · rfl)
        | (with_reducible refine ifW_dec (fun g => ?_) (fun g => ?_) <;> first | (exfalso; omega) | (simp -dsimp only [g, wkI]))
        | (with_reducible refine condE_dec (fun g => ?_) (fun g => ?_) <;> try (exfalso; omega))
        | (with_reducible refine condE_not (fun g => ?_) (fun g => ?_) <;> try (exfalso; omega))
        | (simp -dsimp only [↓wkA, ↓wkE, wkB, ↓tt, Nat.reduceBEq, Nat.reduceEqDiff, ↓reduceIte, Nat.reduceLT, Array.toList, Nat.reduceAdd, Nat.reduceMul, Int.reduceToNat, Int.reducePow, UInt8.reduceToNat])
        | (simp -dsimp (disch := first | assumption | omega) only [dec_t, dec_f])
        | (refine And.intro ?_ ?_
           · first | omega | decide | (simp (disch := omega) only [wkW, Int.reduceToNat, Int.reducePow] <;> omega) | (simp <;> omega))
        | (simp (disch := omega) only [wkW, Int.reduceToNat, Int.reducePow])
        | fail
      exact Meet.mk [(12, .sl 1 0 rev.length true)] ⟨2, [(1, .ints .u8 rev)], [], []⟩ (Sub.norm ⟨rfl, trivial⟩ ⟨rfl, trivial⟩ (Nat.le_refl _) rfl rfl rfl rfl) ⟨rfl, rfl⟩
    have hVn := vt_bound htL n
    have htn : 0 < vt t n := by
      obtain ⟨n', rfl⟩ : ∃ n', n = n' + 1 := ⟨n - 1, by omega⟩
      have h1 := htop h0
      have h2 := getD_limb htL n'
      rw [show n' + 1 - 1 = n' by omega] at h1
      have h3 := vt_bound htL n'
      have h4 : 0 < B64 ^ n' * t.getD n' 0 := Int.mul_pos (pow_pos64 n') (by omega)
      simp only [vt]; omega
    have hp0 : (0 : Int) < ((b ^ k : Nat) : Int) ∧ ((b ^ k : Nat) : Int) < B64 := by simp only [B64]; omega
    repeat' first
      | (with_reducible first | refine PW.seq ?_ | refine PW.block ?_ | refine PW.fork ?_ | refine PW.skip ?_ | refine PW.exit ?_ | refine PW.ret ?_)
      | (with_reducible refine PW.region ttOk ?_ ?_
         · rfl)
      | (with_reducible refine PW.regionD ttOk mixed ?_ ?_ ?_
         · rfl
         · rfl)
      | (with_reducible refine ifW_dec (fun g => ?_) (fun g => ?_) <;> first | (exfalso; omega) | (simp -dsimp only [g, wkI]))
      | (with_reducible refine condE_dec (fun g => ?_) (fun g => ?_) <;> try (exfalso; omega))
      | (with_reducible refine condE_not (fun g => ?_) (fun g => ?_) <;> try (exfalso; omega))
      | (simp -dsimp only [↓wkA, ↓wkE, wkB, ↓tt, Nat.reduceBEq, Nat.reduceEqDiff, ↓reduceIte, Nat.reduceLT, Array.toList, Nat.reduceAdd, Nat.reduceMul, Int.reduceToNat, Int.reducePow, UInt8.reduceToNat])
      | (simp -dsimp (disch := first | assumption | omega) only [dec_t, dec_f])
      | (refine And.intro ?_ ?_
         · first | omega | decide | (simp (disch := omega) only [wkW, Int.reduceToNat, Int.reducePow] <;> omega) | (simp <;> omega))
      | (simp (disch := omega) only [wkW, Int.reduceToNat, Int.reducePow])
      | fail
    -- division of the limbs
    refine PW.meetB (fun F H => ∃ t', t'.length = size a ∧ Limbs t' ∧ vt t' n = vt t n / ((b ^ k : Nat) : Int) ∧ F = (13, .int .u64 (vt t n % ((b ^ k : Nat) : Int))) :: ifO b k ℓ n rev.length ∧ H = ihO t' rev) ?_ ?_
    · refine PW.loopA (IDiv b k ℓ t rev n (size a)) n ((14, .int .i64 ((n : Int) - 1)) :: (13, .int .u64 0) :: ifO b k ℓ n rev.length) (ihO t rev) (Sub.norm ⟨?_, rfl, rfl, rfl, rfl, rfl, rfl, rfl, trivial⟩ ⟨rfl, rfl, trivial⟩ (Nat.le_refl _) rfl rfl rfl rfl) ⟨t, 0, htl', DivI.start htL hp0.1, Nat.le_refl _, rfl, rfl⟩ ?_
      · simp (disch := omega) only [↓wkA, ↓wkE, wkB, ↓tt, Nat.reduceBEq, Nat.reduceEqDiff, ↓reduceIte, Nat.reduceLT, Array.toList, Nat.reduceAdd, Nat.reduceMul, Int.reduceToNat, Int.reducePow, UInt8.reduceToNat, wkW, Int.reduceToNat, Int.reducePow]
      rintro i F H ⟨t', rest, ht', hdiv, hin, rfl, rfl⟩
      have hrst := hdiv.rst
      cases i with
      | zero =>
        obtain ⟨f1, f2⟩ := hdiv.fin
        repeat' first
          | (with_reducible first | refine PW.seq ?_ | refine PW.block ?_ | refine PW.fork ?_ | refine PW.skip ?_ | refine PW.exit ?_ | refine PW.ret ?_)
          | (with_reducible refine PW.region ttOk ?_ ?_
             · rfl)
          | (with_reducible refine PW.regionD ttOk mixed ?_ ?_ ?_
             · rfl
             · rfl)
          | (with_reducible refine ifW_dec (fun g => ?_) (fun g => ?_) <;> first | (exfalso; omega) | (simp -dsimp only [g, wkI]))
          | (with_reducible refine condE_dec (fun g => ?_) (fun g => ?_) <;> try (exfalso; omega))
          | (with_reducible refine condE_not (fun g => ?_) (fun g => ?_) <;> try (exfalso; omega))
          | (simp -dsimp only [↓wkA, ↓wkE, wkB, ↓tt, Nat.reduceBEq, Nat.reduceEqDiff, ↓reduceIte, Nat.reduceLT, Array.toList, Nat.reduceAdd, Nat.reduceMul, Int.reduceToNat, Int.reducePow, UInt8.reduceToNat])
          | (simp -dsimp (disch := first | assumption | omega) only [dec_t, dec_f])
          | (refine And.intro ?_ ?_
             · first | omega | decide | (simp (disch := omega) only [wkW, Int.reduceToNat, Int.reducePow] <;> omega) | (simp <;> omega))
          | (simp (disch := omega) only [wkW, Int.reduceToNat, Int.reducePow])
          | fail
        exact Meet.mk ((13, .int .u64 (vt t n % ((b ^ k : Nat) : Int))) :: ifO b k ℓ n rev.length) (ihO t' rev) (Sub.norm ⟨congrArg (PV.int .u64) f2, rfl, rfl, rfl, rfl, rfl, rfl, trivial⟩ ⟨rfl, rfl, trivial⟩ (Nat.le_refl _) rfl rfl rfl rfl) ⟨t', ht', hdiv.lim, f1, rfl, rfl⟩
      | succ j =>
        have e : (((j + 1 : Nat)) : Int) - 1 = (j : Int) := by omega
        rw [e]
        have hx := getD_limb hdiv.lim j
        have hdv := div64 rest (t'.getD j 0) ((b ^ k : Nat) : Int) hp0 (by omega) hx
        have hstep := hdiv.step (by omega) (by omega) hp0
        simp only [B64] at hdv hp0 hx
        repeat' first
          | (with_reducible first | refine PW.seq ?_ | refine PW.block ?_ | refine PW.fork ?_ | refine PW.skip ?_ | refine PW.exit ?_ | refine PW.ret ?_)
          | (with_reducible refine PW.region ttOk ?_ ?_
             · rfl)
          | (with_reducible refine PW.regionD ttOk mixed ?_ ?_ ?_
             · rfl
             · rfl)
          | (with_reducible refine ifW_dec (fun g => ?_) (fun g => ?_) <;> first | (exfalso; omega) | (simp -dsimp only [g, wkI]))
          | (with_reducible refine condE_dec (fun g => ?_) (fun g => ?_) <;> try (exfalso; omega))
          | (with_reducible refine condE_not (fun g => ?_) (fun g => ?_) <;> try (exfalso; omega))
          | (simp -dsimp only [↓wkA, ↓wkE, wkB, ↓tt, Nat.reduceBEq, Nat.reduceEqDiff, ↓reduceIte, Nat.reduceLT, Array.toList, Nat.reduceAdd, Nat.reduceMul, Int.reduceToNat, Int.reducePow, UInt8.reduceToNat])
          | (refine call_by hdv (views_data rfl) ⟨trivial, trivial, trivial, trivial⟩ rfl ?_)
          | (simp -dsimp (disch := first | assumption | omega) only [dec_t, dec_f])
          | (refine And.intro ?_ ?_
             · first | omega | decide | (simp (disch := omega) only [wkW, Int.reduceToNat, Int.reducePow] <;> omega) | (simp <;> omega))
          | (simp (disch := omega) only [wkW, Int.reduceToNat, Int.reducePow])
          | fail
        exact Again.mk j ((14, .int .i64 ((j : Int) - 1)) :: (13, .int .u64 ((rest * B64 + t'.getD j 0) % ((b ^ k : Nat) : Int))) :: ifO b k ℓ n rev.length) (ihO (t'.set j ((rest * B64 + t'.getD j 0) / ((b ^ k : Nat) : Int))) rev) (by omega) (Sub.norm ⟨rfl, rfl, rfl, rfl, rfl, rfl, rfl, rfl, trivial⟩ ⟨rfl, rfl, trivial⟩ (Nat.le_refl _) rfl rfl rfl rfl) ⟨_, _, by rw [List.length_set]; exact ht', hstep, by omega, rfl, rfl⟩
    rintro F H ⟨t', ht', htL', hvt', rfl, rfl⟩
    -- the high zeros
    obtain ⟨T, hT⟩ : ∃ T, vt t n / ((b ^ k : Nat) : Int) = T := ⟨_, rfl⟩
    obtain ⟨rest, hrest⟩ : ∃ r, vt t n % ((b ^ k : Nat) : Int) = r := ⟨_, rfl⟩
    have hdm := Int.emod_add_mul_ediv (vt t n) ((b ^ k : Nat) : Int)
    have hr0 := Int.emod_nonneg (vt t n) (show ((b ^ k : Nat) : Int) ≠ 0 by omega)
    have hr1 := Int.emod_lt_of_pos (vt t n) hp0.1
    have hT0 : 0 ≤ T := by rw [← hT]; exact Int.ediv_nonneg (by omega) (by omega)
    rw [hrest] at hdm hr0 hr1
    rw [hT] at hdm hvt'
    simp only [hrest]
    repeat' first
      | (with_reducible first | refine PW.seq ?_ | refine PW.block ?_ | refine PW.fork ?_ | refine PW.skip ?_ | refine PW.exit ?_ | refine PW.ret ?_)
      | (with_reducible refine PW.region ttOk ?_ ?_
         · rfl)
      | (with_reducible refine PW.regionD ttOk mixed ?_ ?_ ?_
         · rfl
         · rfl)
      | (with_reducible refine ifW_dec (fun g => ?_) (fun g => ?_) <;> first | (exfalso; omega) | (simp -dsimp only [g, wkI]))
      | (with_reducible refine condE_dec (fun g => ?_) (fun g => ?_) <;> try (exfalso; omega))
      | (with_reducible refine condE_not (fun g => ?_) (fun g => ?_) <;> try (exfalso; omega))
      | (simp -dsimp only [↓wkA, ↓wkE, wkB, ↓tt, Nat.reduceBEq, Nat.reduceEqDiff, ↓reduceIte, Nat.reduceLT, Array.toList, Nat.reduceAdd, Nat.reduceMul, Int.reduceToNat, Int.reducePow, UInt8.reduceToNat])
      | (simp -dsimp (disch := first | assumption | omega) only [dec_t, dec_f])
      | (refine And.intro ?_ ?_
         · first | omega | decide | (simp (disch := omega) only [wkW, Int.reduceToNat, Int.reducePow] <;> omega) | (simp <;> omega))
      | (simp (disch := omega) only [wkW, Int.reduceToNat, Int.reducePow])
      | fail
    refine PW.meetB (fun F H => ∃ n', n' ≤ n ∧ vt t' n' = T ∧ (n' ≠ 0 → t'.getD (n' - 1) 0 ≠ 0) ∧ F = (13, .int .u64 rest) :: ifO b k ℓ n' rev.length ∧ H = ihO t' rev) ?_ ?_
    · refine PW.loopA (ITrim b k ℓ t' rev n T rest) n ((13, .int .u64 rest) :: ifO b k ℓ n rev.length) (ihO t' rev) (Sub.refl _ _ _ _) ⟨Nat.le_refl _, hvt', rfl, rfl⟩ ?_
      rintro i F H ⟨hin, hvi, rfl, rfl⟩
      cases i with
      | zero =>
        repeat' first
          | (with_reducible first | refine PW.seq ?_ | refine PW.block ?_ | refine PW.fork ?_ | refine PW.skip ?_ | refine PW.exit ?_ | refine PW.ret ?_)
          | (with_reducible refine PW.region ttOk ?_ ?_
             · rfl)
          | (with_reducible refine PW.regionD ttOk mixed ?_ ?_ ?_
             · rfl
             · rfl)
          | (with_reducible refine ifW_dec (fun g => ?_) (fun g => ?_) <;> first | (exfalso; omega) | (simp -dsimp only [g, wkI]))
          | (with_reducible refine condE_dec (fun g => ?_) (fun g => ?_) <;> try (exfalso; omega))
          | (with_reducible refine condE_not (fun g => ?_) (fun g => ?_) <;> try (exfalso; omega))
          | (simp -dsimp only [↓wkA, ↓wkE, wkB, ↓tt, Nat.reduceBEq, Nat.reduceEqDiff, ↓reduceIte, Nat.reduceLT, Array.toList, Nat.reduceAdd, Nat.reduceMul, Int.reduceToNat, Int.reducePow, UInt8.reduceToNat])
          | (simp -dsimp (disch := first | assumption | omega) only [dec_t, dec_f])
          | (refine And.intro ?_ ?_
             · first | omega | decide | (simp (disch := omega) only [wkW, Int.reduceToNat, Int.reducePow] <;> omega) | (simp <;> omega))
          | (simp (disch := omega) only [wkW, Int.reduceToNat, Int.reducePow])
          | fail
        exact Meet.mk ((13, .int .u64 rest) :: ifO b k ℓ 0 rev.length) (ihO t' rev) (Sub.norm ⟨rfl, rfl, rfl, rfl, rfl, rfl, rfl, trivial⟩ ⟨rfl, rfl, trivial⟩ (Nat.le_refl _) rfl rfl rfl rfl) ⟨0, by omega, hvi, by simp, rfl, rfl⟩
      | succ j =>
        have e1 : (((j + 1 : Nat)) : Int) - 1 = (j : Int) := by omega
        have e2 : ((j : Int) - 0).toNat = j := by omega
        repeat' first
          | (simp (disch := omega) only [e1, e2, Int.toNat_natCast, wkW, Int.reduceToNat, Int.reducePow])
          | (with_reducible first | refine PW.seq ?_ | refine PW.block ?_ | refine PW.fork ?_ | refine PW.skip ?_ | refine PW.exit ?_ | refine PW.ret ?_)
          | (with_reducible refine PW.region ttOk ?_ ?_
             · rfl)
          | (with_reducible refine PW.regionD ttOk mixed ?_ ?_ ?_
             · rfl
             · rfl)
          | (with_reducible refine ifW_dec (fun g => ?_) (fun g => ?_) <;> first | (exfalso; omega) | (simp -dsimp only [g, wkI]))
          | (with_reducible refine condE_dec (fun g => ?_) (fun g => ?_) <;> try (exfalso; omega))
          | (with_reducible refine condE_not (fun g => ?_) (fun g => ?_) <;> try (exfalso; omega))
          | (simp -dsimp only [↓wkA, ↓wkE, wkB, ↓tt, Nat.reduceBEq, Nat.reduceEqDiff, ↓reduceIte, Nat.reduceLT, Array.toList, Nat.reduceAdd, Nat.reduceMul, Int.reduceToNat, Int.reducePow, UInt8.reduceToNat])
          | (simp -dsimp (disch := first | assumption | omega) only [dec_t, dec_f])
          | (refine And.intro ?_ ?_
             · first | omega | decide | (simp (disch := omega) only [wkW, Int.reduceToNat, Int.reducePow] <;> omega) | (simp <;> omega))
          | (simp (disch := omega) only [wkW, Int.reduceToNat, Int.reducePow])
          | fail
        · have hvj : vt t' j = T := by rw [← hvi]; simp only [vt]; rw [show t'.getD j 0 = 0 by assumption]; simp
          exact Again.mk j ((13, .int .u64 rest) :: ifO b k ℓ j rev.length) (ihO t' rev) (by omega) (Sub.norm ⟨rfl, rfl, rfl, rfl, rfl, rfl, rfl, trivial⟩ ⟨rfl, rfl, trivial⟩ (Nat.le_refl _) rfl rfl rfl rfl) ⟨by omega, hvj, rfl, rfl⟩
        · exact Meet.mk ((13, .int .u64 rest) :: ifO b k ℓ (j + 1) rev.length) (ihO t' rev) (Sub.norm ⟨rfl, rfl, rfl, rfl, rfl, rfl, rfl, trivial⟩ ⟨rfl, rfl, trivial⟩ (Nat.le_refl _) rfl rfl rfl rfl) ⟨j + 1, by omega, hvi, fun _ => by assumption, rfl, rfl⟩
    rintro F H ⟨n', hn', hvn', htop', rfl, rfl⟩
    -- the digits of this chunk
    obtain ⟨τ, rfl⟩ := Int.eq_ofNat_of_zero_le hT0
    obtain ⟨ρ, rfl⟩ := Int.eq_ofNat_of_zero_le hr0
    have hτ : n' ≠ 0 → τ ≠ 0 := by
      intro h0' hτ0
      obtain ⟨n2, rfl⟩ : ∃ n2, n' = n2 + 1 := ⟨n' - 1, by omega⟩
      have h1 := htop' h0'
      have h2 := getD_limb htL' n2
      rw [show n2 + 1 - 1 = n2 by omega] at h1
      have h3 := vt_bound htL' n2
      have h4 : 0 < B64 ^ n2 * t'.getD n2 0 := Int.mul_pos (pow_pos64 n2) (by omega)
      simp only [vt] at hvn'
      omega
    have hVe : (vt t n).toNat = ρ + b ^ k * τ := by
      have : vt t n = ((ρ + b ^ k * τ : Nat) : Int) := by rw [← hdm]; simp
      rw [this, Int.toNat_natCast]
    have hlt : τ < (vt t n).toNat := by
      rw [hVe]
      have : 2 * τ ≤ b ^ k * τ := Nat.mul_le_mul_right _ hp2
      have : 0 < ρ + b ^ k * τ := by omega
      rcases Nat.eq_zero_or_pos τ with h | h
      · subst h; omega
      · omega
    rw [hVe] at hrev
    have hb64 : IntKind.wrap .u64 (b : Int) = (b : Int) := wrap_u64 (by omega)
    repeat' first
      | (with_reducible first | refine PW.seq ?_ | refine PW.block ?_ | refine PW.fork ?_ | refine PW.skip ?_ | refine PW.exit ?_ | refine PW.ret ?_)
      | (with_reducible refine PW.region ttOk ?_ ?_
         · rfl)
      | (with_reducible refine PW.regionD ttOk mixed ?_ ?_ ?_
         · rfl
         · rfl)
      | (with_reducible refine ifW_dec (fun g => ?_) (fun g => ?_) <;> first | (exfalso; omega) | (simp -dsimp only [g, wkI]))
      | (with_reducible refine condE_dec (fun g => ?_) (fun g => ?_) <;> try (exfalso; omega))
      | (with_reducible refine condE_not (fun g => ?_) (fun g => ?_) <;> try (exfalso; omega))
      | (simp -dsimp only [↓wkA, ↓wkE, wkB, ↓tt, Nat.reduceBEq, Nat.reduceEqDiff, ↓reduceIte, Nat.reduceLT, Array.toList, Nat.reduceAdd, Nat.reduceMul, Int.reduceToNat, Int.reducePow, UInt8.reduceToNat])
      | (simp -dsimp (disch := first | assumption | omega) only [dec_t, dec_f])
      | (refine And.intro ?_ ?_
         · first | omega | decide | (simp (disch := omega) only [wkW, Int.reduceToNat, Int.reducePow] <;> omega) | (simp <;> omega))
      | (simp (disch := omega) only [wkW, Int.reduceToNat, Int.reducePow])
      | fail
    · refine PW.loopA (IDig b k ℓ R t' n' τ) k ((15, .int .i64 ((0 : Nat) : Int)) :: (13, .int .u64 ((ρ : Nat) : Int)) :: ifO b k ℓ n' rev.length) (ihO t' rev) (Sub.norm ⟨rfl, rfl, rfl, rfl, rfl, rfl, rfl, rfl, trivial⟩ ⟨rfl, rfl, trivial⟩ (Nat.le_refl _) rfl rfl rfl rfl) ⟨0, ρ, rev, by omega, by omega, hrev, rfl, rfl⟩ ?_
      rintro i F H ⟨j, r, rv, hji, hri, hrv, rfl, rfl⟩
      have hrvl : rv.length ≤ 262144 := by
        have := congrArg List.length hrv
        rw [List.length_append] at this
        omega
      cases i with
      | zero =>
        have hr00 : r = 0 := by simpa using hri
        subst hr00
        repeat' first
          | (with_reducible first | refine PW.seq ?_ | refine PW.block ?_ | refine PW.fork ?_ | refine PW.skip ?_ | refine PW.exit ?_ | refine PW.ret ?_)
          | (with_reducible refine PW.region ttOk ?_ ?_
             · rfl)
          | (with_reducible refine PW.regionD ttOk mixed ?_ ?_ ?_
             · rfl
             · rfl)
          | (with_reducible refine ifW_dec (fun g => ?_) (fun g => ?_) <;> first | (exfalso; omega) | (simp -dsimp only [g, wkI]))
          | (with_reducible refine condE_dec (fun g => ?_) (fun g => ?_) <;> try (exfalso; omega))
          | (with_reducible refine condE_not (fun g => ?_) (fun g => ?_) <;> try (exfalso; omega))
          | (simp -dsimp only [↓wkA, ↓wkE, wkB, ↓tt, Nat.reduceBEq, Nat.reduceEqDiff, ↓reduceIte, Nat.reduceLT, Array.toList, Nat.reduceAdd, Nat.reduceMul, Int.reduceToNat, Int.reducePow, UInt8.reduceToNat])
          | (simp -dsimp (disch := first | assumption | omega) only [dec_t, dec_f])
          | (refine And.intro ?_ ?_
             · first | omega | decide | (simp (disch := omega) only [wkW, Int.reduceToNat, Int.reducePow] <;> omega) | (simp <;> omega))
          | (simp (disch := omega) only [wkW, Int.reduceToNat, Int.reducePow])
          | fail
        exact Again.mk τ (ifO b k ℓ n' rv.length) (ihO t' rv) (by omega) (Sub.norm ⟨rfl, rfl, rfl, rfl, rfl, rfl, trivial⟩ ⟨rfl, rfl, trivial⟩ (Nat.le_refl _) rfl rfl rfl rfl) ⟨n', t', rv, ht', by omega, htL', htop', by rw [hvn']; simpa using hrv, by rw [hvn']; rfl, rfl, rfl⟩
      | succ i =>
        have hmod : ((r : Nat) : Int).tmod (b : Int) = ((r % b : Nat) : Int) := by
          rw [tmod_pos (by omega)]; exact (Int.natCast_emod r b).symm
        have hdiv : ((r : Nat) : Int).tdiv (b : Int) = ((r / b : Nat) : Int) := by
          rw [tdiv_pos (by omega)]; exact (Int.natCast_ediv r b).symm
        have hmb : r % b < 36 := Nat.lt_of_lt_of_le (Nat.mod_lt _ (by omega)) hb.2
        have hdl : r / b ≤ r := Nat.div_le_self r b
        have hr64 : r < 18446744073709551616 := by
          refine Nat.lt_trans (Nat.lt_of_lt_of_le hri ?_) hk3
          exact Nat.pow_le_pow_right (by omega) (by omega)
        have hw0 : ∀ q : Nat, q ≤ r → IntKind.wrap .u64 (q : Int) = (q : Int) := fun q hq => wrap_u64 (by omega)
        have hw := hw0 (r / b) hdl
        by_cases hbr : r = 0 ∧ n' = 0
        · obtain ⟨rfl, rfl⟩ := hbr
          have hτ0 : τ = 0 := by
            have : ((τ : Nat) : Int) = 0 := hvn'.symm.trans rfl
            omega
          subst hτ0
          repeat' first
            | (simp only [hb64, hmod, hdiv, hw])
            | (with_reducible first | refine PW.seq ?_ | refine PW.block ?_ | refine PW.fork ?_ | refine PW.skip ?_ | refine PW.exit ?_ | refine PW.ret ?_)
            | (with_reducible refine PW.region ttOk ?_ ?_
               · rfl)
            | (with_reducible refine PW.regionD ttOk mixed ?_ ?_ ?_
               · rfl
               · rfl)
            | (with_reducible refine ifW_dec (fun g => ?_) (fun g => ?_) <;> first | (exfalso; omega) | (simp -dsimp only [g, wkI]))
            | (with_reducible refine condE_dec (fun g => ?_) (fun g => ?_) <;> try (exfalso; omega))
            | (with_reducible refine condE_not (fun g => ?_) (fun g => ?_) <;> try (exfalso; omega))
            | (simp -dsimp only [↓wkA, ↓wkE, wkB, ↓tt, Nat.reduceBEq, Nat.reduceEqDiff, ↓reduceIte, Nat.reduceLT, Array.toList, Nat.reduceAdd, Nat.reduceMul, Int.reduceToNat, Int.reducePow, UInt8.reduceToNat])
            | (simp -dsimp (disch := first | assumption | omega) only [dec_t, dec_f])
            | (refine And.intro ?_ ?_
               · first | omega | decide | (simp (disch := omega) only [wkW, Int.reduceToNat, Int.reducePow] <;> omega) | (simp <;> omega))
            | (simp (disch := omega) only [wkW, Int.reduceToNat, Int.reducePow])
            | fail
          exact Again.mk 0 (ifO b k ℓ 0 rv.length) (ihO t' rv) (by omega) (Sub.norm ⟨rfl, rfl, rfl, rfl, rfl, rfl, trivial⟩ ⟨rfl, rfl, trivial⟩ (Nat.le_refl _) rfl rfl rfl rfl) ⟨0, t', rv, ht', by omega, htL', htop', by rw [hvn']; simpa using hrv, by rw [hvn']; rfl, rfl, rfl⟩
        · have hne : r ≠ 0 ∨ τ ≠ 0 := by
            rcases Nat.eq_zero_or_pos r with h | h
            · right; exact hτ (fun h' => hbr ⟨h, h'⟩)
            · left; omega
          rw [digs_part hb.1 hne, List.map_cons] at hrv
          have hnext : (rv ++ [ℓ.getD (r % b) 0]) ++ (digs b (r / b + b ^ i * τ)).map (fun d => ℓ.getD d 0) = R := by rw [← hrv]; simp
          have hri' : r / b < b ^ i := by
            rw [Nat.pow_succ, Nat.mul_comm] at hri
            exact Nat.div_lt_of_lt_mul hri
          repeat' first
            | (simp only [hb64, hmod, hdiv, hw, Int.toNat_natCast])
            | (with_reducible first | refine PW.seq ?_ | refine PW.block ?_ | refine PW.fork ?_ | refine PW.skip ?_ | refine PW.exit ?_ | refine PW.ret ?_)
            | (with_reducible refine PW.region ttOk ?_ ?_
               · rfl)
            | (with_reducible refine PW.regionD ttOk mixed ?_ ?_ ?_
               · rfl
               · rfl)
            | (with_reducible refine ifW_dec (fun g => ?_) (fun g => ?_) <;> first | (exfalso; omega) | (simp -dsimp only [g, wkI]))
            | (with_reducible refine condE_dec (fun g => ?_) (fun g => ?_) <;> try (exfalso; omega))
            | (with_reducible refine condE_not (fun g => ?_) (fun g => ?_) <;> try (exfalso; omega))
            | (simp -dsimp only [↓wkA, ↓wkE, wkB, ↓tt, Nat.reduceBEq, Nat.reduceEqDiff, ↓reduceIte, Nat.reduceLT, Array.toList, Nat.reduceAdd, Nat.reduceMul, Int.reduceToNat, Int.reducePow, UInt8.reduceToNat])
            | (simp -dsimp (disch := first | assumption | omega) only [dec_t, dec_f])
            | (refine And.intro ?_ ?_
               · first | omega | decide | (simp (disch := omega) only [wkW, Int.reduceToNat, Int.reducePow] <;> omega) | (simp <;> omega))
            | (simp (disch := omega) only [wkW, Int.reduceToNat, Int.reducePow])
            | fail
          · obtain rfl : r = 0 := by omega
            simp only [Int.zero_ediv, Int.zero_emod, Int.toNat_zero, show IntKind.wrap .u64 0 = 0 from rfl]
            simp only [Nat.zero_mod, Nat.zero_div] at hnext hri'
            refine Again.mk i ((15, .int .i64 ((j + 1 : Nat) : Int)) :: (13, .int .u64 ((0 : Nat) : Int)) :: ifO b k ℓ n' (rv ++ [ℓ.getD 0 0]).length) (ihO t' (rv ++ [ℓ.getD 0 0])) (by omega) (Sub.norm ⟨rfl, rfl, rfl, rfl, rfl, rfl, rfl, ?_, trivial⟩ ⟨rfl, rfl, trivial⟩ (by simp) rfl rfl rfl rfl) ⟨j + 1, 0, rv ++ [ℓ.getD 0 0], by omega, hri', hnext, rfl, rfl⟩
            simp -dsimp only [↓wkA, ↓wkE, wkB, ↓tt, Nat.reduceBEq, Nat.reduceEqDiff, ↓reduceIte, Nat.reduceLT, Array.toList, Nat.reduceAdd, Nat.reduceMul, Int.reduceToNat, Int.reducePow, UInt8.reduceToNat]
          · refine Again.mk i ((15, .int .i64 ((j + 1 : Nat) : Int)) :: (13, .int .u64 ((r / b : Nat) : Int)) :: ifO b k ℓ n' (rv ++ [ℓ.getD (r % b) 0]).length) (ihO t' (rv ++ [ℓ.getD (r % b) 0])) (by omega) (Sub.norm ⟨rfl, rfl, rfl, rfl, rfl, rfl, rfl, ?_, trivial⟩ ⟨rfl, rfl, trivial⟩ (by simp) rfl rfl rfl rfl) ⟨j + 1, r / b, rv ++ [ℓ.getD (r % b) 0], by omega, hri', hnext, rfl, rfl⟩
            simp -dsimp only [↓wkA, ↓wkE, wkB, ↓tt, Nat.reduceBEq, Nat.reduceEqDiff, ↓reduceIte, Nat.reduceLT, Array.toList, Nat.reduceAdd, Nat.reduceMul, Int.reduceToNat, Int.reducePow, UInt8.reduceToNat]
  · rintro F H ⟨rfl, rfl⟩
    have hR0 : R ≠ [] := by
      intro h
      rw [h] at hR
      have h3 : (val a).toNat ≠ 0 := by
        obtain ⟨n, hn⟩ : ∃ n, size a = n + 1 := ⟨size a - 1, by omega⟩
        have h4 := sizeN_top a a.length h2
        have h5 : a.getD n 0 ≠ 0 := by
          have : size a - 1 = n := by omega
          rw [← this]; exact h4
        have h6 := getD_limb ha n
        have h7 := vt_bound ha n
        have h8 : 0 < B64 ^ n * a.getD n 0 := Int.mul_pos (pow_pos64 n) (by omega)
        have h9 := vt_size a
        rw [hn] at h9
        simp only [vt] at h9
        omega
      rw [digs_step hb.1 h3] at hR
      cases hR
    repeat' first
      | (with_reducible first | refine PW.seq ?_ | refine PW.block ?_ | refine PW.fork ?_ | refine PW.skip ?_ | refine PW.exit ?_ | refine PW.ret ?_)
      | (with_reducible refine PW.region ttOk ?_ ?_
         · rfl)
      | (with_reducible refine PW.regionD ttOk mixed ?_ ?_ ?_
         · rfl
         · rfl)
      | (with_reducible refine ifW_dec (fun g => ?_) (fun g => ?_) <;> first | (exfalso; omega) | (simp -dsimp only [g, wkI]))
      | (with_reducible refine condE_dec (fun g => ?_) (fun g => ?_) <;> try (exfalso; omega))
      | (with_reducible refine condE_not (fun g => ?_) (fun g => ?_) <;> try (exfalso; omega))
      | (simp -dsimp only [↓wkA, ↓wkE, wkB, ↓tt, Nat.reduceBEq, Nat.reduceEqDiff, ↓reduceIte, Nat.reduceLT, Array.toList, Nat.reduceAdd, Nat.reduceMul, Int.reduceToNat, Int.reducePow, UInt8.reduceToNat])
      | (simp -dsimp (disch := first | assumption | omega) only [dec_t, dec_f])
      | (refine And.intro ?_ ?_
         · first | omega | decide | (simp (disch := omega) only [wkW, Int.reduceToNat, Int.reducePow] <;> omega) | (simp <;> omega))
      | (simp (disch := omega) only [wkW, Int.reduceToNat, Int.reducePow])
      | fail
    refine PW.meetB (fun F H => ∃ p, F = [(16, .ptr 2 0 0)] ∧ H = ⟨4, [(2, .var [p, .sl 3 0 R.reverse.length true]), (3, .ints .u8 R.reverse)], [], [(3, 5), (2, 98)]⟩) ?_ ?_
    · refine PW.loopA (IBuild R) R.length [(17, .int .i64 ((R.length : Int) - 1)), (16, .ptr 2 0 0), (12, .sl 1 0 R.length true)] (ihB R .nilptr []) (Sub.trans (Sub.nilField 2 [.nilptr, .nil] 1 5 .u8 rfl rfl (by decide) (by show 2 < 3; omega)) (Sub.norm ⟨?_, rfl, rfl, trivial⟩ ⟨rfl, rfl, rfl, trivial⟩ (Nat.le_refl _) rfl rfl rfl rfl (tyOk_spec rfl))) ⟨.nilptr, Nat.le_refl _, .inl rfl, rfl, by rw [List.drop_length]; rfl⟩ ?_
      · simp (disch := omega) only [↓wkA, ↓wkE, wkB, ↓tt, Nat.reduceBEq, Nat.reduceEqDiff, ↓reduceIte, Nat.reduceLT, Array.toList, Nat.reduceAdd, Nat.reduceMul, Int.reduceToNat, Int.reducePow, UInt8.reduceToNat, wkW, Int.reduceToNat, Int.reducePow]
      rintro i F H ⟨p, hin, hp, rfl, rfl⟩
      cases i with
      | zero =>
        simp only [List.drop_zero]
        repeat' first
          | (with_reducible first | refine PW.seq ?_ | refine PW.block ?_ | refine PW.fork ?_ | refine PW.skip ?_ | refine PW.exit ?_ | refine PW.ret ?_)
          | (with_reducible refine PW.region ttOk ?_ ?_
             · rfl)
          | (with_reducible refine PW.regionD ttOk mixed ?_ ?_ ?_
             · rfl
             · rfl)
          | (with_reducible refine ifW_dec (fun g => ?_) (fun g => ?_) <;> first | (exfalso; omega) | (simp -dsimp only [g, wkI]))
          | (with_reducible refine condE_dec (fun g => ?_) (fun g => ?_) <;> try (exfalso; omega))
          | (with_reducible refine condE_not (fun g => ?_) (fun g => ?_) <;> try (exfalso; omega))
          | (simp -dsimp only [↓wkA, ↓wkE, wkB, ↓tt, Nat.reduceBEq, Nat.reduceEqDiff, ↓reduceIte, Nat.reduceLT, Array.toList, Nat.reduceAdd, Nat.reduceMul, Int.reduceToNat, Int.reducePow, UInt8.reduceToNat])
          | (simp -dsimp (disch := first | assumption | omega) only [dec_t, dec_f])
          | (refine And.intro ?_ ?_
             · first | omega | decide | (simp (disch := omega) only [wkW, Int.reduceToNat, Int.reducePow] <;> omega) | (simp <;> omega))
          | (simp (disch := omega) only [wkW, Int.reduceToNat, Int.reducePow])
          | fail
        refine Meet.mk [(16, .ptr 2 0 0)] ⟨4, [(2, .var [p, .sl 3 0 R.reverse.length true]), (3, .ints .u8 R.reverse)], [], [(3, 5), (2, 98)]⟩ (Sub.norm ⟨rfl, trivial⟩ ⟨rfl, rfl, trivial⟩ (Nat.le_refl _) rfl rfl rfl ?_ (tyOk_spec rfl)) ⟨p, rfl, rfl⟩
        rcases hp with rfl | rfl <;> rfl
      | succ i =>
        have e : (((i + 1 : Nat)) : Int) - 1 = (i : Int) := by omega
        rw [e]
        simp only [ihB]
        have hlen : (R.drop (i + 1)).reverse.length ≤ 100000000000000 := by simp; omega
        have hnext : (R.drop (i + 1)).reverse ++ [R.getD i 0] = (R.drop i).reverse := by
          rw [List.drop_eq_getElem_cons (show i < R.length by omega), List.reverse_cons, List.getD_eq_getElem?_getD, List.getElem?_eq_getElem (by omega)]; rfl
        have hll : (R.drop (i + 1)).reverse.length + 1 = (R.drop i).reverse.length := by rw [← hnext]; simp
        repeat' first
          | (with_reducible first | refine PW.seq ?_ | refine PW.block ?_ | refine PW.fork ?_ | refine PW.skip ?_ | refine PW.exit ?_ | refine PW.ret ?_)
          | (with_reducible refine PW.region ttOk ?_ ?_
             · rfl)
          | (with_reducible refine PW.regionD ttOk mixed ?_ ?_ ?_
             · rfl
             · rfl)
          | (with_reducible refine ifW_dec (fun g => ?_) (fun g => ?_) <;> first | (exfalso; omega) | (simp -dsimp only [g, wkI]))
          | (with_reducible refine condE_dec (fun g => ?_) (fun g => ?_) <;> try (exfalso; omega))
          | (with_reducible refine condE_not (fun g => ?_) (fun g => ?_) <;> try (exfalso; omega))
          | (simp -dsimp only [↓wkA, ↓wkE, wkB, ↓tt, Nat.reduceBEq, Nat.reduceEqDiff, ↓reduceIte, Nat.reduceLT, Array.toList, Nat.reduceAdd, Nat.reduceMul, Int.reduceToNat, Int.reducePow, UInt8.reduceToNat])
          | (refine call_h (builder_WriteByte _ (r := 2) (r2 := 3) (by decide) (Nat.lt_of_lt_of_le (by decide : 2 < 4) (Nat.le_refl _)) (Nat.lt_of_lt_of_le (by decide : 3 < 4) (Nat.le_refl _)) rfl rfl hp rfl rfl hlen) (fun res H' hR' => ?_); obtain ⟨rfl, rfl⟩ := hR'; refine ⟨_, _, rfl, ?_⟩)
          | (simp -dsimp only [hnext, hll])
          | (simp -dsimp (disch := first | assumption | omega) only [dec_t, dec_f])
          | (refine And.intro ?_ ?_
             · first | omega | decide | (simp (disch := omega) only [wkW, Int.reduceToNat, Int.reducePow] <;> omega) | (simp <;> omega))
          | (simp (disch := omega) only [wkW, Int.reduceToNat, Int.reducePow])
          | fail
        exact Again.mk i [(17, .int .i64 ((i : Int) - 1)), (16, .ptr 2 0 0), (12, .sl 1 0 R.length true)] (ihB R (.ptr 2 0 0) (R.drop i).reverse) (by omega) (Sub.norm ⟨rfl, rfl, rfl, trivial⟩ ⟨rfl, rfl, rfl, trivial⟩ (by show 4 ≤ 5; omega) rfl rfl rfl rfl (tyOk_spec rfl)) ⟨_, by omega, .inr rfl, rfl, rfl⟩
    rintro F H ⟨p, rfl, rfl⟩
    repeat' first
      | (with_reducible first | refine PW.seq ?_ | refine PW.block ?_ | refine PW.fork ?_ | refine PW.skip ?_ | refine PW.exit ?_ | refine PW.ret ?_)
      | (with_reducible refine PW.region ttOk ?_ ?_
         · rfl)
      | (with_reducible refine PW.regionD ttOk mixed ?_ ?_ ?_
         · rfl
         · rfl)
      | (with_reducible refine ifW_dec (fun g => ?_) (fun g => ?_) <;> first | (exfalso; omega) | (simp -dsimp only [g, wkI]))
      | (with_reducible refine condE_dec (fun g => ?_) (fun g => ?_) <;> try (exfalso; omega))
      | (with_reducible refine condE_not (fun g => ?_) (fun g => ?_) <;> try (exfalso; omega))
      | (simp -dsimp only [↓wkA, ↓wkE, wkB, ↓tt, Nat.reduceBEq, Nat.reduceEqDiff, ↓reduceIte, Nat.reduceLT, Array.toList, Nat.reduceAdd, Nat.reduceMul, Int.reduceToNat, Int.reducePow, UInt8.reduceToNat])
      | (refine call_h (builder_String (H := ⟨_, _, _, _⟩) (r := 2) (r2 := 3) (by decide) rfl rfl rfl rfl (by simpa using hR0) (fun x hx => hRb x (List.mem_reverse.1 hx)) (by simp; omega)) (fun res H' hR' => ?_); obtain ⟨rfl, rfl⟩ := hR'; refine ⟨_, _, rfl, ?_⟩)
      | (simp -dsimp (disch := first | assumption | omega) only [dec_t, dec_f])
      | (refine And.intro ?_ ?_
         · first | omega | decide | (simp (disch := omega) only [wkW, Int.reduceToNat, Int.reducePow] <;> omega) | (simp <;> omega))
      | (simp (disch := omega) only [wkW, Int.reduceToNat, Int.reducePow])
      | fail
    rw [text, hℓ, hR]

theorem in_base (a : List Int) (ha : Limbs a) (hla : a.length ≤ 17592186043904) (base : Int) (hb : -9223372036854775808 ≤ base ∧ base ≤ 9223372036854775807) (u : Bool) :
    Meets Tryd.prog 71 [.ints .u64 a, .int .i64 base, .bool u] (inBaseR a base u) := by
  by_cases h : 4096 < size a ∨ (base < 2 ∨ 36 < base) ∨ size a = 0
  · exact in_base_err a hla base hb u h
  · have h' := in_base_main a ha hla base.toNat (by omega) u (by omega) (by omega)
    rw [show ((base.toNat : Nat) : Int) = base by omega] at h'
    unfold inBaseR
    rw [if_neg (by omega), if_neg (by omega), if_neg (by omega)]
    exact h'
end Go.Proofs.YtjhkpjddcaglnaaDoor
set_option linter.unusedVariables false
set_option linter.unusedSimpArgs false
namespace Go.Proofs.YtjhkpjddcaglnaaDoor
open Go Go.PV

theorem list_ext {a b : List Int} (hl : a.length = b.length) (h : ∀ j, j < a.length → a.getD j 0 = b.getD j 0) : a = b := by
  refine List.ext_getElem hl fun i h1 h2 => ?_
  have := h i h1
  simpa [List.getD_eq_getElem?_getD, List.getElem?_eq_getElem h1, List.getElem?_eq_getElem h2] using this
theorem val_one (x : Int) : val [x] = x := by simp [val, vt]
def letter (u : Bool) (d : Nat) : Int := (lettersOf u).getD d 0
theorem letter_all : ∀ u : Bool, ∀ d : Fin 36, worth (letter u d.val) = (d.val : Int) ∧ (letter u d.val = 48 → d.val = 0) ∧ 0 ≤ letter u d.val ∧ letter u d.val < 256 ∧ (u = true → ¬ (97 ≤ letter u d.val ∧ letter u d.val ≤ 122)) ∧ (u = false → ¬ (65 ≤ letter u d.val ∧ letter u d.val ≤ 90)) := by decide

theorem text_nil (b : Nat) (u : Bool) : text b u 0 = [] := by simp [text, digs_zero]
theorem text_step {b : Nat} (hb : 2 ≤ b) (u : Bool) {v : Nat} (hv : v ≠ 0) : text b u v = text b u (v / b) ++ [letter u (v % b)] := by
  unfold text letter
  rw [digs_step hb hv, List.map_cons, List.reverse_cons]

theorem numN_append (b : Nat) (l : List Int) (x : Int) : ∀ i, i ≤ l.length → numN b (l ++ [x]) i = numN b l i
  | 0, _ => rfl
  | i + 1, h => by
    simp only [numN]
    rw [numN_append b l x i (by omega)]
    rw [show (l ++ [x]).getD i 0 = l.getD i 0 by simp [List.getD_eq_getElem?_getD, List.getElem?_append_left (show i < l.length by omega)]]

theorem num_append (b : Nat) (l : List Int) (x : Int) : num b (l ++ [x]) = num b l * b + (worth x).toNat := by
  unfold num
  rw [List.length_append, List.length_singleton]
  simp only [numN]
  rw [numN_append b l x _ (Nat.le_refl _)]
  rw [show (l ++ [x]).getD l.length 0 = x by simp [List.getD_eq_getElem?_getD]]

theorem num_text {b : Nat} (hb : 2 ≤ b ∧ b ≤ 36) (u : Bool) : ∀ v, num b (text b u v) = v := by
  intro v
  induction v using Nat.strongRecOn with
  | _ v ih =>
    by_cases h0 : v = 0
    · subst h0; rw [text_nil]; rfl
    · have hm := Nat.mod_lt v (show b > 0 by omega)
      have hl := (letter_all u ⟨v % b, by omega⟩).1
      simp only at hl
      rw [text_step hb.1 u h0, num_append, ih _ (Nat.div_lt_self (by omega) (by omega)), hl, Int.toNat_natCast]
      exact Nat.div_add_mod' v b

theorem text_ne {b : Nat} (hb : 2 ≤ b) (u : Bool) {v : Nat} (hv : v ≠ 0) : text b u v ≠ [] := by
  rw [text_step hb u hv]; simp

theorem text_head {b : Nat} (hb : 2 ≤ b ∧ b ≤ 36) (u : Bool) : ∀ v, v ≠ 0 → (text b u v).getD 0 0 ≠ 48 := by
  intro v
  induction v using Nat.strongRecOn with
  | _ v ih =>
    intro h0
    have hm := Nat.mod_lt v (show b > 0 by omega)
    rw [text_step hb.1 u h0]
    by_cases h1 : v / b = 0
    · rw [h1, text_nil]
      have hl := (letter_all u ⟨v % b, by omega⟩).2.1
      simp only at hl
      intro h
      have h2 := hl (by simpa using h)
      have := Nat.div_add_mod v b
      rw [h1, h2] at this
      simp at this; omega
    · have h2 := ih _ (Nat.div_lt_self (by omega) (by omega)) h1
      have h3 := text_ne hb.1 u h1
      cases hc : text b u (v / b) with
      | nil => exact absurd hc h3
      | cons x l => rw [hc] at h2; simpa using h2

theorem text_all {b : Nat} (hb : 2 ≤ b ∧ b ≤ 36) (u : Bool) (v : Nat) : ∀ x ∈ text b u v, ∃ d : Nat, d < b ∧ x = letter u d := by
  intro x hx
  unfold text at hx
  rw [List.mem_reverse] at hx
  obtain ⟨d, hd, rfl⟩ := List.mem_map.1 hx
  exact ⟨d, digs_lt hb.1 _ d hd, rfl⟩

/-- What InBase writes, nought too. -/
def written (b : Nat) (u : Bool) (v : Nat) : List Int := if v = 0 then [48] else text b u v

theorem letter_zero (u : Bool) : letter u 0 = 48 := by cases u <;> rfl
theorem num_zero (b : Nat) : num b [48] = 0 := by
  have h : worth 48 = 0 := by decide
  simp [num, numN, h]

theorem written_all {b : Nat} (hb : 2 ≤ b ∧ b ≤ 36) (u : Bool) (v : Nat) : ∀ x ∈ written b u v, ∃ d : Nat, d < b ∧ x = letter u d := by
  intro x hx
  unfold written at hx
  split at hx
  · rw [List.mem_singleton] at hx
    exact ⟨0, by omega, by rw [letter_zero]; exact hx⟩
  · exact text_all hb u v x hx

theorem written_num {b : Nat} (hb : 2 ≤ b ∧ b ≤ 36) (u : Bool) (v : Nat) : num b (written b u v) = v := by
  unfold written
  split
  · rename_i h; rw [h]; exact num_zero b
  · exact num_text hb u v

theorem written_ne {b : Nat} (hb : 2 ≤ b ∧ b ≤ 36) (u : Bool) (v : Nat) : written b u v ≠ [] := by
  unfold written
  split
  · simp
  · exact text_ne hb.1 u (by assumption)

theorem text_len {b : Nat} (hb : 2 ≤ b) (u : Bool) {k v : Nat} (h : v < 2 ^ k) : (text b u v).length ≤ k := by
  unfold text; rw [List.length_reverse, List.length_map]; exact digs_len hb k v h

theorem val_nonneg {a : List Int} (ha : Limbs a) : 0 ≤ val a := (vt_bound ha a.length).1

theorem size_zero {a : List Int} (ha : Limbs a) : size a = 0 ↔ val a = 0 := by
  constructor
  · intro h
    have := vt_size a
    rw [h] at this
    exact this.symm
  · intro h
    have h1 := trim_eq ha
    rw [h] at h1
    have h2 := trim_len a
    rw [h1] at h2
    rw [← h2]
    simp [natL, digs_zero]

theorem val_small {a : List Int} (ha : Limbs a) (h : size a ≤ 4096) : val a < B64 ^ 4096 := by
  have h1 := vt_bound ha (size a)
  rw [vt_size] at h1
  have := pow_mono64 h
  omega

set_option exponentiation.threshold 300000 in
theorem pow4096 : B64 ^ 4096 = ((2 ^ 262144 : Nat) : Int) := by
  rw [show (262144 : Nat) = 64 * 4096 from rfl, Nat.pow_mul, Int.natCast_pow]; rfl

theorem written_len {a : List Int} (ha : Limbs a) (h : size a ≤ 4096) {b : Nat} (hb : 2 ≤ b) (u : Bool) : (written b u (val a).toNat).length ≤ 262144 := by
  unfold written
  split
  · simp
  · refine text_len hb u ?_
    have h1 := val_small ha h
    rw [pow4096] at h1
    have := val_nonneg ha
    omega

theorem in_base_ok {a : List Int} (ha : Limbs a) (hla : a.length ≤ 17592186043904) {b : Nat} (hb : 2 ≤ b ∧ b ≤ 36) (u : Bool) (h : size a ≤ 4096) : Meets Tryd.prog 71 [.ints .u64 a, .int .i64 (b : Int), .bool u] (.tup [.str (written b u (val a).toNat), .int .i64 0]) := by
  have h1 := in_base a ha hla (b : Int) (by omega) u
  unfold inBaseR at h1
  rw [if_neg (by omega), if_neg (by omega)] at h1
  unfold written
  by_cases h0 : size a = 0
  · rw [if_pos h0] at h1
    rw [if_pos (by rw [(size_zero ha).1 h0]; rfl)]
    exact h1
  · rw [if_neg h0] at h1
    have := val_nonneg ha
    rw [if_neg (fun h => h0 ((size_zero ha).2 (by omega)))]
    rw [Int.toNat_natCast] at h1
    exact h1

theorem written_digit {b : Nat} (hb : 2 ≤ b ∧ b ≤ 36) (u : Bool) (v j : Nat) (hj : j < (written b u v).length) : ∃ d : Nat, d < b ∧ (written b u v).getD j 0 = letter u d := by
  refine written_all hb u v _ ?_
  rw [List.getD_eq_getElem?_getD, List.getElem?_eq_getElem hj]; exact List.getElem_mem hj

theorem written_bytes {b : Nat} (hb : 2 ≤ b ∧ b ≤ 36) (u : Bool) (v : Nat) : Bytes' (written b u v) := by
  intro x hx
  obtain ⟨d, hd, rfl⟩ := written_all hb u v x hx
  have := letter_all u ⟨d, by omega⟩
  exact ⟨this.2.2.1, this.2.2.2.1⟩

end Go.Proofs.YtjhkpjddcaglnaaDoor
set_option linter.unusedVariables false
set_option linter.unusedSimpArgs false
namespace Go.Proofs.YtjhkpjddcaglnaaDoor
open Go Go.PV
theorem text_ff : text 16 false 255 = [102, 102] := by
  simp [text, digs, lettersOf, smalls]
theorem inbase_awake : Meets Tryd.prog 71 [.ints .u64 [255], .int .i64 16, .bool false] (.tup [.str [102, 102], .int .i64 0]) := by
  have h := in_base [255] (by intro x hx; simp at hx; omega) (by simp) 16 (by decide) false
  have e : inBaseR [255] 16 false = .tup [.str [102, 102], .int .i64 0] := by
    have hs : size [255] = 1 := by decide
    have hv : val [255] = 255 := val_one 255
    unfold inBaseR
    rw [hs, hv, if_neg (by decide), if_neg (by decide), if_neg (by decide)]
    rw [show (16 : Int).toNat = 16 from rfl, show (255 : Int).toNat = 255 from rfl, text_ff]
  rwa [e] at h

theorem frombase_awake : Meets Tryd.prog 33 [.str [90, 122], .int .i64 36] (.tup [.ints .u64 [1295], .int .i64 0, .int .i64 0]) := by
  have hn : num 36 [90, 122] = 1295 := by decide
  have hl : natL 1295 = [1295] := by simp [natL, digs]
  refine from_base_main [90, 122] (by intro c hc; simp at hc; omega) (by simp) 36 (by decide) (by simp) (fun j hj => ?_) _ (fun _ => by rw [hn, hl]) (fun h => absurd ?_ h)
  · simp at hj
    have : j = 0 ∨ j = 1 := by omega
    rcases this with rfl | rfl <;> decide
  · rw [hn]
    have := pow_mono64 (show 1 ≤ 4096 by decide)
    rw [Int.pow_succ, Int.pow_zero] at this
    simp only [B64] at this ⊢
    omega

end Go.Proofs.YtjhkpjddcaglnaaDoor
set_option linter.unusedVariables false
set_option linter.unusedSimpArgs false
namespace Go.Proofs.YtjhkpjddcaglnaaDoor
open Go Go.PV

theorem from_base_ok {s : List Int} (hs : Bytes' s) (hsl : s.length ≤ 1000000000000000) {b : Nat} (hb : 2 ≤ b ∧ b ≤ 36) (hne : s ≠ []) (hok : ∀ j, j < s.length → worth (s.getD j 0) < b) (hv : ((num b s : Nat) : Int) < B64 ^ 4096) :
    Meets Tryd.prog 33 [.str s, .int .i64 (b : Int)] (.tup [.ints .u64 (natL (num b s)), .int .i64 0, .int .i64 0]) :=
  from_base_main s hs hsl b hb hne hok _ (fun _ => rfl) (fun h => absurd hv h)
/-- What is written is read back. -/
theorem back_ok {a : List Int} (ha : Limbs a) {b : Nat} (hb : 2 ≤ b ∧ b ≤ 36) (u : Bool) (h : size a ≤ 4096) :
    Meets Tryd.prog 33 [.str (written b u (val a).toNat), .int .i64 (b : Int)] (.tup [.ints .u64 (trim a), .int .i64 0, .int .i64 0]) := by
  have hn := val_nonneg ha
  have hw := written_num hb u (val a).toNat
  have := from_base_ok (written_bytes hb u (val a).toNat) (by have := written_len ha h hb.1 u; omega) hb (written_ne hb u _) (fun j hj => by
    obtain ⟨d, hd, e⟩ := written_digit hb u _ j hj
    rw [e, (letter_all u ⟨d, by omega⟩).1]
    simp only
    omega) (by rw [hw]; have := val_small ha h; omega)
  rw [hw, ← trim_eq ha] at this
  exact this
end Go.Proofs.YtjhkpjddcaglnaaDoor
set_option linter.unusedVariables false
set_option linter.unusedSimpArgs false
namespace Go.Proofs.YtjhkpjddcaglnaaDoor
open Go Go.PV

def valueOf (c : Int) : Int := if 48 ≤ c ∧ c ≤ 57 then c - 48 else if 97 ≤ c ∧ c ≤ 122 then c - 97 + 10 else if 65 ≤ c ∧ c ≤ 90 then c - 65 + 10 else 99

theorem value_worth (c base : Int) (h : base ≤ 36) : base ≤ valueOf c ↔ base ≤ worth c := by
  unfold valueOf worth
  repeat' split
  all_goals omega

def lower (c : Int) : Int := if 65 ≤ c ∧ c ≤ 90 then c - 65 + 97 else c

/-- What plain holds behind i bytes. -/
def pl (s : List Int) : Nat → List Int
  | 0 => []
  | i + 1 => if lower (s.getD i 0) ≠ 48 ∨ pl s i ≠ [] ∨ i + 1 = s.length then pl s i ++ [lower (s.getD i 0)] else pl s i

theorem pl_len (s : List Int) : ∀ i, (pl s i).length ≤ i
  | 0 => Nat.le_refl _
  | i + 1 => by
    have := pl_len s i
    simp only [pl]
    split <;> simp <;> omega

theorem lower_byte {c : Int} (hc : 0 ≤ c ∧ c < 256) : 0 ≤ lower c ∧ lower c < 256 := by
  unfold lower; split <;> omega

theorem pl_bytes {s : List Int} (hs : Bytes' s) : ∀ i, i ≤ s.length → Bytes' (pl s i)
  | 0, _ => fun x hx => by cases hx
  | i + 1, h => by
    have ih := pl_bytes hs i (by omega)
    simp only [pl]
    split
    · intro x hx
      rcases List.mem_append.1 hx with h1 | h1
      · exact ih x h1
      · rw [List.mem_singleton] at h1; subst h1
        exact lower_byte (getD_byte' hs (by omega))
    · exact ih

abbrev plF (s : List Int) (i n : Nat) : PV.Frame := [(4, .int .i64 (i : Int)), (3, .sl 0 0 n true), (0, .str s)]

end Go.Proofs.YtjhkpjddcaglnaaDoor
set_option linter.unusedVariables false
set_option linter.unusedSimpArgs false
namespace Go.Proofs.YtjhkpjddcaglnaaDoor
open Go Go.PV

theorem lower_all : ∀ c : Fin 256, worth (c.val : Int) < 36 → lower (c.val : Int) = letter false (worth (c.val : Int)).toNat := by decide +kernel

theorem lower_letter {c : Int} (hc : 0 ≤ c ∧ c < 256) (h : worth c < 36) : lower c = letter false (worth c).toNat := by
  have := lower_all ⟨c.toNat, by omega⟩
  simp only at this
  rw [show ((c.toNat : Nat) : Int) = c by omega] at this
  exact this h

theorem text_next {b : Nat} (hb : 2 ≤ b) (u : Bool) {v d : Nat} (hd : d < b) (h : v * b + d ≠ 0) : text b u (v * b + d) = text b u v ++ [letter u d] := by
  rw [text_step hb u h]
  have e1 : (v * b + d) / b = v := by
    rw [Nat.mul_comm, Nat.mul_add_div (by omega), Nat.div_eq_of_lt hd, Nat.add_zero]
  have e2 : (v * b + d) % b = d := by
    rw [Nat.mul_comm, Nat.mul_add_mod, Nat.mod_eq_of_lt hd]
  rw [e1, e2]

theorem pl_step {b : Nat} (hb : 2 ≤ b ∧ b ≤ 36) {s : List Int} (hs : Bytes' s) (hok : ∀ j, j < s.length → worth (s.getD j 0) < b) {i : Nat} (hi : i < s.length) (h : pl s i = text b false (numN b s i)) :
    pl s (i + 1) = if i + 1 = s.length then written b false (numN b s (i + 1)) else text b false (numN b s (i + 1)) := by
  have hc := getD_byte' hs hi
  have hw := hok i hi
  have hw0 := worth_nonneg (s.getD i 0)
  have hlow := lower_letter hc (by omega)
  have hd : (worth (s.getD i 0)).toNat < b := by omega
  have hl0 := (letter_all false ⟨(worth (s.getD i 0)).toNat, by omega⟩).2.1
  simp only at hl0
  have e : numN b s (i + 1) = numN b s i * b + (worth (s.getD i 0)).toNat := rfl
  have ep : pl s (i + 1) = if lower (s.getD i 0) ≠ 48 ∨ pl s i ≠ [] ∨ i + 1 = s.length then pl s i ++ [lower (s.getD i 0)] else pl s i := rfl
  rw [e, ep, hlow, h]
  generalize (worth (s.getD i 0)).toNat = d at *
  generalize numN b s i = v at *
  by_cases hv : v * b + d = 0
  · have hd0 : d = 0 := by omega
    have hv0 : v = 0 := by
      rcases Nat.eq_zero_or_pos v with h | h
      · exact h
      · have := Nat.mul_pos h (show 0 < b by omega); omega
    subst hd0 hv0
    rw [letter_zero, text_nil]
    by_cases hlast : i + 1 = s.length
    · rw [if_pos (.inr (.inr hlast)), if_pos hlast]
      simp [written]
    · rw [if_neg (by simp [hlast]), if_neg hlast]
      simp [text_nil]
  · rw [text_next hb.1 false hd hv]
    have hne : letter false d ≠ 48 ∨ text b false v ≠ [] ∨ i + 1 = s.length := by
      by_cases h1 : d = 0
      · right; left
        refine text_ne hb.1 false ?_
        rintro rfl
        omega
      · left; exact fun h => h1 (hl0 h)
    rw [if_pos hne]
    split
    · unfold written; rw [if_neg hv, text_next hb.1 false hd hv]
    · rfl

theorem pl_text {b : Nat} (hb : 2 ≤ b ∧ b ≤ 36) {s : List Int} (hs : Bytes' s) (hok : ∀ j, j < s.length → worth (s.getD j 0) < b) : ∀ i, i < s.length → pl s i = text b false (numN b s i)
  | 0, _ => by simp [pl, numN, text_nil]
  | i + 1, h => by
    rw [pl_step hb hs hok (show i < s.length by omega) (pl_text hb hs hok i (by omega)), if_neg (by omega)]

theorem pl_written {b : Nat} (hb : 2 ≤ b ∧ b ≤ 36) {s : List Int} (hs : Bytes' s) (hok : ∀ j, j < s.length → worth (s.getD j 0) < b) (hne : s ≠ []) : pl s s.length = written b false (num b s) := by
  obtain ⟨n, hn⟩ : ∃ n, s.length = n + 1 := ⟨s.length - 1, by have := List.length_pos_iff.2 hne; omega⟩
  have := pl_step hb hs hok (show n < s.length by omega) (pl_text hb hs hok n (by omega))
  rw [if_pos hn.symm] at this
  unfold num
  rw [hn]; exact this

theorem text_lt {b : Nat} (hb : 2 ≤ b) (u : Bool) : ∀ v, v < b ^ (text b u v).length := by
  intro v
  induction v using Nat.strongRecOn with
  | _ v ih =>
    by_cases h0 : v = 0
    · subst h0; exact Nat.pow_pos (by omega)
    · rw [text_step hb u h0, List.length_append, List.length_singleton, Nat.pow_succ]
      have h1 := ih _ (Nat.div_lt_self (by omega) (show 1 < b by omega))
      have h2 := Nat.div_add_mod' v b
      have h3 := Nat.mod_lt v (show b > 0 by omega)
      have h4 : (v / b + 1) * b ≤ b ^ (text b u (v / b)).length * b := Nat.mul_le_mul_right _ h1
      rw [Nat.add_mul, Nat.one_mul] at h4
      omega

set_option exponentiation.threshold 300000 in
theorem text_long {b : Nat} (hb : 2 ≤ b ∧ b ≤ 36) (u : Bool) {v : Nat} (h : ¬ ((v : Nat) : Int) < B64 ^ 4096) : 50000 < (text b u v).length := by
  rcases Nat.lt_or_ge 50000 (text b u v).length with h1 | h1
  · exact h1
  · exfalso
    refine h ?_
    have h2 := text_lt hb.1 u v
    have h3 : b ^ (text b u v).length ≤ 36 ^ 50000 := Nat.le_trans (Nat.pow_le_pow_left hb.2 _) (Nat.pow_le_pow_right (by decide) h1)
    have h4 : 36 ^ 50000 ≤ 2 ^ 262144 := by
      have e1 : 36 ^ 50000 = (36 ^ 25) ^ 2000 := by rw [← Nat.pow_mul]
      have e2 : (2 : Nat) ^ 262144 = (2 ^ 130) ^ 2000 * 2 ^ 2144 := by rw [← Nat.pow_mul, ← Nat.pow_add]
      have e3 : (36 : Nat) ^ 25 ≤ 2 ^ 130 := by decide
      rw [e1, e2]
      exact Nat.le_trans (Nat.pow_le_pow_left e3 2000) (Nat.le_mul_of_pos_right _ (Nat.two_pow_pos _))
    rw [pow4096]
    omega

-- limbs of a number
theorem natL_limbs : ∀ v, Limbs (natL v) := by
  intro v x hx
  unfold natL at hx
  obtain ⟨d, hd, rfl⟩ := List.mem_map.1 hx
  have := digs_lt (b := 18446744073709551616) (by decide) v d hd
  omega

theorem val_natL : ∀ v : Nat, val (natL v) = (v : Int) := by
  intro v
  induction v using Nat.strongRecOn with
  | _ v ih =>
    by_cases h0 : v = 0
    · subst h0; simp [natL, digs_zero, val, vt]
    · have e : natL v = ((v % 18446744073709551616 : Nat) : Int) :: natL (v / 18446744073709551616) := by
        unfold natL
        rw [digs_step (b := 18446744073709551616) (by decide) h0, List.map_cons]
      rw [e, val_cons, ih _ (Nat.div_lt_self (by omega) (by decide))]
      simp only [B64]
      omega

theorem natL_size {v : Nat} (h : ((v : Nat) : Int) < B64 ^ 4096) : size (natL v) ≤ 4096 := by
  have h1 := nrm_bound (nrm_trim (natL_limbs v)) (k := 4096) (by rw [val_trim, val_natL]; exact h)
  rwa [trim_len] at h1

set_option exponentiation.threshold 300000 in
theorem natL_len {v : Nat} (h : ((v : Nat) : Int) < B64 ^ 4096) : (natL v).length ≤ 262144 := by
  unfold natL
  rw [List.length_map]
  refine digs_len (by decide) 262144 v ?_
  rw [pow4096] at h
  omega

theorem forth_in {b : Nat} (hb : 2 ≤ b ∧ b ≤ 36) {v : Nat} (h : ((v : Nat) : Int) < B64 ^ 4096) : Meets Tryd.prog 71 [.ints .u64 (natL v), .int .i64 (b : Int), .bool false] (.tup [.str (written b false v), .int .i64 0]) := by
  have := in_base_ok (natL_limbs v) (by have := natL_len h; omega) hb false (natL_size h)
  rwa [val_natL, Int.toNat_natCast] at this

theorem from_base_over {s : List Int} (hs : Bytes' s) (hsl : s.length ≤ 1000000000000000) {b : Nat} (hb : 2 ≤ b ∧ b ≤ 36) (hne : s ≠ []) (hok : ∀ j, j < s.length → worth (s.getD j 0) < b) (hv : ¬ ((num b s : Nat) : Int) < B64 ^ 4096) :
    Meets Tryd.prog 33 [.str s, .int .i64 (b : Int)] (.tup [.nil, .int .i64 0, .int .i64 2]) :=
  from_base_main s hs hsl b hb hne hok _ (fun h => absurd h hv) (fun _ => rfl)
end Go.Proofs.YtjhkpjddcaglnaaDoor
set_option linter.unusedVariables false
set_option linter.unusedSimpArgs false
namespace Go.Proofs.YtjhkpjddcaglnaaDoor
open Go Go.PV

/-- A list of limbs without high zeros is the number's own. -/
theorem trim_limbsOf {n v : Nat} (h : v < 18446744073709551616 ^ n) : trim (limbsOf n v) = natL v := by
  rw [trim_eq (limbsOf_limbs n v), limbsOf_val h, Int.toNat_natCast]

theorem trim_natL (v : Nat) : trim (natL v) = natL v := by rw [trim_eq (natL_limbs v), val_natL, Int.toNat_natCast]

theorem size_natL (v : Nat) : size (natL v) = (natL v).length := by
  have := trim_len (natL v)
  rw [trim_natL] at this
  exact this.symm

theorem natL_nrm (v : Nat) : Nrm (natL v) := by
  have := nrm_trim (natL_limbs v)
  rwa [trim_natL] at this

theorem natL_lt (v : Nat) : v < 18446744073709551616 ^ (natL v).length := by
  have h := vt_bound (natL_limbs v) (natL v).length
  have h2 : vt (natL v) (natL v).length = (v : Int) := val_natL v
  rw [h2] at h
  have e : B64 ^ (natL v).length = ((18446744073709551616 ^ (natL v).length : Nat) : Int) := by rw [Int.natCast_pow]; rfl
  rw [e] at h
  omega

theorem natL_ge {v : Nat} (h : v ≠ 0) : 0 < (natL v).length ∧ 18446744073709551616 ^ ((natL v).length - 1) ≤ v := by
  have hpos : 0 < (natL v).length := by
    unfold natL
    rw [digs_step (b := 18446744073709551616) (by decide) h]; simp
  have := natL_nrm v (by omega)
  rw [val_natL] at this
  have e : B64 ^ ((natL v).length - 1) = ((18446744073709551616 ^ ((natL v).length - 1) : Nat) : Int) := by rw [Int.natCast_pow]; rfl
  rw [e] at this
  exact ⟨hpos, by omega⟩

/-- The limit of the naturals. -/
abbrev NMax : Nat := 18446744073709551616 ^ 4096
set_option exponentiation.threshold 300000 in
theorem nmax_int : B64 ^ 4096 = ((NMax : Nat) : Int) := by rw [Int.natCast_pow]; rfl

theorem natL_small {v : Nat} (h : v < NMax) : (natL v).length ≤ 4096 := by
  have := natL_size (v := v) (by rw [nmax_int]; omega)
  rwa [size_natL] at this

theorem pow64_mono {m n : Nat} (h : m ≤ n) : 18446744073709551616 ^ m ≤ 18446744073709551616 ^ n := Nat.pow_le_pow_right (by decide) h

/-- nat.Mul, told by numbers. -/
theorem mul_nat {u v : Nat} (hu : u ≠ 0) (hv : v ≠ 0) (hul : u < NMax) (hvl : v < NMax) (h : u * v < NMax) : Meets Tryd.prog 14 [.ints .u64 (natL u), .ints .u64 (natL v)] (.tup [.ints .u64 (natL (u * v)), .int .i64 0]) := by
  have h1 := natL_small hul
  have h2 := natL_small hvl
  have g1 := natL_ge hu
  have g2 := natL_ge hv
  have hlt : u * v < 18446744073709551616 ^ ((natL u).length + (natL v).length) := by
    rw [Nat.pow_add]
    exact Nat.mul_lt_mul_of_lt_of_le (natL_lt u) (Nat.le_of_lt (natL_lt v)) (Nat.pow_pos (by decide))
  have hsum : (natL u).length + (natL v).length ≤ 4097 := by
    rcases Nat.lt_or_ge 4097 ((natL u).length + (natL v).length) with h3 | h3
    · exfalso
      have h4 : 18446744073709551616 ^ (((natL u).length - 1) + ((natL v).length - 1)) ≤ u * v := by
        rw [Nat.pow_add]; exact Nat.mul_le_mul g1.2 g2.2
      have h5 := pow64_mono (show 4096 ≤ ((natL u).length - 1) + ((natL v).length - 1) by omega)
      unfold NMax at h
      omega
    · exact h3
  have hval : (val (natL u) * val (natL v)).toNat = u * v := by
    rw [val_natL, val_natL]
    have : ((u : Int) * (v : Int)) = ((u * v : Nat) : Int) := by simp
    rw [this, Int.toNat_natCast]
  have hm := nat_mul (natL u) (natL v) (natL_limbs u) (natL_limbs v) (by omega) (by omega) (by rw [size_natL]; exact h1) (by rw [size_natL]; exact h2) (by rw [size_natL]; exact g1.1) (by rw [size_natL]; exact g2.1) (by rw [size_natL, size_natL]; exact hsum) _ rfl
  rw [hval, size_natL, size_natL] at hm
  have htr := trim_limbsOf hlt
  have hsz : size (limbsOf ((natL u).length + (natL v).length) (u * v)) = (natL (u * v)).length := by
    have := trim_len (limbsOf ((natL u).length + (natL v).length) (u * v))
    rw [htr] at this
    exact this.symm
  rw [hsz, if_neg (by have := natL_small h; omega), htr] at hm
  exact hm

theorem mul_long (a0 b0 : List Int) (hla : a0.length ≤ 9223372036854775807) (hlb : b0.length ≤ 9223372036854775807) (hsa : size a0 ≤ 4096) (hsb : size b0 ≤ 4096) (h0a : 0 < size a0) (h0b : 0 < size b0) (hsum : 4097 < size a0 + size b0) : Meets Tryd.prog 14 [.ints .u64 a0, .ints .u64 b0] (.tup [.nil, .int .i64 2]) := by
  refine meets_by ttOk Tryd.func14 Tryd.ntmps14 Tryd.results14 (by kernel_rfl) (c := _) rfl rfl rfl fun E => ?_
  simp only [argsFrame]
  have hsa' := size_le a0
  have hsb' := size_le b0
  have hba : decide (4096 < size a0) = false := by simp; omega
  have hbb : decide (4096 < size b0) = false := by simp; omega
  have hal : (List.take (size a0) a0).length = size a0 := by simp; omega
  have hbl : (List.take (size b0) b0).length = size b0 := by simp; omega
  repeat' first
    | (with_reducible first | refine PW.seq ?_ | refine PW.block ?_ | refine PW.fork ?_ | refine PW.skip ?_ | refine PW.exit ?_ | refine PW.ret ?_)
    | (with_reducible refine PW.region ttOk ?_ ?_
       · rfl)
    | (with_reducible refine PW.regionD ttOk mixed ?_ ?_ ?_
       · rfl
       · rfl)
    | (with_reducible refine ifW_dec (fun g => ?_) (fun g => ?_) <;> first | (exfalso; omega) | (simp -dsimp only [g, wkI]))
    | (with_reducible refine condE_dec (fun g => ?_) (fun g => ?_) <;> try (exfalso; omega))
    | (with_reducible refine condE_not (fun g => ?_) (fun g => ?_) <;> try (exfalso; omega))
    | (simp -dsimp only [↓wkA, ↓wkE, wkB, ↓tt, Nat.reduceBEq, Nat.reduceEqDiff, ↓reduceIte, Nat.reduceLT, Array.toList, Nat.reduceAdd, Nat.reduceMul, Int.reduceToNat, Int.reducePow, UInt8.reduceToNat])
    | (refine call_by (nat_big _ (by first | assumption | omega)) (views_data rfl) ⟨trivial, trivial⟩ rfl ?_)
    | (refine callD_by (nat_size _ (by first | assumption | omega)) (views_data rfl) ⟨trivial, trivial⟩ rfl ?_)
    | (simp only [hal, hbl])
    | (simp -dsimp only [hba, hbb])
    | (simp -dsimp (disch := first | assumption | omega) only [dec_t, dec_f])
    | (refine And.intro ?_ ?_
       · first | omega | decide | (simp (disch := omega) only [wkW, Int.reduceToNat, Int.reducePow] <;> omega) | (simp <;> omega))
    | (simp (disch := omega) only [wkW, Int.reduceToNat, Int.reducePow])
    | fail
  exfalso
  simp (disch := omega) only [hal, hbl, wkW, Int.reduceToNat, Int.reducePow] at g
  omega

set_option exponentiation.threshold 300000 in
theorem mul_over {u v : Nat} (hu : u ≠ 0) (hv : v ≠ 0) (hul : u < NMax) (hvl : v < NMax) (h : ¬ u * v < NMax) : Meets Tryd.prog 14 [.ints .u64 (natL u), .ints .u64 (natL v)] (.tup [.nil, .int .i64 2]) := by
  have h1 := natL_small hul
  have h2 := natL_small hvl
  have g1 := natL_ge hu
  have g2 := natL_ge hv
  by_cases hsum : 4097 < (natL u).length + (natL v).length
  · exact mul_long _ _ (by omega) (by omega) (by rw [size_natL]; exact h1) (by rw [size_natL]; exact h2) (by rw [size_natL]; exact g1.1) (by rw [size_natL]; exact g2.1) (by rw [size_natL, size_natL]; exact hsum)
  have hlt : u * v < 18446744073709551616 ^ ((natL u).length + (natL v).length) := by
    rw [Nat.pow_add]
    exact Nat.mul_lt_mul_of_lt_of_le (natL_lt u) (Nat.le_of_lt (natL_lt v)) (Nat.pow_pos (by decide))
  have hval : (val (natL u) * val (natL v)).toNat = u * v := by
    rw [val_natL, val_natL]
    have : ((u : Int) * (v : Int)) = ((u * v : Nat) : Int) := by simp
    rw [this, Int.toNat_natCast]
  have hm := nat_mul (natL u) (natL v) (natL_limbs u) (natL_limbs v) (by omega) (by omega) (by rw [size_natL]; exact h1) (by rw [size_natL]; exact h2) (by rw [size_natL]; exact g1.1) (by rw [size_natL]; exact g2.1) (by rw [size_natL, size_natL]; omega) _ rfl
  rw [hval, size_natL, size_natL] at hm
  have htr := trim_limbsOf hlt
  have hsz : size (limbsOf ((natL u).length + (natL v).length) (u * v)) = (natL (u * v)).length := by
    have := trim_len (limbsOf ((natL u).length + (natL v).length) (u * v))
    rw [htr] at this
    exact this.symm
  have hbig : 4096 < (natL (u * v)).length := by
    rcases Nat.lt_or_ge 4096 (natL (u * v)).length with h3 | h3
    · exact h3
    · exfalso
      have h4 := natL_lt (u * v)
      have h5 := pow64_mono h3
      exact h (Nat.lt_of_lt_of_le h4 h5)
  rw [hsz, if_pos hbig] at hm
  exact hm
end Go.Proofs.YtjhkpjddcaglnaaDoor
set_option linter.unusedVariables false
set_option linter.unusedSimpArgs false
namespace Go.Proofs.YtjhkpjddcaglnaaDoor
open Go Go.PV

theorem sub64 {x y c : Int} (hx : 0 ≤ x ∧ x < 18446744073709551616) (hy : 0 ≤ y ∧ y < 18446744073709551616) (hc : 0 ≤ c ∧ c ≤ 1) : Meets Tryd.prog 39 [.int .u64 x, .int .u64 y, .int .u64 c] (.tup [.int .u64 ((x - y - c) % 18446744073709551616), .int .u64 (-((x - y - c) / 18446744073709551616))]) :=
  meets_extern Tryd.func39 (by kernel_rfl) (by kernel_rfl) (by kernel_rfl) (e := sub64Entry) (by kernel_rfl) fun w A vs hl ha => by
    obtain rfl := args3 hl ha
    obtain ⟨x, rfl⟩ := Int.eq_ofNat_of_zero_le hx.1
    obtain ⟨y, rfl⟩ := Int.eq_ofNat_of_zero_le hy.1
    obtain ⟨c, rfl⟩ := Int.eq_ofNat_of_zero_le hc.1
    refine ⟨_, run_sub64 x y c (by omega) w, .tup _ _ rfl fun i hi => ?_⟩
    have e1 : ((((x + 18446744073709551616 - y - c) % 18446744073709551616 : Nat)) : Int) = ((x : Int) - y - c) % 18446744073709551616 := by omega
    have e2 : ((if x < y + c then 1 else 0 : Nat) : Int) = -(((x : Int) - y - c) / 18446744073709551616) := by split <;> omega
    rw [e1, e2]
    match i, hi with
    | 0, _ => exact .int _ _
    | 1, _ => exact .int _ _

/-- What the rounds of a difference keep. -/
structure SubS (a b o : List Int) (i : Nat) (c : Int) : Prop where
  len : o.length = a.length
  lim : Limbs o
  car : 0 ≤ c ∧ c ≤ 1
  eq : vt o i = vt a i - vt b i + B64 ^ i * c

theorem SubS.step {a b o : List Int} {i : Nat} {c s : Int} (h : SubS a b o i c) (ha : Limbs a) (hb : Limbs b) (hi : i < a.length) (hs : s = a.getD i 0 - b.getD i 0 - c) : SubS a b (o.set i (s % 18446744073709551616)) (i + 1) (-(s / 18446744073709551616)) := by
  have hlt : i < o.length := by rw [h.len]; exact hi
  have hx := getD_limb ha i
  have hy := getD_limb hb i
  have hc := h.car
  simp only [B64] at hx hy
  refine ⟨by rw [List.length_set, h.len], limbs_set h.lim _ ⟨Int.emod_nonneg _ (by decide), Int.emod_lt_of_pos _ (by decide)⟩, by omega, ?_⟩
  simp only [vt]
  rw [vt_set_ge _ _ _ _ hlt (Nat.le_refl _), getD_set _ _ _ _ hlt, if_pos rfl, h.eq, Int.pow_succ]
  have hsum : 18446744073709551616 * (s / 18446744073709551616) + s % 18446744073709551616 = s := Int.mul_ediv_add_emod s 18446744073709551616
  rw [hs] at hsum ⊢
  simp only [B64]
  generalize (18446744073709551616 : Int) ^ i = p at *
  generalize (a.getD i 0 - b.getD i 0 - c) / 18446744073709551616 = q at *
  generalize (a.getD i 0 - b.getD i 0 - c) % 18446744073709551616 = r at *
  grind

theorem vt_beyond {b : List Int} : ∀ n, b.length ≤ n → vt b n = val b := fun n h => by
  obtain ⟨d, rfl⟩ := Nat.exists_eq_add_of_le h
  clear h
  induction d with
  | zero => rfl
  | succ d ih =>
    rw [show b.length + (d + 1) = (b.length + d) + 1 by omega]
    simp only [vt]
    rw [ih, List.getD_eq_getElem?_getD, List.getElem?_eq_none (by omega)]
    simp

theorem SubS.fin {a b o : List Int} {c : Int} (h : SubS a b o a.length c) (hlen : b.length ≤ a.length) (hle : val b ≤ val a) : val o = val a - val b := by
  have h1 := h.eq
  rw [vt_beyond _ hlen, vt_beyond _ (Nat.le_refl _), ← h.len, show vt o o.length = val o from rfl] at h1
  have h2 := (vt_bound h.lim o.length).2
  have h3 : val o < B64 ^ o.length := h2
  have hp := pow_pos64 o.length
  have hc := h.car
  rcases (show c = 0 ∨ c = 1 by omega) with rfl | rfl
  · omega
  · omega

theorem size_as {a : List Int} (hla : a.length ≤ 4096) (hsa : size a = a.length) : Meets Tryd.prog 35 [.ints .u64 a] (.int .i64 (a.length : Int)) := by
  have := nat_size a (by omega)
  rwa [hsa] at this
theorem big_as {a : List Int} (hla : a.length ≤ 4096) (hsa : size a = a.length) : Meets Tryd.prog 34 [.ints .u64 a] (.bool false) := by
  have := nat_big a (by omega)
  rwa [hsa, decide_eq_false (by omega)] at this
theorem cut_as {o : List Int} (ho : Limbs o) (hol : o.length ≤ 100000) {v : Nat} (hv : val o = v) (hm : v < NMax) : Meets Tryd.prog 38 [.ints .u64 o] (.tup [.ints .u64 (natL v), .int .i64 0]) := by
  have h := nat_cut o (by omega)
  have ht : trim o = natL v := by rw [trim_eq ho, hv, Int.toNat_natCast]
  have hs : ¬ 4096 < size o := by rw [← trim_len, ht]; have := natL_small hm; omega
  rwa [if_neg hs, ht] at h

abbrev sbF (a b : List Int) (i : Nat) (c : Int) : PV.Frame := [(34, .int .i64 (i : Int)), (33, .int .i64 a.length), (32, .ints .u64 a), (7, .int .u64 c), (6, .sl 0 0 a.length true), (1, .ints .u64 b), (0, .ints .u64 a)]

theorem sub_list (a b : List Int) (ha : Limbs a) (hb : Limbs b) (hla : a.length ≤ 4096) (hlb : b.length ≤ 4096) (hsa : size a = a.length) (hsb : size b = b.length) (hlen : b.length ≤ a.length) (hle : val b ≤ val a) (v : Nat) (hv : val a - val b = v) (hm : v < NMax) :
    Meets Tryd.prog 16 [.ints .u64 a, .ints .u64 b] (.tup [.ints .u64 (natL v), .int .i64 0]) := by
  have hcm := nat_cmp a b ha hb (by omega) (by omega)
  have hc0 : 0 ≤ cmpN a b := by unfold cmpN; split <;> (try split) <;> omega
  have s1 := size_as hla hsa
  have s2 := size_as hlb hsb
  have b1 := big_as hla hsa
  have b2 := big_as hlb hsb
  have hcut : ∀ o, Limbs o → o.length ≤ 100000 → val o = v → Meets Tryd.prog 38 [.ints .u64 o] (.tup [.ints .u64 (natL v), .int .i64 0]) := fun o h1 h2 h3 => cut_as h1 h2 h3 hm
  generalize cmpN a b = cm at *
  generalize natL v = res at *
  clear hm hsa hsb
  refine meets_by ttOk Tryd.func16 Tryd.ntmps16 Tryd.results16 (by kernel_rfl) (c := _) rfl rfl rfl fun E => ?_
  simp only [argsFrame]
  repeat' first
    | (with_reducible first | refine PW.seq ?_ | refine PW.block ?_ | refine PW.fork ?_ | refine PW.skip ?_ | refine PW.exit ?_ | refine PW.ret ?_)
    | (with_reducible refine PW.region ttOk ?_ ?_
       · rfl)
    | (with_reducible refine PW.regionD ttOk mixed ?_ ?_ ?_
       · rfl
       · rfl)
    | (with_reducible refine ifW_dec (fun g => ?_) (fun g => ?_) <;> first | (exfalso; omega) | (simp -dsimp only [g, wkI]))
    | (with_reducible refine condE_dec (fun g => ?_) (fun g => ?_) <;> try (exfalso; omega))
    | (with_reducible refine condE_not (fun g => ?_) (fun g => ?_) <;> try (exfalso; omega))
    | (simp -dsimp only [↓wkA, ↓wkE, wkB, ↓tt, Nat.reduceBEq, Nat.reduceEqDiff, ↓reduceIte, Nat.reduceLT, Array.toList, Nat.reduceAdd, Nat.reduceMul, Int.reduceToNat, Int.reducePow, UInt8.reduceToNat])
    | (refine call_by b1 (views_data rfl) ⟨trivial, trivial⟩ rfl ?_)
    | (refine call_by b2 (views_data rfl) ⟨trivial, trivial⟩ rfl ?_)
    | (refine call_by hcm (views_data rfl) ⟨trivial, trivial, trivial⟩ rfl ?_)
    | (refine callD_by s1 (views_data rfl) ⟨trivial, trivial⟩ rfl ?_)
    | (refine callD_by s2 (views_data rfl) ⟨trivial, trivial⟩ rfl ?_)
    | (simp -dsimp (disch := first | assumption | omega) only [dec_t, dec_f])
    | (refine And.intro ?_ ?_
       · first | omega | decide | (simp (disch := omega) only [wkW, Int.reduceToNat, Int.reducePow] <;> omega) | (simp <;> omega))
    | (simp (disch := omega) only [wkW, Int.reduceToNat, Int.reducePow])
    | fail
  refine PW.loopA (fun m F H => ∃ i o c, i + m = a.length ∧ SubS a b o i c ∧ F = sbF a b i c ∧ H = ⟨1, [(0, .ints .u64 o)], [], []⟩) a.length (sbF a b 0 0) ⟨1, [(0, .ints .u64 (List.replicate a.length 0))], [], []⟩ (Sub.norm ⟨rfl, rfl, rfl, rfl, rfl, rfl, rfl, trivial⟩ ⟨?_, trivial⟩ (by simp) rfl rfl rfl rfl) ⟨0, _, 0, by omega, ⟨by simp, fun x hx => by rw [List.eq_of_mem_replicate hx]; decide, by decide, by simp [vt]⟩, rfl, rfl⟩ ?_
  · simp (disch := omega) only [↓wkA, ↓wkE, wkB, ↓tt, Nat.reduceBEq, Nat.reduceEqDiff, ↓reduceIte, Nat.reduceLT, Array.toList, Nat.reduceAdd, Nat.reduceMul, Int.reduceToNat, Int.reducePow, UInt8.reduceToNat, wkW, Int.reduceToNat, Int.reducePow]
  rintro m F H ⟨i, o, c, hi, hS, rfl, rfl⟩
  have hol := hS.len
  cases m with
  | zero =>
    obtain rfl : i = a.length := by omega
    have hc := hcut o hS.lim (by omega) (by rw [hS.fin hlen hle]; exact hv)
    repeat' first
      | (with_reducible first | refine PW.seq ?_ | refine PW.block ?_ | refine PW.fork ?_ | refine PW.skip ?_ | refine PW.exit ?_ | refine PW.ret ?_)
      | (with_reducible refine PW.region ttOk ?_ ?_
         · rfl)
      | (with_reducible refine PW.regionD ttOk mixed ?_ ?_ ?_
         · rfl
         · rfl)
      | (with_reducible refine ifW_dec (fun g => ?_) (fun g => ?_) <;> first | (exfalso; omega) | (simp -dsimp only [g, wkI]))
      | (with_reducible refine condE_dec (fun g => ?_) (fun g => ?_) <;> try (exfalso; omega))
      | (with_reducible refine condE_not (fun g => ?_) (fun g => ?_) <;> try (exfalso; omega))
      | (simp -dsimp only [↓wkA, ↓wkE, wkB, ↓tt, Nat.reduceBEq, Nat.reduceEqDiff, ↓reduceIte, Nat.reduceLT, Array.toList, Nat.reduceAdd, Nat.reduceMul, Int.reduceToNat, Int.reducePow, UInt8.reduceToNat])
      | (refine call_drop (args' := [.ints .u64 o]) (by simp -dsimp only [↓wkA, ↓wkE, wkB, ↓tt, Nat.reduceBEq, Nat.reduceEqDiff, ↓reduceIte, Nat.reduceLT, Array.toList, Nat.reduceAdd, Nat.reduceMul, Int.reduceToNat, Int.reducePow, UInt8.reduceToNat] <;> rw [List.take_of_length_le (by omega)]) hc (by simp -dsimp only [okViews, ↓wkA, ↓wkE, wkB, ↓tt, Nat.reduceBEq, Nat.reduceEqDiff, ↓reduceIte, Nat.reduceLT, Array.toList, Nat.reduceAdd, Nat.reduceMul, Int.reduceToNat, Int.reducePow, UInt8.reduceToNat] <;> omega) rfl ?_)
      | (simp -dsimp (disch := first | assumption | omega) only [dec_t, dec_f])
      | (refine And.intro ?_ ?_
         · first | omega | decide | (simp (disch := omega) only [wkW, Int.reduceToNat, Int.reducePow] <;> omega) | (simp <;> omega))
      | (simp (disch := omega) only [wkW, Int.reduceToNat, Int.reducePow])
      | fail
  | succ m =>
    have hx := getD_limb ha i
    have hy := getD_limb hb i
    have hc := hS.car
    simp only [B64] at hx hy
    have hstep := hS.step ha hb (by omega) rfl
    have h64 := sub64 hx hy hc
    by_cases hib : i < b.length
    · skip
      repeat' first
        | (with_reducible first | refine PW.seq ?_ | refine PW.block ?_ | refine PW.fork ?_ | refine PW.skip ?_ | refine PW.exit ?_ | refine PW.ret ?_)
        | (with_reducible refine PW.region ttOk ?_ ?_
           · rfl)
        | (with_reducible refine PW.regionD ttOk mixed ?_ ?_ ?_
           · rfl
           · rfl)
        | (with_reducible refine ifW_dec (fun g => ?_) (fun g => ?_) <;> first | (exfalso; omega) | (simp -dsimp only [g, wkI]))
        | (with_reducible refine condE_dec (fun g => ?_) (fun g => ?_) <;> try (exfalso; omega))
        | (with_reducible refine condE_not (fun g => ?_) (fun g => ?_) <;> try (exfalso; omega))
        | (simp -dsimp only [↓wkA, ↓wkE, wkB, ↓tt, Nat.reduceBEq, Nat.reduceEqDiff, ↓reduceIte, Nat.reduceLT, Array.toList, Nat.reduceAdd, Nat.reduceMul, Int.reduceToNat, Int.reducePow, UInt8.reduceToNat])
        | (refine call_by h64 (views_data rfl) ⟨trivial, trivial, trivial, trivial⟩ rfl ?_)
        | (simp -dsimp (disch := first | assumption | omega) only [dec_t, dec_f])
        | (refine And.intro ?_ ?_
           · first | omega | decide | (simp (disch := omega) only [wkW, Int.reduceToNat, Int.reducePow] <;> omega) | (simp <;> omega))
        | (simp (disch := omega) only [wkW, Int.reduceToNat, Int.reducePow])
        | fail
      exact Again.mk m (sbF a b (i + 1) _) ⟨1, [(0, .ints .u64 _)], [], []⟩ (by omega) (Sub.norm ⟨rfl, rfl, rfl, rfl, rfl, rfl, rfl, trivial⟩ ⟨rfl, trivial⟩ (Nat.le_refl _) rfl rfl rfl rfl) ⟨i + 1, _, _, by omega, hstep, rfl, rfl⟩
    · have hy0 : b.getD i 0 = 0 := by rw [List.getD_eq_getElem?_getD, List.getElem?_eq_none (by omega)]; rfl
      rw [hy0] at h64 hstep
      repeat' first
        | (with_reducible first | refine PW.seq ?_ | refine PW.block ?_ | refine PW.fork ?_ | refine PW.skip ?_ | refine PW.exit ?_ | refine PW.ret ?_)
        | (with_reducible refine PW.region ttOk ?_ ?_
           · rfl)
        | (with_reducible refine PW.regionD ttOk mixed ?_ ?_ ?_
           · rfl
           · rfl)
        | (with_reducible refine ifW_dec (fun g => ?_) (fun g => ?_) <;> first | (exfalso; omega) | (simp -dsimp only [g, wkI]))
        | (with_reducible refine condE_dec (fun g => ?_) (fun g => ?_) <;> try (exfalso; omega))
        | (with_reducible refine condE_not (fun g => ?_) (fun g => ?_) <;> try (exfalso; omega))
        | (simp -dsimp only [↓wkA, ↓wkE, wkB, ↓tt, Nat.reduceBEq, Nat.reduceEqDiff, ↓reduceIte, Nat.reduceLT, Array.toList, Nat.reduceAdd, Nat.reduceMul, Int.reduceToNat, Int.reducePow, UInt8.reduceToNat])
        | (refine call_by h64 (views_data rfl) ⟨trivial, trivial, trivial, trivial⟩ rfl ?_)
        | (simp -dsimp (disch := first | assumption | omega) only [dec_t, dec_f])
        | (refine And.intro ?_ ?_
           · first | omega | decide | (simp (disch := omega) only [wkW, Int.reduceToNat, Int.reducePow] <;> omega) | (simp <;> omega))
        | (simp (disch := omega) only [wkW, Int.reduceToNat, Int.reducePow])
        | fail
      exact Again.mk m (sbF a b (i + 1) _) ⟨1, [(0, .ints .u64 _)], [], []⟩ (by omega) (Sub.norm ⟨rfl, rfl, rfl, rfl, rfl, rfl, rfl, trivial⟩ ⟨rfl, trivial⟩ (Nat.le_refl _) rfl rfl rfl rfl) ⟨i + 1, _, _, by omega, hstep, rfl, rfl⟩
end Go.Proofs.YtjhkpjddcaglnaaDoor

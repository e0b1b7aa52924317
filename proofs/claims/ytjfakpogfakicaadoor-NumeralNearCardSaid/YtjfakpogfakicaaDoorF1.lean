import Derived.Test.YtjfakpogfakicaaDoorC2
set_option linter.unusedVariables false
set_option linter.unusedSimpArgs false
namespace Go.Proofs.YtjfakpogfakicaaDoor
open Go Go.PV

/-- What a byte is worth as a digit. -/
def worth (c : Int) : Int := if 48 ≤ c ∧ c ≤ 57 then c - 48 else if 97 ≤ c ∧ c ≤ 122 then c - 87 else if 65 ≤ c ∧ c ≤ 90 then c - 55 else 36

theorem numeral_worth (c : Int) (hc : 0 ≤ c ∧ c < 256) : Meets Tryd.prog 32 [.int .u8 c] (.int .i64 (worth c)) := by
  refine meets_by ttOk Tryd.func32 Tryd.ntmps32 Tryd.results32 (by kernel_rfl) (c := _) rfl rfl rfl fun E => ?_
  simp only [argsFrame]
  repeat' first
    | (simp (disch := omega) only [wkW, Int.reduceToNat, Int.reducePow])
    | (with_reducible first | refine PW.seq ?_ | refine PW.block ?_ | refine PW.fork ?_ | refine PW.skip ?_ | refine PW.exit ?_ | refine PW.ret ?_)
    | (with_reducible refine PW.region ttOk ?_ ?_
       · rfl)
    | (with_reducible refine PW.regionD ttOk mixed ?_ ?_ ?_
       · rfl
       · rfl)
    | (with_reducible refine ifW_dec (fun g => ?_) (fun g => ?_) <;> first | (exfalso; omega) | (simp -dsimp only [g, wkI]))
    | (with_reducible refine condE_dec (fun g => ?_) (fun g => ?_) <;> try (exfalso; omega))
    | (with_reducible refine condE_not (fun g => ?_) (fun g => ?_) <;> try (exfalso; omega))
    | (simp -dsimp only [↓wkA, wkB, ↓tt, Nat.reduceBEq, Nat.reduceEqDiff, ↓reduceIte, Nat.reduceLT, Array.toList, Nat.reduceAdd, Nat.reduceMul, Int.reduceToNat, Int.reducePow, UInt8.reduceToNat])
    | (simp -dsimp (disch := first | assumption | omega) only [dec_t, dec_f])
    | (refine And.intro ?_ ?_
       · first | omega | decide | (simp (disch := omega) only [wkW, Int.reduceToNat, Int.reducePow] <;> omega) | (simp <;> omega))
    | (simp (disch := omega) only [wkW, Int.reduceToNat, Int.reducePow])
    | fail
  all_goals
    refine congrArg _ ?_
    unfold worth
    repeat' split
    all_goals omega

theorem worth_nonneg (c : Int) : 0 ≤ worth c := by
  unfold worth
  repeat' split
  all_goals omega
theorem worth_le (c : Int) : worth c ≤ 36 := by
  unfold worth
  repeat' split
  all_goals omega

/-- The number that digits write, the highest first. -/
def numN (b : Nat) (s : List Int) : Nat → Nat
  | 0 => 0
  | i + 1 => numN b s i * b + (worth (s.getD i 0)).toNat
def num (b : Nat) (s : List Int) : Nat := numN b s s.length

theorem numN_mono (b : Nat) (hb : 1 ≤ b) (s : List Int) (i : Nat) : ∀ d, numN b s i ≤ numN b s (i + d)
  | 0 => Nat.le_refl _
  | d + 1 => by
    have := numN_mono b hb s i d
    rw [show i + (d + 1) = (i + d) + 1 by omega]
    simp only [numN]
    have h2 : numN b s (i + d) * 1 ≤ numN b s (i + d) * b := Nat.mul_le_mul_left _ hb
    omega

/-- The limbs of a number, no high zero among them. -/
def natL (v : Nat) : List Int := (digs 18446744073709551616 v).map fun (d : Nat) => (d : Int)
def Nrm (a : List Int) : Prop := a.length ≠ 0 → B64 ^ (a.length - 1) ≤ val a

theorem vt_cons (x : Int) (l : List Int) : ∀ n, vt (x :: l) (n + 1) = x + B64 * vt l n
  | 0 => by simp [vt]
  | n + 1 => by
    have ih := vt_cons x l n
    have e1 : vt (x :: l) (n + 1 + 1) = vt (x :: l) (n + 1) + B64 ^ (n + 1) * (x :: l).getD (n + 1) 0 := rfl
    have e2 : vt l (n + 1) = vt l n + B64 ^ n * l.getD n 0 := rfl
    rw [e1, e2, ih, Int.pow_succ, List.getD_cons_succ]
    grind

theorem val_cons (x : Int) (l : List Int) : val (x :: l) = x + B64 * val l := vt_cons x l l.length

theorem natL_val {a : List Int} (ha : Limbs a) (hn : Nrm a) : a = natL (val a).toNat := by
  induction a with
  | nil => simp [val, vt, natL, digs_zero]
  | cons x l ih =>
    have hx := ha x (by simp)
    have hl : Limbs l := fun y hy => ha y (by simp [hy])
    have hlv := vt_bound hl l.length
    have hv := val_cons x l
    have h1 := hn (by simp)
    have hnl : Nrm l := fun h0 => by
      simp only [List.length_cons, Nat.add_sub_cancel] at h1
      obtain ⟨m, hm⟩ : ∃ m, l.length = m + 1 := ⟨l.length - 1, by omega⟩
      rw [hm, Int.pow_succ, hv] at h1
      rw [hm, Nat.add_sub_cancel]
      simp only [B64] at h1 ⊢
      omega
    have e := ih hl hnl
    have hvn : 0 ≤ val l := hlv.1
    have hne : (val (x :: l)).toNat ≠ 0 := by
      have : 0 < B64 ^ ((x :: l).length - 1) := pow_pos64 _
      omega
    have hm : (val (x :: l)).toNat % 18446744073709551616 = x.toNat := by rw [hv]; simp only [B64]; omega
    have hd : (val (x :: l)).toNat / 18446744073709551616 = (val l).toNat := by rw [hv]; simp only [B64]; omega
    unfold natL at e ⊢
    rw [digs_step (b := 18446744073709551616) (by decide) hne, hm, hd, List.map_cons, ← e]
    congr 1
    omega

theorem nrm_of_top {a : List Int} (ha : Limbs a) (h : a.length ≠ 0 → a.getD (a.length - 1) 0 ≠ 0) : Nrm a := by
  intro h0
  obtain ⟨m, hm⟩ : ∃ m, a.length = m + 1 := ⟨a.length - 1, by omega⟩
  have h1 := h h0
  rw [hm, Nat.add_sub_cancel] at h1 ⊢
  have h2 := getD_limb ha m
  have h3 := vt_bound ha m
  have h4 : B64 ^ m * 1 ≤ B64 ^ m * a.getD m 0 := Int.mul_le_mul_of_nonneg_left (by omega) (Int.le_of_lt (pow_pos64 m))
  have h5 : val a = vt a m + B64 ^ m * a.getD m 0 := by unfold val; rw [hm]; rfl
  omega

theorem val_trim (a : List Int) : val (trim a) = val a := by
  have h := size_le a
  have hl : (trim a).length = size a := by simp [trim]; omega
  unfold val
  rw [hl]
  refine Eq.trans ?_ (vt_size a)
  exact vt_same _ fun j hj => by simp [trim, List.getD_eq_getElem?_getD, List.getElem?_take, hj]

theorem limbs_trim {a : List Int} (ha : Limbs a) : Limbs (trim a) := limbs_take ha _

theorem nrm_trim {a : List Int} (ha : Limbs a) : Nrm (trim a) := by
  refine nrm_of_top (limbs_trim ha) fun h0 => ?_
  have h := size_le a
  have hl : (trim a).length = size a := by simp [trim]; omega
  rw [hl] at h0 ⊢
  have := sizeN_top a a.length h0
  simp only [trim, List.getD_eq_getElem?_getD, List.getElem?_take] at this ⊢
  rw [if_pos (by omega)]; exact this

theorem trim_eq {a : List Int} (ha : Limbs a) : trim a = natL (val a).toNat := by
  have := natL_val (limbs_trim ha) (nrm_trim ha)
  rwa [val_trim] at this

/-- Multiplication by one limb and addition: the limbs below j are done. -/
structure MulA (a t : List Int) (f p0 : Int) (j : Nat) (p : Int) : Prop where
  len : t.length = a.length
  lim : Limbs t
  high : ∀ i, j ≤ i → t.getD i 0 = a.getD i 0
  car : 0 ≤ p ∧ p < B64
  eq : vt t j + B64 ^ j * p = vt a j * f + p0

theorem MulA.start {a : List Int} {f p0 : Int} (ha : Limbs a) (hp : 0 ≤ p0 ∧ p0 < B64) : MulA a a f p0 0 p0 :=
  ⟨rfl, ha, fun _ _ => rfl, hp, by simp [vt]⟩

theorem MulA.step {a t : List Int} {f p0 p : Int} {j : Nat} (h : MulA a t f p0 j p) (ha : Limbs a) (hj : j < a.length) (hf : 0 < f ∧ f < B64) :
    MulA a (t.set j ((a.getD j 0 * f + p) % B64)) f p0 (j + 1) ((a.getD j 0 * f + p) / B64) := by
  have hx := getD_limb ha j
  have hc := h.car
  have hjt : j < t.length := by rw [h.len]; exact hj
  have hB : (0 : Int) < B64 := by decide
  have hxf : 0 ≤ a.getD j 0 * f := Int.mul_nonneg hx.1 (by omega)
  have hxf2 : a.getD j 0 * f ≤ (B64 - 1) * (B64 - 1) := Int.mul_le_mul (by omega) (by omega) (by omega) (by omega)
  have e := Int.emod_add_mul_ediv (a.getD j 0 * f + p) B64
  have e1 := Int.emod_nonneg (a.getD j 0 * f + p) (show B64 ≠ 0 by decide)
  have e2 := Int.emod_lt_of_pos (a.getD j 0 * f + p) hB
  refine ⟨by rw [List.length_set]; exact h.len, limbs_set h.lim j ⟨e1, e2⟩, fun i hi => ?_, ⟨Int.ediv_nonneg (by omega) (by decide), ?_⟩, ?_⟩
  · rw [getD_set _ _ _ _ hjt, if_neg (by omega)]; exact h.high i (by omega)
  · simp only [B64] at *; omega
  · simp only [vt]
    rw [vt_set_ge _ _ _ _ hjt (Nat.le_refl _), getD_set _ _ _ _ hjt, if_pos rfl, Int.pow_succ]
    have h3 := h.eq
    generalize (a.getD j 0 * f + p) % B64 = r at *
    generalize (a.getD j 0 * f + p) / B64 = q at *
    have e3 : B64 ^ j * r + B64 ^ j * B64 * q = B64 ^ j * (r + B64 * q) := by grind
    rw [Int.add_assoc, e3, e]
    grind
def Bytes' (l : List Int) : Prop := ∀ c ∈ l, 0 ≤ c ∧ c < 256
theorem getD_byte' {l : List Int} (hb : Bytes' l) {i : Nat} (h : i < l.length) : 0 ≤ l.getD i 0 ∧ l.getD i 0 < 256 := by
  rw [List.getD_eq_getElem?_getD, List.getElem?_eq_getElem h]; exact hb _ (List.getElem_mem h)
theorem byteOf_list {l : List Int} (h : Bytes' l) : l.map PV.byteOf = l := by
  refine (List.map_congr_left fun c hc => ?_).trans (List.map_id' l)
  have := h c hc
  unfold PV.byteOf
  omega
end Go.Proofs.YtjfakpogfakicaaDoor


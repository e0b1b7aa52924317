import Derived.Test.YtjfakpogfakicaaDoorN1
set_option linter.unusedVariables false
set_option linter.unusedSimpArgs false
namespace Go.Proofs.YtjfakpogfakicaaDoor
open Go Go.PV

def Limbs (l : List Int) : Prop := ∀ x ∈ l, 0 ≤ x ∧ x < 18446744073709551616
abbrev B64 : Int := 18446744073709551616

theorem getD_limb {l : List Int} (hb : Limbs l) (i : Nat) : 0 ≤ l.getD i 0 ∧ l.getD i 0 < B64 := by
  rw [List.getD_eq_getElem?_getD]
  cases h : l[i]? with
  | none => simp [B64]
  | some x => exact hb x (List.mem_of_getElem? h)

/-- What the first n limbs are worth. -/
def vt (l : List Int) : Nat → Int
  | 0 => 0
  | n + 1 => vt l n + B64 ^ n * l.getD n 0
/-- What the limbs are worth. -/
def val (l : List Int) : Int := vt l l.length

theorem pow_pos64 (n : Nat) : (0 : Int) < B64 ^ n := Int.pow_pos (by decide)

theorem pow_mono64 {m n : Nat} (h : m ≤ n) : B64 ^ m ≤ B64 ^ n := by
  have e : B64 = ((18446744073709551616 : Nat) : Int) := rfl
  rw [e, ← Int.natCast_pow, ← Int.natCast_pow]
  exact Int.ofNat_le.2 (Nat.pow_le_pow_right (by decide) h)

theorem vt_bound {l : List Int} (hb : Limbs l) : ∀ n, 0 ≤ vt l n ∧ vt l n < B64 ^ n
  | 0 => by simp [vt]
  | n + 1 => by
    have ih := vt_bound hb n
    have hd := getD_limb hb n
    have hp := pow_pos64 n
    have h1 : 0 ≤ B64 ^ n * l.getD n 0 := Int.mul_nonneg (Int.le_of_lt hp) hd.1
    have h2 : B64 ^ n * l.getD n 0 ≤ B64 ^ n * (B64 - 1) := Int.mul_le_mul_of_nonneg_left (by omega) (Int.le_of_lt hp)
    have h3 : B64 ^ (n + 1) = B64 ^ n * (B64 - 1) + B64 ^ n := by rw [Int.pow_succ]; simp only [B64]; omega
    simp only [vt]
    rw [h3]
    constructor <;> omega

theorem vt_sizeN (l : List Int) : ∀ n, vt l (sizeN l n) = vt l n
  | 0 => rfl
  | n + 1 => by
    unfold sizeN
    split
    · rename_i h
      rw [vt_sizeN l n]; simp only [vt, h]; omega
    · rfl
theorem vt_size (l : List Int) : vt l (size l) = val l := vt_sizeN l l.length

theorem vt_top {a b : List Int} (ha : Limbs a) (hb : Limbs b) {i : Nat} (h : a.getD i 0 < b.getD i 0) : ∀ n, i < n → (∀ j, i < j → j < n → a.getD j 0 = b.getD j 0) → vt a n < vt b n
  | 0, hi, _ => by omega
  | n + 1, hi, he => by
    by_cases hin : i = n
    · subst hin
      have h1 := vt_bound ha i
      have h2 := vt_bound hb i
      have hp := pow_pos64 i
      have h3 : B64 ^ i * (a.getD i 0 + 1) ≤ B64 ^ i * b.getD i 0 := Int.mul_le_mul_of_nonneg_left (by omega) (Int.le_of_lt hp)
      have h4 : B64 ^ i * (a.getD i 0 + 1) = B64 ^ i * a.getD i 0 + B64 ^ i := by rw [Int.mul_add, Int.mul_one]
      simp only [vt]
      omega
    · have := vt_top ha hb h n (by omega) fun j h1 h2 => he j h1 (by omega)
      simp only [vt, he n (by omega) (by omega)]
      omega

theorem sizeN_top (l : List Int) : ∀ n, sizeN l n ≠ 0 → l.getD (sizeN l n - 1) 0 ≠ 0
  | 0, h => absurd rfl h
  | n + 1, h => by
    unfold sizeN at h ⊢
    split
    · rename_i h0
      rw [if_pos h0] at h
      exact sizeN_top l n h
    · rename_i h0
      simpa using h0

theorem size_lt_val {a b : List Int} (ha : Limbs a) (hb : Limbs b) (h : size a < size b) : val a < val b := by
  rw [← vt_size a, ← vt_size b]
  obtain ⟨m, hm⟩ : ∃ m, size b = m + 1 := ⟨size b - 1, by omega⟩
  have h1 := (vt_bound ha (size a)).2
  have h2 := (vt_bound hb m).1
  have htop := sizeN_top b b.length (by have : size b ≠ 0 := by omega
                                        exact this)
  have htop' : b.getD m 0 ≠ 0 := by
    have : sizeN b b.length - 1 = m := by have : size b = m + 1 := hm; unfold size at this; omega
    rwa [this] at htop
  have hd := getD_limb hb m
  have hle : B64 ^ size a ≤ B64 ^ m := pow_mono64 (by omega)
  have hp := pow_pos64 m
  have h5 : B64 ^ m * 1 ≤ B64 ^ m * b.getD m 0 := Int.mul_le_mul_of_nonneg_left (by omega) (Int.le_of_lt hp)
  rw [hm]
  simp only [vt]
  omega

def cmpN (a b : List Int) : Int := if val a < val b then -1 else if val b < val a then 1 else 0

theorem vt_same {a b : List Int} : ∀ n, (∀ j, j < n → a.getD j 0 = b.getD j 0) → vt a n = vt b n
  | 0, _ => rfl
  | n + 1, h => by simp only [vt]; rw [vt_same n fun j hj => h j (by omega), h n (by omega)]

theorem nat_cmp (a b : List Int) (ha : Limbs a) (hb : Limbs b) (hla : a.length ≤ 9223372036854775807) (hlb : b.length ≤ 9223372036854775807) : Meets Tryd.prog 9 [.ints .u64 a, .ints .u64 b] (.int .i64 (cmpN a b)) := by
  refine meets_by ttOk Tryd.func9 Tryd.ntmps9 Tryd.results9 (by kernel_rfl) (c := _) rfl rfl rfl fun E => ?_
  simp only [argsFrame]
  have hsa := size_le a
  have hsb := size_le b
  repeat' first
    | (with_reducible first | refine PW.seq ?_ | refine PW.block ?_ | refine PW.fork ?_ | refine PW.skip ?_ | refine PW.exit ?_ | refine PW.ret ?_)
    | (with_reducible refine PW.region ttOk ?_ ?_
       · rfl)
    | (with_reducible refine PW.regionD ttOk mixed ?_ ?_ ?_
       · rfl
       · rfl)
    | (with_reducible refine ifW_dec (fun g => ?_) (fun g => ?_) <;> first | (exfalso; omega) | (simp -dsimp only [g, wkI]))
    | (with_reducible refine condE_dec (fun g => ?_) (fun g => ?_) <;> try (exfalso; omega))
    | (with_reducible refine condE_not (fun g => ?_) (fun g => ?_) <;> try (exfalso; omega))
    | (simp -dsimp only [↓wkA, wkB, ↓tt, Nat.reduceBEq, Nat.reduceEqDiff, ↓reduceIte, Nat.reduceLT, Array.toList, Nat.reduceAdd, Nat.reduceMul, Int.reduceToNat, Int.reducePow, UInt8.reduceToNat])
    | (refine call_by (nat_size _ (by first | assumption | omega)) (views_data rfl) ⟨trivial, trivial⟩ rfl ?_)
    | (simp -dsimp (disch := first | assumption | omega) only [dec_t, dec_f])
    | (refine And.intro ?_ ?_
       · first | omega | decide | (simp (disch := omega) only [wkW, Int.reduceToNat, Int.reducePow] <;> omega) | (simp <;> omega))
    | (simp (disch := omega) only [wkW, Int.reduceToNat, Int.reducePow])
    | fail
  · rw [cmpN, if_pos (size_lt_val ha hb (by omega))]
  · rw [cmpN, if_neg (by have := size_lt_val hb ha (by omega); omega), if_pos (size_lt_val hb ha (by omega))]
  have hss : size a = size b := by omega
  refine PW.loopA (fun n F H => n ≤ size a ∧ (∀ j, n ≤ j → j < size a → a.getD j 0 = b.getD j 0) ∧ F = [(7, .int .i64 ((n : Int) - 1)), (1, .ints .u64 b), (0, .ints .u64 a)] ∧ H = ⟨0, [], [], []⟩) (size a) [(7, .int .i64 ((size a : Nat) - 1 : Int)), (1, .ints .u64 b), (0, .ints .u64 a)] ⟨0, [], [], []⟩ (Sub.frame ⟨?_, rfl, rfl, trivial⟩) ⟨Nat.le_refl _, fun j h1 h2 => by omega, rfl, rfl⟩ ?_
  · simp (disch := omega) only [↓wkA, wkB, ↓tt, Nat.reduceBEq, Nat.reduceEqDiff, ↓reduceIte, Nat.reduceLT, Array.toList, Nat.reduceAdd, Nat.reduceMul, Int.reduceToNat, Int.reducePow, UInt8.reduceToNat, wkW, Int.reduceToNat, Int.reducePow]
  rintro n F H ⟨hn, he, rfl, rfl⟩
  cases n with
  | zero =>
    have : vt a (size a) = vt b (size a) := vt_same _ fun j hj => he j (by omega) hj
    have hv : val a = val b := by rw [← vt_size a, ← vt_size b, ← hss, this]
    repeat' first
      | (with_reducible first | refine PW.seq ?_ | refine PW.block ?_ | refine PW.fork ?_ | refine PW.skip ?_ | refine PW.exit ?_ | refine PW.ret ?_)
      | (with_reducible refine PW.region ttOk ?_ ?_
         · rfl)
      | (with_reducible refine PW.regionD ttOk mixed ?_ ?_ ?_
         · rfl
         · rfl)
      | (with_reducible refine ifW_dec (fun g => ?_) (fun g => ?_) <;> first | (exfalso; omega) | (simp -dsimp only [g, wkI]))
      | (with_reducible refine condE_dec (fun g => ?_) (fun g => ?_) <;> try (exfalso; omega))
      | (with_reducible refine condE_not (fun g => ?_) (fun g => ?_) <;> try (exfalso; omega))
      | (simp -dsimp only [↓wkA, wkB, ↓tt, Nat.reduceBEq, Nat.reduceEqDiff, ↓reduceIte, Nat.reduceLT, Array.toList, Nat.reduceAdd, Nat.reduceMul, Int.reduceToNat, Int.reducePow, UInt8.reduceToNat])
      | (simp -dsimp (disch := first | assumption | omega) only [dec_t, dec_f])
      | (refine And.intro ?_ ?_
         · first | omega | decide | (simp (disch := omega) only [wkW, Int.reduceToNat, Int.reducePow] <;> omega) | (simp <;> omega))
      | (simp (disch := omega) only [wkW, Int.reduceToNat, Int.reducePow])
      | fail
    rw [cmpN, hv]; simp
  | succ n =>
    have e1 : (((n + 1 : Nat) : Int) - 1) = n := by omega
    rw [e1]
    repeat' first
      | (with_reducible first | refine PW.seq ?_ | refine PW.block ?_ | refine PW.fork ?_ | refine PW.skip ?_ | refine PW.exit ?_ | refine PW.ret ?_)
      | (with_reducible refine PW.region ttOk ?_ ?_
         · rfl)
      | (with_reducible refine PW.regionD ttOk mixed ?_ ?_ ?_
         · rfl
         · rfl)
      | (with_reducible refine ifW_dec (fun g => ?_) (fun g => ?_) <;> first | (exfalso; omega) | (simp -dsimp only [g, wkI]))
      | (with_reducible refine condE_dec (fun g => ?_) (fun g => ?_) <;> try (exfalso; omega))
      | (with_reducible refine condE_not (fun g => ?_) (fun g => ?_) <;> try (exfalso; omega))
      | (simp -dsimp only [↓wkA, wkB, ↓tt, Nat.reduceBEq, Nat.reduceEqDiff, ↓reduceIte, Nat.reduceLT, Array.toList, Nat.reduceAdd, Nat.reduceMul, Int.reduceToNat, Int.reducePow, UInt8.reduceToNat])
      | (simp -dsimp (disch := first | assumption | omega) only [dec_t, dec_f])
      | (refine And.intro ?_ ?_
         · first | omega | decide | (simp (disch := omega) only [wkW, Int.reduceToNat, Int.reducePow] <;> omega) | (simp <;> omega))
      | (simp (disch := omega) only [wkW, Int.reduceToNat, Int.reducePow])
      | fail
    · have h1 := vt_top ha hb (by assumption) (size a) (by omega) fun j h1 h2 => he j (by omega) h2
      rw [cmpN, if_pos (by rw [← vt_size a, ← vt_size b, ← hss]; exact h1)]
    · have h1 := vt_top hb ha (i := n) (by omega) (size a) (by omega) fun j h1 h2 => (he j (by omega) h2).symm
      have h2 : val b < val a := by rw [← vt_size a, ← vt_size b, ← hss]; exact h1
      rw [cmpN, if_neg (by omega), if_pos h2]
    · try simp (disch := omega) only [wkW, Int.reduceToNat, Int.reducePow]
      exact Again.mk n [(7, .int .i64 ((n : Int) - 1)), (1, .ints .u64 b), (0, .ints .u64 a)] ⟨0, [], [], []⟩ (by omega) (Sub.frame ⟨rfl, rfl, rfl, trivial⟩) ⟨by omega, fun j h1 h2 => by
        by_cases hj : j = n
        · subst hj; assumption
        · exact he j (by omega) h2, rfl, rfl⟩
end Go.Proofs.YtjfakpogfakicaaDoor


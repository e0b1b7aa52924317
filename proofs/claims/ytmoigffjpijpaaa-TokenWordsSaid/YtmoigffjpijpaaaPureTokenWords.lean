/- For every text of at most 2^47 - 2^20 bytes the plain functions that the printed walk tells of Func and Word answer as the document's do; no further conditions. -/
import Derived.Test.YtmoigffjpijpaaaPTokenWordsx2
namespace Go.Proofs.Ytmoigffjpijpaaa.Pure
open Go.RowKit Go.Proofs.Ytmoigffjpijpaaa.PTokenWords Go.Proofs.YtmoigffjpijpaaaW.PrintWords Go.Proofs.YtmoigffjpijpaaaW.PrintLast
set_option linter.unusedVariables false
set_option linter.unusedSimpArgs false

theorem wrapUp {i : Int} (h0 : 0 ≤ i) (h1 : i ≤ 140737488351233) : wrap64 (i + 1) = i + 1 := by
  unfold wrap64; omega

def names : List ByteArray := [(⟨#[108, 101, 110, 103, 116, 104]⟩ : ByteArray), (⟨#[115, 117, 98, 115, 116, 114]⟩ : ByteArray), (⟨#[105, 110, 100, 101, 120]⟩ : ByteArray), (⟨#[115, 112, 114, 105, 110, 116, 102]⟩ : ByteArray), (⟨#[115, 112, 108, 105, 116]⟩ : ByteArray), (⟨#[105, 110, 116]⟩ : ByteArray), (⟨#[115, 113, 114, 116]⟩ : ByteArray), (⟨#[116, 111, 117, 112, 112, 101, 114]⟩ : ByteArray), (⟨#[116, 111, 108, 111, 119, 101, 114]⟩ : ByteArray), (⟨#[115, 117, 98]⟩ : ByteArray), (⟨#[103, 115, 117, 98]⟩ : ByteArray), (⟨#[115, 117, 109]⟩ : ByteArray), (⟨#[97, 115, 111, 114, 116]⟩ : ByteArray)]

/-- the place of a name in the table, from i on, and 0 where it is missing -/
def seek (a : ByteArray) : Nat → Int → Int
  | 0, _ => 0
  | n + 1, i => if (rdOf ByteArray.empty names i).toList = a.toList then i + 1 else seek a n (i + 1)

theorem func_l0 (a : ByteArray) : ∀ (n k : Nat) (i : Int), n < k → 0 ≤ i → i + n = 13 →
    token_Func.l0 k a names (names.length : Int) i = some (seek a n i) := by
  intro n
  induction n with
  | zero =>
    intro k i hk h0 hn
    obtain ⟨k, rfl⟩ : ∃ k', k = k' + 1 := ⟨k - 1, by omega⟩
    have hl : (names.length : Int) = 13 := rfl
    unfold token_Func.l0
    rw [if_neg (by omega)]; rfl
  | succ n ih =>
    intro k i hk h0 hn
    obtain ⟨k, rfl⟩ : ∃ k', k = k' + 1 := ⟨k - 1, by omega⟩
    have hl : (names.length : Int) = 13 := rfl
    unfold token_Func.l0
    rw [if_pos (by omega), if_pos h0, if_pos (by omega), wrapUp h0 (by omega), ih k (i + 1) (by omega) (by omega) (by omega)]
    rw [seek]
    split <;> rfl

theorem ref_l0 (a : ByteArray) : ∀ (n k : Nat) (i : Int), n < k → 0 ≤ i → i + n = 13 →
    abacusref23_Func.l0 k a names (names.length : Int) i = some (seek a n i) := by
  intro n
  induction n with
  | zero =>
    intro k i hk h0 hn
    obtain ⟨k, rfl⟩ : ∃ k', k = k' + 1 := ⟨k - 1, by omega⟩
    have hl : (names.length : Int) = 13 := rfl
    unfold abacusref23_Func.l0
    rw [if_neg (by omega)]; rfl
  | succ n ih =>
    intro k i hk h0 hn
    obtain ⟨k, rfl⟩ : ∃ k', k = k' + 1 := ⟨k - 1, by omega⟩
    have hl : (names.length : Int) = 13 := rfl
    unfold abacusref23_Func.l0
    rw [if_pos (by omega), if_pos h0, if_pos (by omega), wrapUp h0 (by omega), ih k (i + 1) (by omega) (by omega) (by omega)]
    rw [seek]
    split <;> rfl

def fn (a : ByteArray) : Int := seek a 13 0

theorem func_f (a : ByteArray) (k : Nat) (hk : 13 < k) : token_Func.f k a = some (fn a) := func_l0 a 13 k 0 hk (by omega) (by omega)
theorem rfunc_f (a : ByteArray) (k : Nat) (hk : 13 < k) : abacusref23_Func.f k a = some (fn a) := ref_l0 a 13 k 0 hk (by omega) (by omega)

theorem seek_nonneg (a : ByteArray) : ∀ n i, 0 ≤ i → 0 ≤ seek a n i
  | 0, _, _ => by simp [seek]
  | n + 1, i, h => by
    unfold seek
    split
    · omega
    · exact seek_nonneg a n (i + 1) (by omega)

def letterB (c : Int) : Bool := decide (97 ≤ c ∧ c ≤ 122) || decide (65 ≤ c ∧ c ≤ 90) || (c == 95)
def digitB (c : Int) : Bool := decide (48 ≤ c ∧ c ≤ 57)

theorem letter_f (c : Int) : token_letter.f c = some (letterB c) := by
  unfold token_letter.f letterB
  by_cases h1 : 97 ≤ c <;> by_cases h2 : c ≤ 122 <;> by_cases h3 : 65 ≤ c <;> by_cases h4 : c ≤ 90 <;> simp [h1, h2, h3, h4]
theorem rletter_f (c : Int) : abacusref23_letter.f c = some (letterB c) := by
  unfold abacusref23_letter.f letterB
  by_cases h1 : 97 ≤ c <;> by_cases h2 : c ≤ 122 <;> by_cases h3 : 65 ≤ c <;> by_cases h4 : c ≤ 90 <;> simp [h1, h2, h3, h4]
theorem digit_f (c : Int) : token_digit.f c = some (digitB c) := by
  unfold token_digit.f digitB
  by_cases h1 : 48 ≤ c <;> by_cases h2 : c ≤ 57 <;> simp [h1, h2]
theorem rdigit_f (c : Int) : abacusref23_digit.f c = some (digitB c) := by
  unfold abacusref23_digit.f digitB
  by_cases h1 : 48 ≤ c <;> by_cases h2 : c ≤ 57 <;> simp [h1, h2]

def kw (a : ByteArray) : Bool := (token_keyword.f a).getD false
theorem keyword_f (a : ByteArray) : token_keyword.f a = some (kw a) := by
  have Q : ∀ (p : Prop) [Decidable p] (z : Option Bool), z.isSome → (if p then some true else z).isSome := by
    intro p _ z h; split
    · rfl
    · exact h
  have e : (token_keyword.f a).isSome := by
    unfold token_keyword.f
    repeat (first | rfl | refine Q _ _ ?_)
  unfold kw
  cases h : token_keyword.f a with
  | none => rw [h] at e; cases e
  | some b => rfl

def words : List ByteArray := [(⟨#[66, 69, 71, 73, 78]⟩ : ByteArray), (⟨#[69, 78, 68]⟩ : ByteArray), (⟨#[105, 102]⟩ : ByteArray), (⟨#[101, 108, 115, 101]⟩ : ByteArray), (⟨#[119, 104, 105, 108, 101]⟩ : ByteArray), (⟨#[102, 111, 114]⟩ : ByteArray), (⟨#[105, 110]⟩ : ByteArray), (⟨#[98, 114, 101, 97, 107]⟩ : ByteArray), (⟨#[99, 111, 110, 116, 105, 110, 117, 101]⟩ : ByteArray), (⟨#[110, 101, 120, 116]⟩ : ByteArray), (⟨#[101, 120, 105, 116]⟩ : ByteArray), (⟨#[112, 114, 105, 110, 116]⟩ : ByteArray), (⟨#[112, 114, 105, 110, 116, 102]⟩ : ByteArray), (⟨#[100, 101, 108, 101, 116, 101]⟩ : ByteArray)]

def isWord (a : ByteArray) : Nat → Int → Bool
  | 0, _ => false
  | n + 1, i => if (rdOf ByteArray.empty words i).toList = a.toList then true else isWord a n (i + 1)

theorem word_l0 (a : ByteArray) : ∀ (n k : Nat) (i : Int), n < k → 0 ≤ i → i + n = 14 →
    abacusref23_Word.l0 k a words (words.length : Int) i = some (if isWord a n i then 5 else 3) := by
  intro n
  induction n with
  | zero =>
    intro k i hk h0 hn
    obtain ⟨k, rfl⟩ : ∃ k', k = k' + 1 := ⟨k - 1, by omega⟩
    have hl : (words.length : Int) = 14 := rfl
    unfold abacusref23_Word.l0
    rw [if_neg (by omega)]; rfl
  | succ n ih =>
    intro k i hk h0 hn
    obtain ⟨k, rfl⟩ : ∃ k', k = k' + 1 := ⟨k - 1, by omega⟩
    have hl : (words.length : Int) = 14 := rfl
    unfold abacusref23_Word.l0
    rw [if_pos (by omega), if_pos h0, if_pos (by omega), wrapUp h0 (by omega), ih k (i + 1) (by omega) (by omega) (by omega)]
    rw [isWord]
    split <;> rfl

theorem isWord_kw (a : ByteArray) : isWord a 14 0 = kw a := by
  have L : ∀ (i : Int) (n : Nat) (l : List UInt8), (rdOf ByteArray.empty words i).toList = l → isWord a (n + 1) i = if a.toList = l then true else isWord a n (i + 1) := by
    intro i n l hl
    rw [isWord, hl]
    by_cases h : a.toList = l
    · rw [if_pos h, if_pos h.symm]
    · rw [if_neg h, if_neg (fun e => h e.symm)]
  rw [L (0) 13 [66, 69, 71, 73, 78] (by decide +kernel), show (0 : Int) + 1 = 1 from rfl, L 1 12 [69, 78, 68] (by decide +kernel), show (1 : Int) + 1 = 2 from rfl, L 2 11 [105, 102] (by decide +kernel), show (2 : Int) + 1 = 3 from rfl, L 3 10 [101, 108, 115, 101] (by decide +kernel), show (3 : Int) + 1 = 4 from rfl, L 4 9 [119, 104, 105, 108, 101] (by decide +kernel), show (4 : Int) + 1 = 5 from rfl, L 5 8 [102, 111, 114] (by decide +kernel), show (5 : Int) + 1 = 6 from rfl, L 6 7 [105, 110] (by decide +kernel), show (6 : Int) + 1 = 7 from rfl, L 7 6 [98, 114, 101, 97, 107] (by decide +kernel), show (7 : Int) + 1 = 8 from rfl, L 8 5 [99, 111, 110, 116, 105, 110, 117, 101] (by decide +kernel), show (8 : Int) + 1 = 9 from rfl, L 9 4 [110, 101, 120, 116] (by decide +kernel), show (9 : Int) + 1 = 10 from rfl, L 10 3 [101, 120, 105, 116] (by decide +kernel), show (10 : Int) + 1 = 11 from rfl, L 11 2 [112, 114, 105, 110, 116] (by decide +kernel), show (11 : Int) + 1 = 12 from rfl, L 12 1 [112, 114, 105, 110, 116, 102] (by decide +kernel), show (12 : Int) + 1 = 13 from rfl, L 13 0 [100, 101, 108, 101, 116, 101] (by decide +kernel)]
  have e : some (kw a) = _ := (keyword_f a).symm
  unfold token_keyword.f at e
  apply Option.some.inj
  rw [e]
  have P : ∀ (p : Prop) [Decidable p] (x y : Bool) (z : Option Bool), some y = z → some (if p then x else y) = if p then some x else z := by
    intro p _ x y z h; split
    · rfl
    · exact h
  repeat (first | rfl | refine P _ _ _ _ ?_)

/-- how the run goes on at i -/
def goesOn (a : ByteArray) (i : Int) : Bool := letterB (bt a i) || (decide (0 < i) && digitB (bt a i))

def tail (a : ByteArray) : Int := if a.toList = [] then 0 else if fn a > 0 then 4 else if kw a then 5 else 3

theorem scan_l0 (a : ByteArray) : ∀ (n k : Nat) (i : Int), n + 30 ≤ k → 0 ≤ i → i + n = a.size → a.size ≤ 140737488351232 →
    ∃ m, abacusref23_name.l0 k a i = some m ∧ token_Word.l0 k a i = some (if m = a.size then tail a else 0) := by
  intro n
  induction n with
  | zero =>
    intro k i hk h0 hn hs
    obtain ⟨k, rfl⟩ : ∃ k', k = k' + 1 := ⟨k - 1, by omega⟩
    have hlt : ¬ i < (a.size : Int) := by omega
    have he : i = (a.size : Int) := by omega
    refine ⟨i, ?_, ?_⟩
    · unfold abacusref23_name.l0
      rw [if_neg hlt]
    · unfold token_Word.l0
      rw [if_neg hlt, func_f a k (by omega), keyword_f, if_pos he]
      simp only [Option.bind_some]
      unfold tail
      by_cases t1 : a.toList = []
      · rw [if_pos t1, if_pos t1]
      · rw [if_neg t1, if_neg t1]
        by_cases t2 : fn a > 0
        · rw [if_pos t2, if_pos t2]
        · rw [if_neg t2, if_neg t2]
          by_cases t3 : kw a = true
          · rw [if_pos t3, if_pos t3]
          · rw [if_neg t3, if_neg t3]
  | succ n ih =>
    intro k i hk h0 hn hs
    obtain ⟨k, rfl⟩ : ∃ k', k = k' + 1 := ⟨k - 1, by omega⟩
    obtain ⟨m, e1, e2⟩ := ih k (i + 1) (by omega) (by omega) (by omega) hs
    have hlt : i < (a.size : Int) := by omega
    have hne : ¬ i = (a.size : Int) := by omega
    unfold abacusref23_name.l0 token_Word.l0
    rw [if_pos hlt, if_pos h0, if_pos hlt, if_pos h0, letter_f, rletter_f, digit_f, rdigit_f, wrapUp h0 (by omega)]
    simp only [Option.bind_some]
    by_cases hl : letterB (bt a i) = true
    · rw [if_pos hl, if_pos hl]; exact ⟨m, e1, e2⟩
    · rw [if_neg hl, if_neg hl]
      by_cases hi : i = 0
      · have hi' : ¬ i > 0 := by omega
        rw [if_pos hi, if_neg hi']
        exact ⟨i, rfl, by rw [if_neg hne]⟩
      · have hi' : i > 0 := by omega
        rw [if_neg hi, if_pos hi']
        by_cases hd : digitB (bt a i) = true
        · rw [if_pos hd, if_pos hd]; exact ⟨m, e1, e2⟩
        · rw [if_neg hd, if_neg hd]
          exact ⟨i, rfl, by rw [if_neg hne]⟩

theorem words_agree (a : ByteArray) (hs : a.size ≤ 140737488351232) (k : Nat) (hk : a.size + 31 ≤ k) :
    ∃ r, token_Word.f k a = some r ∧ abacusref23_Word.f k a = some r := by
  obtain ⟨m, e1, e2⟩ := scan_l0 a a.size k 0 (by omega) (by omega) (by omega) hs
  refine ⟨_, e2, ?_⟩
  obtain ⟨k, rfl⟩ : ∃ k', k = k' + 1 := ⟨k - 1, by omega⟩
  unfold abacusref23_Word.f abacusref23_name.f
  rw [e1]
  simp only [Option.bind_some]
  have J : ∀ b, abacusref23_Word.j0 (k + 1) a b = if b = true then (some 0) else ((abacusref23_Func.f k a).bind fun t125 => (if t125 = 0 then ((abacusref23_Keywords.f).bind fun t126 => (abacusref23_Word.l0 k a t126 (t126.length : Int) 0)) else (some 4))) := fun _ => rfl
  rw [J, J, rfunc_f a k (by omega), if_pos (show true = true from rfl)]
  simp only [Option.bind_some, abacusref23_Keywords.f]
  have W := word_l0 a 14 k 0 (by omega) (by omega) (by omega)
  unfold words at W
  rw [W]
  by_cases h0 : a.toList = []
  · rw [if_pos h0]
    unfold tail
    rw [if_pos h0]
    split <;> rfl
  · rw [if_neg h0]
    by_cases hm : m = (a.size : Int)
    · rw [if_neg (by simp [hm]), if_pos hm]
      have hf := seek_nonneg a 13 0 (by omega)
      unfold tail
      rw [if_neg h0]
      change 0 ≤ fn a at hf
      by_cases hf0 : fn a = 0
      · have g : ¬ fn a > 0 := by omega
        rw [if_pos hf0, isWord_kw, if_neg g]
      · have g : fn a > 0 := by omega
        rw [if_neg hf0, if_pos g]
    · rw [if_pos (by simp [hm]), if_neg hm]

theorem up {α : Type} (f : Nat → Option α) (hm : ∀ k, LeO (f k) (f (k + 1))) {j : Nat} {r : α} (h : f j = some r) : ∀ k, j ≤ k → f k = some r := by
  intro k hk
  induction k with
  | zero => obtain rfl : j = 0 := by omega
            exact h
  | succ k ih =>
    rcases Nat.lt_or_ge k j with h1 | h1
    · obtain rfl : j = k + 1 := by omega
      exact h
    · exact hm k r (ih h1)

/-- YOURS: ∀ (a0 : ByteArray), a0.size ≤ 140737488351232 → ∃ k, abacuslaw23_TokenWords.f k a0 = some true
What it reaches (each with k first where it has rounds; `.mono`: more rounds tell the same; `.l0`, ..: its loops, with `.mono_l`): token_functions.f, token_Func.f, token_letter.f, token_digit.f, token_keyword.f, token_Word.f, abacusref23_Funcs.f, abacusref23_Func.f, abacusref23_letter.f, abacusref23_digit.f, abacusref23_name.f, abacusref23_Keywords.f, abacusref23_Word.f, abacuslaw23_TokenWords.f -/
theorem TokenWords : abacuslaw23_TokenWords.Pure := by
  intro a hs
  refine ⟨a.size + 100, ?_⟩
  unfold abacuslaw23_TokenWords.f
  have c1 : token_Func.f (a.size + 100) (⟨#[97, 115, 111, 114, 116]⟩ : ByteArray) = some 13 := by
    rw [func_f _ _ (by omega)]
    decide +kernel
  have c2 : token_Word.f (a.size + 100) (⟨#[105, 110]⟩ : ByteArray) = some 5 :=
    up _ (fun k => token_Word.mono _ k) (j := 40) (by decide +kernel) _ (by omega)
  have c3 : token_Word.f (a.size + 100) (⟨#[95, 57]⟩ : ByteArray) = some 3 :=
    up _ (fun k => token_Word.mono _ k) (j := 40) (by decide +kernel) _ (by omega)
  rw [c1, c2, c3]
  simp only [Option.bind_some, if_true]
  change abacuslaw23_TokenWords.j0 (a.size + 99 + 1) a false = some true
  rw [abacuslaw23_TokenWords.j0]
  obtain ⟨r, e1, e2⟩ := words_agree a hs (a.size + 99) (by omega)
  rw [func_f a (a.size + 99) (by omega), rfunc_f a (a.size + 99) (by omega), e1, e2]
  simp

end Go.Proofs.Ytmoigffjpijpaaa.Pure

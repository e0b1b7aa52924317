/- Pure values, part 9: what happens to the whole state when a row turns or comes. -/
import Derived.Test.YtmoigffjpijpaaaV8
set_option linter.unusedVariables false
set_option linter.unusedSimpArgs false
namespace Go.PV
open Go Go.RowKit

def setRow : List (Nat × Row) → Nat → Row → List (Nat × Row)
  | [], r, row => [(r, row)]
  | (k, x) :: rest, r, row => bif k == r then (k, row) :: rest else (k, x) :: setRow rest r row

theorem getRow_setRow (rows : List (Nat × Row)) (r : Nat) (row : Row) (r' : Nat) : getRow (setRow rows r row) r' = if r = r' then some row else getRow rows r' := by
  induction rows with
  | nil =>
    simp only [setRow, getRow]
    by_cases h : r = r'
    · simp [h]
    · simp [h, beq_eq_false_iff_ne.2 h]
  | cons x rest ih =>
    obtain ⟨k, x⟩ := x
    simp only [setRow]
    by_cases hk : k = r
    · subst hk
      simp only [beq_self_eq_true, cond_true, getRow]
      by_cases h : k = r'
      · simp [h]
      · simp [h, beq_eq_false_iff_ne.2 h]
    · simp only [beq_eq_false_iff_ne.2 hk, cond_false, getRow, ih]
      by_cases h : k = r'
      · subst h; simp [Ne.symm hk]
      · simp [beq_eq_false_iff_ne.2 h]

def Heap.set (H : Heap) (r : Nat) (row : Row) : Heap := { H with rows := setRow H.rows r row }
def Heap.new (H : Heap) (row : Row) : Heap := { nx := H.nx + 1, rows := setRow H.rows H.nx row, g := H.g }

theorem Heap.get_set (H : Heap) (r : Nat) (row : Row) (r' : Nat) : (H.set r row).get r' = if r = r' then some row else H.get r' := getRow_setRow _ _ _ _
theorem Heap.get_new (H : Heap) (row : Row) (r' : Nat) : (H.new row).get r' = if H.nx = r' then some row else H.get r' := getRow_setRow _ _ _ _

section
variable {P : Program} {w w' : World} {ow ow' : Nat → Prop} {loc loc' : Locs} {n : Nat} {E : Entry} {H : Heap}

theorem Stable.of_chg {b : Nat} (hc : Chg w w' b) (ho : ow b) : Stable ow w w' :=
  Stable.of_blocks fun k hk hn => hc.block k hk (by rintro rfl; exact hn ho)

theorem Stable.of_chg_new {b : Nat} (hc : Chg w w' b) (hb : w.heap.size ≤ b) (ow : Nat → Prop) : Stable ow w w' :=
  Stable.of_blocks fun k hk hn => hc.block k hk (by omega)

theorem RowIn.mono (hs : Stable ow w w') (hb : ∀ b, b < w.heap.size → ow' b → ow b) (hl : ∀ r, r < n → loc' r = loc r ∨ loc' r = none) {L : RowLoc} {cur : Array Value} {row : Row}
    (hr : ∀ l, row = .var l → ∀ j, j < l.length → Refs n (l.getD j .undef)) (h : RowIn w ow loc L cur row) : RowIn w' ow' loc' L cur row := by
  cases row with
  | ints k l => exact h
  | list sz l => exact ⟨h.1, h.2.1, h.2.2.1, fun i hi => ⟨(h.2.2.2 i hi).1, fun j hj => by obtain ⟨u, h1, h2, h3⟩ := (h.2.2.2 i hi).2 j hj; exact ⟨u, h1, h2, h3.mono hs hb⟩⟩⟩
  | var l => exact ⟨h.1, h.2.1, fun j hj => by obtain ⟨u, h1, h2, h3⟩ := h.2.2 j hj; exact ⟨u, h1, h2, h3.newLoc hs hb hl (hr l rfl j hj)⟩⟩

theorem RowAt.mono (hs : Stable ow w w') (hb : ∀ b, b < w.heap.size → ow' b → ow b) (hl : ∀ r, r < n → loc' r = loc r ∨ loc' r = none) {L : Option RowLoc} {row : Row}
    (hr : ∀ l, row = .var l → ∀ j, j < l.length → Refs n (l.getD j .undef)) (hk : ∀ M, L = some M → w'.heap[M.b]? = w.heap[M.b]?) (h : RowAt w ow loc L row) : RowAt w' ow' loc' L row := by
  cases L with
  | none => cases row <;> exact h
  | some L =>
    obtain ⟨cur, e, fr, h1, h2, h3, h4⟩ := h
    exact ⟨cur, e, fr, (hk L rfl).trans h1, h2, h3, h4.mono hs hb hl hr⟩

theorem HS.rowsOk (h : HS E H ow loc w) : RowsOk w ow loc H.nx H.get := ⟨h.rows, h.refs⟩

theorem HS.ne {r r' : Nat} {L L' : RowLoc} (h : HS E H ow loc w) (hr : loc r = some (some L)) (hr' : loc r' = some (some L')) (hne : r ≠ r') : L.b ≠ L'.b := fun e => hne (h.inj r r' L L' hr hr' e)

/-- A row turns where it lies. -/
theorem HS.upd (h : HS E H ow loc w) {r : Nat} {L : RowLoc} {row : Row} (hL : loc r = some (some L)) (hc : Chg w w' L.b) (hsz : w'.heap.size = w.heap.size) (hat : RowAt w' ow loc (some L) row)
    (hrf : ∀ l, row = .var l → ∀ j, j < l.length → Refs H.nx (l.getD j .undef)) : HS E (H.set r row) ow loc w' := by
  obtain ⟨ho, hlt, hold⟩ := h.live r L hL
  have hs := Stable.of_chg hc ho
  refine ⟨?_, ?_, h.inj, ?_, ?_, hc.os.trans h.os, hc.tape.trans h.tape, hc.output.trans h.output, h.nx, fun b hb => by have := h.owlt b hb; omega, h.forb, h.alt, h.apart, ?_, h.gh.mono hs (fun _ _ h => h) (LocLe.refl _)⟩
  · intro r' row' hr'
    rw [Heap.get_set] at hr'
    split at hr'
    · rename_i e; subst e; injection hr' with hr'; subst hr'
      exact ⟨_, hL, hat⟩
    · rename_i hne
      obtain ⟨L', hL', hat'⟩ := h.rows r' row' hr'
      refine ⟨L', hL', hat'.mono (n := H.nx) hs (fun _ _ h => h) (fun _ _ => .inl rfl) (fun l e => h.refs r' l (by rw [hr', e])) fun M hM => ?_⟩
      subst hM
      exact hc.block _ (h.live r' M hL').2.1 (h.ne hL' hL (Ne.symm hne))
  · intro r' L' hL'
    have := h.live r' L' hL'
    exact ⟨this.1, by omega, this.2.2⟩
  · intro b hb hS
    rw [hc.block b (by have := h.size; omega) ?_]
    · exact h.old b hb hS
    · rintro rfl; rcases hold with h1 | h1
      · omega
      · exact hS h1
  · have := h.size; omega
  · intro r' l hr' j hj
    rw [Heap.get_set] at hr'
    split at hr'
    · injection hr' with hr'; exact hrf l hr' j hj
    · exact h.refs r' l hr' j hj

theorem FS.same {get : Nat → PV} {a : Act} (h : FS w ow loc n get a) (hs : Stable ow w w') : FS w' ow loc n get a :=
  ⟨fun t => (h.vals t).mono hs (fun _ _ h => h) (LocLe.refl loc), h.refs, h.defers⟩

/-- With a new row. -/
def locNew (loc : Locs) (n : Nat) (L : Option RowLoc) : Locs := fun r => if r = n then some L else loc r

theorem HS.new (h : HS E H ow loc w) {L : RowLoc} {row : Row} (hc : Chg w w' L.b) (hb : w.heap.size ≤ L.b) (hb' : L.b < w'.heap.size)
    (hat : RowAt w' (fun b => ow b ∨ b = L.b) (locNew loc H.nx (some L)) (some L) row) (hrf : ∀ l, row = .var l → ∀ j, j < l.length → Refs (H.nx + 1) (l.getD j .undef)) :
    HS E (H.new row) (fun b => ow b ∨ b = L.b) (locNew loc H.nx (some L)) w' := by
  have hs : Stable ow w w' := Stable.of_chg_new hc hb ow
  have hbb : ∀ b, b < w.heap.size → (ow b ∨ b = L.b) → ow b := fun b hlt h => h.elim id (fun e => by omega)
  have hlo : ∀ r, r < H.nx → locNew loc H.nx (some L) r = loc r ∨ locNew loc H.nx (some L) r = none := fun r hr => .inl (by simp [locNew, Nat.ne_of_lt hr])
  have hlive : ∀ r L', loc r = some (some L') → r < H.nx := fun r L' hr => by
    rcases Nat.lt_or_ge r H.nx with h1 | h1
    · exact h1
    · rw [h.nx r h1] at hr; cases hr
  refine ⟨?_, ?_, ?_, ?_, ?_, hc.os.trans h.os, hc.tape.trans h.tape, hc.output.trans h.output, ?_, fun b hb => hb.elim (fun h1 => by have := h.owlt b h1; have := hc.size; omega) (fun e => by omega), fun b hA => .inl (h.forb b hA), h.alt, ?_, ?_, h.gh.newLoc hs hbb hlo (Nat.le_succ _)⟩
  · intro r row' hr
    rw [Heap.get_new] at hr
    split at hr
    · rename_i e; subst e; injection hr with hr; subst hr
      exact ⟨some L, by simp [locNew], hat⟩
    · rename_i hne
      obtain ⟨L', hL', hat'⟩ := h.rows r row' hr
      refine ⟨L', by simp [locNew, Ne.symm hne, hL'], hat'.mono (n := H.nx) hs hbb hlo (fun l e => h.refs r l (by rw [hr, e])) fun M hM => ?_⟩
      subst hM
      have := (h.live r M hL').2.1
      exact hc.block _ this (by omega)
  · intro r L' hr
    unfold locNew at hr
    split at hr
    · injection hr with hr; injection hr with hr; subst hr
      exact ⟨.inr rfl, hb', .inl (by have := h.size; omega)⟩
    · have := h.live r L' hr
      exact ⟨.inl this.1, by have := hc.size; omega, this.2.2⟩
  · intro r r' L1 L2 h1 h2 e
    unfold locNew at h1 h2
    split at h1 <;> split at h2
    · omega
    · injection h1 with h1; injection h1 with h1; subst h1
      have := (h.live r' L2 h2).2.1
      omega
    · injection h2 with h2; injection h2 with h2; subst h2
      have := (h.live r L1 h1).2.1
      omega
    · exact h.inj r r' L1 L2 h1 h2 e
  · intro b hb0 hS
    rw [hc.block b (by have := h.size; omega) (by have := h.size; omega)]
    exact h.old b hb0 hS
  · have := h.size; have := hc.size; omega
  · intro r hr
    have hr' : H.nx + 1 ≤ r := hr
    simp only [locNew]
    rw [if_neg (by omega)]
    exact h.nx r (by omega)
  · intro r L' hr
    unfold locNew at hr
    split at hr
    · injection hr with hr; injection hr with hr; subst hr
      intro hA
      have := h.alt _ hA
      have := h.size
      omega
    · exact h.apart r L' hr
  · intro r l hr j hj
    rw [Heap.get_new] at hr
    split at hr
    · injection hr with hr; exact hrf l hr j hj
    · exact (h.refs r l hr j hj).mono (by show H.nx ≤ H.nx + 1; omega)

theorem FS.new {get : Nat → PV} {a : Act} (h : FS w ow loc n get a) {L : Option RowLoc} (hs : Stable ow w w') (hb : ∀ b, b < w.heap.size → ow' b → ow b) : FS w' ow' (locNew loc n L) (n + 1) get a :=
  ⟨fun t => (h.vals t).newLoc hs hb (fun r hr => .inl (by simp [locNew, Nat.ne_of_lt hr])) (h.refs t), fun t => (h.refs t).mono (by omega), h.defers⟩
end
end Go.PV

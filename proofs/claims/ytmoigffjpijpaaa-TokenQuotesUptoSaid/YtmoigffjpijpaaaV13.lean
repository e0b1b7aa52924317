/- Pure values, part 13: append. -/
import Derived.Test.YtmoigffjpijpaaaV12
set_option linter.unusedVariables false
set_option linter.unusedSimpArgs false
namespace Go.PV
open Go Go.RowKit

def kill0 (r : Nat) : PV → PV
  | .sl r' off len full => bif r == r' then .undef else .sl r' off len full
  | .ptr r' i j => bif r == r' then .undef else .ptr r' i j
  | .agg _ => .undef
  | .tup _ => .undef
  | p => p

def kill1 (r : Nat) : PV → PV
  | .agg l => .agg (l.map (kill0 r))
  | p => kill0 r p

def kill (r : Nat) : PV → PV
  | .tup l => .tup (l.map (kill1 r))
  | p => kill1 r p

def Frame.kill (r : Nat) : Frame → Frame
  | [] => []
  | (t, p) :: rest => (t, Go.PV.kill r p) :: Frame.kill r rest

def killRow (r : Nat) : Row → Row
  | .var l => .var (l.map (kill0 r))
  | row => row

def killRows (r : Nat) : List (Nat × Row) → List (Nat × Row)
  | [] => []
  | (k, row) :: rest => (k, killRow r row) :: killRows r rest

/-- The row r turns into 'row', and what led into it leads nowhere. -/
def Heap.move (H : Heap) (r : Nat) (row : Row) : Heap := { nx := H.nx, rows := setRow (killRows r H.rows) r row, g := H.g.map (Frame.kill r) }

theorem getRow_kill (r : Nat) (rows : List (Nat × Row)) (r' : Nat) : getRow (killRows r rows) r' = (getRow rows r').map (killRow r) := by
  induction rows with
  | nil => rfl
  | cons x rest ih =>
    obtain ⟨k, row⟩ := x
    simp only [killRows, getRow, ih]
    cases k == r' <;> rfl

theorem Heap.get_move (H : Heap) (r : Nat) (row : Row) (r' : Nat) : (H.move r row).get r' = if r = r' then some row else (H.get r').map (killRow r) := by
  unfold Heap.move Heap.get
  rw [getRow_setRow, getRow_kill]

theorem Frame.get_kill (r : Nat) (F : Frame) (t : Nat) : (Frame.kill r F).get t = Go.PV.kill r (F.get t) := by
  induction F with
  | nil => rfl
  | cons x rest ih =>
    obtain ⟨k, p⟩ := x
    simp only [Frame.kill, Frame.get, ih]
    cases k == t <;> rfl

section
variable {P : Program} {w w' : World} {ow ow' : Nat → Prop} {loc loc' : Locs} {n nt : Nat} {E : Entry} {H : Heap} {F : Frame} {a : Act} {tt : Tab}

theorem getD_map_undef (f : PV → PV) (hf : f .undef = .undef) (l : List PV) (i : Nat) : (l.map f).getD i .undef = f (l.getD i .undef) := by
  simp only [List.getD, List.getElem?_map]
  cases l[i]? <;> simp [hf]

/-- The other rows are where they were. -/
def Others (r n : Nat) (loc loc' : Locs) : Prop := ∀ r', r' ≠ r → r' < n → loc' r' = loc r' ∨ loc' r' = none

theorem RV.kill0 {r : Nat} (hs : Stable ow w w') (hb : ∀ b, b < w.heap.size → ow' b → ow b) (hl : Others r n loc loc') {p : PV} {v : Value} (h : RV w ow loc p v) (hr : Refs n p) :
    RV w' ow' loc' (Go.PV.kill0 r p) v ∧ Refs n (Go.PV.kill0 r p) := by
  cases p with
  | sl r' off len full =>
    simp only [Go.PV.kill0]
    cases e : r == r' with
    | true => exact ⟨.data _ _ (.undef _), .undef⟩
    | false =>
      have hne : r' ≠ r := fun h => by subst h; simp at e
      have hlt := refs_sl hr
      refine ⟨?_, hr⟩
      simp only [cond_false]
      cases h with
      | data _ _ h => cases h
      | dang _ _ _ _ a m c h => exact .dang _ _ _ _ a m c ((hl r' hne hlt).elim (fun e => e.trans h) id)
      | slnil _ _ h => exact (hl r' hne hlt).elim (fun e => .slnil _ _ (e.trans h)) fun e => .dang _ _ _ _ _ _ _ e
      | sl _ _ _ _ L a c h h1 h2 h3 h4 => exact (hl r' hne hlt).elim (fun e => .sl _ _ _ _ L a c (e.trans h) h1 h2 h3 h4) fun e => .dang _ _ _ _ _ _ _ e
  | ptr r' i j =>
    simp only [Go.PV.kill0]
    cases e : r == r' with
    | true => exact ⟨.data _ _ (.undef _), .undef⟩
    | false =>
      have hne : r' ≠ r := fun h => by subst h; simp at e
      have hlt := refs_ptr hr
      refine ⟨?_, hr⟩
      simp only [cond_false]
      cases h with
      | data _ _ h => cases h
      | dangp _ _ _ a h => exact .dangp _ _ _ a ((hl r' hne hlt).elim (fun e => e.trans h) id)
      | ptr _ _ _ L h => exact (hl r' hne hlt).elim (fun e => .ptr _ _ _ L (e.trans h)) fun e => .dangp _ _ _ _ e
  | agg l => exact ⟨.data _ _ (.undef _), .undef⟩
  | tup l => exact ⟨.data _ _ (.undef _), .undef⟩
  | rptr q j =>
    refine ⟨?_, hr⟩
    cases h with
    | data _ _ h => cases h
    | rptr _ _ b o us ho hm h1 hd h0 =>
      have hlt := World.block_lt_of_cell? w _ (hm 0 h0)
      exact .rptr q j b o us (fun h => ho (hb b hlt h)) (fun i hi => hs b _ _ ho (hm i hi)) h1 (fun i hi => (hd i hi).mono hs hb) h0
  | _ =>
    refine ⟨?_, hr⟩
    cases h with
    | data _ _ h => exact .data _ _ (h.mono hs hb)

theorem RV.kill1 {r : Nat} (hs : Stable ow w w') (hb : ∀ b, b < w.heap.size → ow' b → ow b) (hl : Others r n loc loc') {p : PV} {v : Value} (h : RV w ow loc p v) (hr : Refs n p) :
    RV w' ow' loc' (Go.PV.kill1 r p) v ∧ Refs n (Go.PV.kill1 r p) := by
  cases p with
  | agg l =>
    obtain ⟨vs, rfl, hle, h1, hd⟩ := rv_agg h
    have hra := refs_agg hr
    simp only [Go.PV.kill1]
    refine ⟨.agg _ vs (by simpa using hle) h1 fun i hi => ?_, .agg _ fun i hi => ?_⟩
    all_goals
      rw [List.length_map] at hi
      rw [getD_map_undef _ rfl]
    · exact (RV.kill0 hs hb hl (hd i hi) (hra i hi)).1
    · exact (RV.kill0 hs hb hl (hd i hi) (hra i hi)).2
  | _ => exact RV.kill0 hs hb hl h hr

theorem RV.kill {r : Nat} (hs : Stable ow w w') (hb : ∀ b, b < w.heap.size → ow' b → ow b) (hl : Others r n loc loc') {p : PV} {v : Value} (h : RV w ow loc p v) (hr : Refs n p) :
    RV w' ow' loc' (Go.PV.kill r p) v ∧ Refs n (Go.PV.kill r p) := by
  cases p with
  | tup l =>
    obtain ⟨vs, rfl, hle, hd⟩ := rv_tup h
    have hra := refs_tup hr
    simp only [Go.PV.kill]
    refine ⟨.tup _ vs (by simpa using hle) fun i hi => ?_, .tup _ fun i hi => ?_⟩
    all_goals
      rw [List.length_map] at hi
      rw [getD_map_undef _ rfl]
    · exact (RV.kill1 hs hb hl (hd i hi) (hra i hi)).1
    · exact (RV.kill1 hs hb hl (hd i hi) (hra i hi)).2
  | _ => exact RV.kill1 hs hb hl h hr

def locSet (loc : Locs) (r : Nat) (L : Option RowLoc) : Locs := fun r' => if r' = r then some L else loc r'

theorem others_set (loc : Locs) (r n : Nat) (L : Option RowLoc) : Others r n loc (locSet loc r L) := fun r' hne _ => .inl (by simp [locSet, hne])

theorem RowAt.kill {r : Nat} (hs : Stable ow w w') (hb : ∀ b, b < w.heap.size → ow' b → ow b) (hl : Others r n loc loc') {L : Option RowLoc} {row : Row}
    (hr : ∀ l, row = .var l → ∀ j, j < l.length → Refs n (l.getD j .undef)) (hk : ∀ M, L = some M → w'.heap[M.b]? = w.heap[M.b]?) (h : RowAt w ow loc L row) : RowAt w' ow' loc' L (killRow r row) := by
  cases L with
  | none => cases row <;> exact h
  | some L =>
    obtain ⟨cur, e, fr, h1, h2, h3, h4⟩ := h
    refine ⟨cur, e, fr, (hk L rfl).trans h1, h2, h3, ?_⟩
    cases row with
    | ints k l => exact h4
    | list sz l => exact ⟨h4.1, h4.2.1, h4.2.2.1, fun i hi => ⟨(h4.2.2.2 i hi).1, fun j hj => by obtain ⟨u, h1, h2, h3⟩ := (h4.2.2.2 i hi).2 j hj; exact ⟨u, h1, h2, h3.mono hs hb⟩⟩⟩
    | var l =>
      refine ⟨by rw [List.length_map]; exact h4.1, h4.2.1, fun j hj => ?_⟩
      rw [List.length_map] at hj
      obtain ⟨u, h1, h2, h3⟩ := h4.2.2 j hj
      refine ⟨u, h1, h2, ?_⟩
      rw [getD_map_undef _ rfl]
      exact (RV.kill0 hs hb hl h3 (hr l rfl j hj)).1

theorem GS.kill {r : Nat} {g : List Frame} {gv : Nat → Nat → Value} (h : GS w ow loc n g gv) (hs : Stable ow w w') (hb : ∀ b, b < w.heap.size → ow' b → ow b) (hl : Others r n loc loc') : GS w' ow' loc' n (g.map (Frame.kill r)) gv := fun i t => by
  have e : ((g.map (Frame.kill r)).getD i []).get t = Go.PV.kill r ((g.getD i []).get t) := by
    rw [← Frame.get_kill]
    simp only [List.getD, List.getElem?_map]
    cases g[i]? <;> rfl
  rw [e]
  exact RV.kill hs hb hl (h i t).1 (h i t).2

/-- A row turns, and may lie elsewhere from now on. -/
theorem HS.move (h : HS E H ow loc w) {r : Nat} {Lo L' : Option RowLoc} {row : Row} {b : Nat} (hLo : loc r = some Lo) (hc : Chg w w' b) (hbo : (∃ L, Lo = some L ∧ b = L.b) ∨ w.heap.size ≤ b)
    (how : ∀ b, ow b → ow' b) (hb : ∀ b, b < w.heap.size → ow' b → ow b) (hL' : ∀ M, L' = some M → ow' M.b ∧ M.b < w'.heap.size ∧ ((∃ L, Lo = some L ∧ M.b = L.b) ∨ w.heap.size ≤ M.b))
    (howlt : ∀ b, ow' b → b < w'.heap.size) (hat : RowAt w' ow' (locSet loc r L') L' row) (hnv : ∀ l, row ≠ .var l) : HS E (H.move r row) ow' (locSet loc r L') w' ∧ Stable ow w w' := by
  have hrn : r < H.nx := by
    rcases Nat.lt_or_ge r H.nx with h1 | h1
    · exact h1
    · rw [h.nx r h1] at hLo; cases hLo
  have hlive : ∀ L, Lo = some L → ow L.b ∧ L.b < w.heap.size ∧ (E.w0.heap.size ≤ L.b ∨ E.S0 L.b) := fun L e => h.live r L (by rw [hLo, e])
  have hs : Stable ow w w' := by
    rcases hbo with ⟨L, e, rfl⟩ | hbo
    · exact Stable.of_chg hc (hlive L e).1
    · exact Stable.of_chg_new hc hbo ow
  have hl := others_set loc r H.nx L'
  refine ⟨⟨?_, ?_, ?_, ?_, ?_, hc.os.trans h.os, hc.tape.trans h.tape, hc.output.trans h.output, ?_, howlt, fun b hA => how b (h.forb b hA), h.alt, ?_, ?_, h.gh.kill hs hb hl⟩, hs⟩
  · intro r' row' hr'
    rw [Heap.get_move] at hr'
    split at hr'
    · rename_i e; subst e; injection hr' with hr'; subst hr'
      exact ⟨L', by simp [locSet], hat⟩
    · rename_i hne
      cases hg : H.get r' with
      | none => rw [hg] at hr'; cases hr'
      | some row0 =>
        rw [hg] at hr'
        injection hr' with hr'
        subst hr'
        obtain ⟨L2, hL2, hat2⟩ := h.rows r' row0 hg
        refine ⟨L2, by simp [locSet, Ne.symm hne, hL2], hat2.kill hs hb hl (fun l e => h.refs r' l (by rw [hg, e])) fun M hM => ?_⟩
        subst hM
        have hM := h.live r' M hL2
        refine hc.block _ hM.2.1 ?_
        rcases hbo with ⟨L, e, rfl⟩ | hbo
        · exact h.ne hL2 (by rw [hLo, e]) (Ne.symm hne)
        · omega
  · intro r' L2 hr'
    unfold locSet at hr'
    split at hr'
    · injection hr' with hr'
      obtain ⟨h1, h2, h3⟩ := hL' L2 hr'
      refine ⟨h1, h2, ?_⟩
      rcases h3 with ⟨L, e, e2⟩ | h3
      · rw [e2]; exact (hlive L e).2.2
      · left; have := h.size; omega
    · have := h.live r' L2 hr'
      exact ⟨how _ this.1, by have := hc.size; omega, this.2.2⟩
  · intro r1 r2 L1 L2 h1 h2 e
    have cross : ∀ (M : RowLoc) (r3 : Nat) (L3 : RowLoc), L' = some M → r3 ≠ r → loc r3 = some (some L3) → M.b ≠ L3.b := by
      intro M r3 L3 hM hne h3 e3
      obtain ⟨_, _, h5⟩ := hL' M hM
      have hl3 := h.live r3 L3 h3
      rcases h5 with ⟨L, e, e2⟩ | h5
      · exact hne (h.inj r3 r L3 L h3 (by rw [hLo, e]) (by omega))
      · omega
    unfold locSet at h1 h2
    split at h1 <;> split at h2
    · omega
    · injection h1 with h1
      exact absurd e (cross L1 r2 L2 h1 ‹_› h2)
    · injection h2 with h2
      exact absurd e.symm (cross L2 r1 L1 h2 ‹_› h1)
    · exact h.inj r1 r2 L1 L2 h1 h2 e
  · intro b0 hb0 hS
    rw [hc.block b0 (by have := h.size; omega) ?_]
    · exact h.old b0 hb0 hS
    · rintro rfl
      rcases hbo with ⟨L, e, rfl⟩ | hbo
      · rcases (hlive L e).2.2 with h1 | h1
        · omega
        · exact hS h1
      · have := h.size; omega
  · have := h.size; have := hc.size; omega
  · intro r' hr'
    have hr2 : H.nx ≤ r' := hr'
    unfold locSet
    rw [if_neg (by omega)]
    exact h.nx r' hr2
  · intro r' L2 hr' hA
    unfold locSet at hr'
    split at hr'
    · injection hr' with hr'
      obtain ⟨_, _, h5⟩ := hL' L2 hr'
      rcases h5 with ⟨L, e, e2⟩ | h5
      · rw [e2] at hA; exact h.apart r L (by rw [hLo, e]) hA
      · have := h.alt _ hA; have := h.size; omega
    · exact h.apart r' L2 hr' hA
  · intro r' l hr' j hj
    rw [Heap.get_move] at hr'
    split at hr'
    · injection hr' with hr'; exact absurd hr' (hnv l)
    · cases hg : H.get r' with
      | none => rw [hg] at hr'; cases hr'
      | some row0 =>
        rw [hg] at hr'
        injection hr' with hr'
        cases row0 with
        | ints => cases hr'
        | list => cases hr'
        | var l0 =>
          injection hr' with hr'
          subst hr'
          rw [List.length_map] at hj
          rw [getD_map_undef _ rfl]
          have hrr := h.refs r' l0 hg j hj
          generalize l0.getD j .undef = p at hrr
          cases p <;> simp only [Go.PV.kill0] <;> first | exact hrr | exact .undef | (split <;> first | exact .undef | exact hrr) | (cases (r == _) <;> first | exact hrr | exact .undef)

theorem FS.kill {get : Nat → PV} (h : FS w ow loc n get a) {r : Nat} {L : Option RowLoc} (hs : Stable ow w w') (hb : ∀ b, b < w.heap.size → ow' b → ow b) : FS w' ow' (locSet loc r L) n (fun t => Go.PV.kill r (get t)) a :=
  ⟨fun t => (RV.kill hs hb (others_set loc r n L) (h.vals t) (h.refs t)).1, fun t => (RV.kill (w' := w') (ow' := ow') hs hb (others_set loc r n L) (h.vals t) (h.refs t)).2, h.defers⟩
end
end Go.PV

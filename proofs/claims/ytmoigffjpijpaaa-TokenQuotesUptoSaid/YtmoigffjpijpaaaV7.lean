/- Pure values, part 7: one theorem over all the operations that only read. -/
import Derived.Test.YtmoigffjpijpaaaV6
set_option linter.unusedVariables false
set_option linter.unusedSimpArgs false
namespace Go.PV
open Go Go.RowKit

section
variable {P : Program} {w : World} {ow : Nat → Prop} {loc : Locs} {n : Nat} {tt : Tab} {rows : Nat → Option Row} {a : Act} {get : Nat → PV}

theorem ev_ok (hv : ∀ t, RV w ow loc (get t) (a.tmps.getD t undef)) (x : Operand) : RV w ow loc (ev get x) (a.eval x) := by
  cases x with
  | tmp t => exact hv t
  | const v => exact .data _ _ (toPV_ok w ow v)
  | global g => exact .data _ _ (.undef _)
  | func f => exact .data _ _ (.undef _)

theorem ev_refs (hr : ∀ t, Refs n (get t)) (x : Operand) : Refs n (ev get x) := by
  cases x with
  | tmp t => exact hr t
  | const v => exact toPV_refs n v
  | global g => exact .undef
  | func f => exact .undef

theorem ov_ok (hv : ∀ t, RV w ow loc (get t) (a.tmps.getD t undef)) (x : Option Operand) : OV w ow loc (x.map (ev get)) (x.map a.eval) := by
  cases x with
  | none => exact .inl ⟨rfl, rfl⟩
  | some x => exact .inr ⟨_, _, rfl, rfl, ev_ok hv x⟩

/-- What an operation that only reads comes to. -/
def Gives (P : Program) (w : World) (ow : Nat → Prop) (loc : Locs) (n : Nat) (a : Act) (o : Oper) (K : PV → Prop) : Prop :=
  ∃ q, K q ∧ ∃ cv, (execOp a.eval o).run P w = .ok (.value cv) w ∧ RV w ow loc q cv ∧ Refs n q

theorem gives_of {o : Oper} {K : PV → Prop} {s : Sem Value} (hy : Yld P w ow loc n s K) (he : execOp a.eval o = (do pure (.value (← s)))) : Gives P w ow loc n a o K := by
  obtain ⟨q, hk, cv, hrun, hv, hr⟩ := hy
  exact ⟨q, hk, cv, by rw [he]; simp [hrun], hv, hr⟩

theorem max2_ok (k k' : IntKind) (x y : Int) : (Builtin.max_ #[] 0 #[.int k x, .int k' y]).run P w = .ok (.int k (if y > x then y else x)) w := by
  simp [Builtin.max_, Builtin.max2]
theorem min2_ok (k k' : IntKind) (x y : Int) : (Builtin.min_ #[] 0 #[.int k x, .int k' y]).run P w = .ok (.int k (if y < x then y else x)) w := by
  simp [Builtin.min_, Builtin.min2]

theorem nil_sound {o : Oper} {x : Operand} {p : PV} {K : PV → Prop} (hop : o.op = .nilCheck x) (hp : RV w ow loc p (a.eval x)) (hr : Refs n p) (h : nilCheckW p K) : Gives P w ow loc n a o K := by
  cases p <;> try exact h.elim
  all_goals
    refine ⟨_, h, a.eval x, ?_, hp, hr⟩
    have key : ∃ b, a.eval x = .pointer (some b) := by
      generalize a.eval x = v at hp
      cases hp with
      | data _ _ hd => cases hd
      | _ => exact ⟨_, rfl⟩
    obtain ⟨b, hb⟩ := key
    simp [execOp, hop, hb]

theorem qw_sound (hT : TabOk P tt) (hrows : RowsOk w ow loc n rows) (hv : ∀ t, RV w ow loc (get t) (a.tmps.getD t undef)) (hr : ∀ t, Refs n (get t)) {o : Oper} {K : PV → Prop}
    (h : qw tt rows (ev get) o.op K) : Gives P w ow loc n a o K := by
  have V := fun x => ev_ok (w := w) (ow := ow) (loc := loc) hv x
  have R := fun x => ev_refs (n := n) hr x
  have O := fun x => ov_ok (w := w) (ow := ow) (loc := loc) hv x
  cases hop : o.op <;> rw [hop] at h <;> try exact h.elim
  case move x => exact ⟨_, h, a.eval x, by simp [execOp, hop], V x, R x⟩
  case assign x => exact ⟨_, h, a.eval x, by simp [execOp, hop], V x, R x⟩
  case pick c x y =>
    simp only [qw] at h
    have hc := V c
    split at h
    · rename_i t ht
      rw [ht] at hc
      have hc' := rv_bool hc
      cases t
      · exact ⟨_, h, a.eval y, by simp [execOp, hop, hc', asBool], V y, R y⟩
      · exact ⟨_, h, a.eval x, by simp [execOp, hop, hc', asBool], V x, R x⟩
    · exact h.elim
  case load t x =>
    simp only [qw] at h
    split at h
    · rename_i ti ht
      exact gives_of (load_sound (hT _ _ ht) h.1 hrows (V x) h.2) (by simp [execOp, hop])
    · exact h.elim
  case nilCheck x => exact nil_sound hop (V x) (R x) h
  case binOp op t x y t' => exact gives_of (bin_sound (t := t) (x := x) (y := y) (V x) (V y) h) (by simp [execOp, hop])
  case unOp op t x => exact gives_of (un_sound (V x) h) (by simp [execOp, hop])
  case convert src dst x => exact gives_of (conv_sound hT hrows (V x) h) (by simp [execOp, hop])
  case slice t x lo hi mx =>
    simp only [qw] at h
    split at h
    · rename_i ti ht
      exact gives_of (slice_sound hT (hT _ _ ht) hrows (V x) (R x) (O lo) (O hi) (O mx) h) (by simp [execOp, hop])
    · exact h.elim
  case fieldAddr s x f =>
    simp only [qw] at h
    split at h
    · rename_i ti ht
      split at h
      · rename_i fs hd
        split at h
        · rename_i off sz ag hf
          exact gives_of (fieldAddr_sound (hT _ _ ht) hd hf h.1 (V x) (R x) h.2) (by simp [execOp, hop])
        · exact h.elim
      · exact h.elim
    · exact h.elim
  case field s x f =>
    simp only [qw] at h
    split at h
    · rename_i ti ht
      split at h
      · rename_i fs hd
        split at h
        · rename_i off sz ag l hf hl
          have hx := V x
          have hrx := R x
          rw [hl] at hx hrx
          exact gives_of (field_sound (hT _ _ ht) hd hf h.1 hx hrx h.2) (by simp [execOp, hop])
        · exact h.elim
      · exact h.elim
    · exact h.elim
  case indexAddr t x i =>
    simp only [qw] at h
    split at h
    · rename_i ti ht
      split at h
      · rename_i el hd
        split at h
        · rename_i te hte
          exact gives_of (idx_sound (hT _ _ ht) hd (hT _ _ hte) hrows (V x) (R x) (V i) h) (by simp [execOp, hop])
        · exact h.elim
      · exact h.elim
    · exact h.elim
  case index t x i =>
    simp only [qw] at h
    split at h
    · rename_i ti ht
      exact gives_of (index_sound (hT _ _ ht) (V x) (V i) h) (by simp [execOp, hop])
    · exact h.elim
  case extract x i => exact gives_of (extract_sound (V x) (R x) h) (by simp [execOp, hop])
  case build t parts =>
    simp only [qw] at h
    split at h
    · rename_i ti ht
      split at h
      · rename_i fs zl hd hz
        refine gives_of (build_sound (hT _ _ ht) hd hz h.1 (parts := parts.toList.map fun (i, x) => (i, ev get x)) (vals := parts.map fun (i, x) => (i, a.eval x)) (by simp) ?_ h.2) (by simp [execOp, hop])
        intro i hi
        have hi' : i < parts.size := by simpa using hi
        have e1 : (parts.toList.map fun (i, x) => (i, ev get x)).getD i (0, .undef) = (parts[i].1, ev get parts[i].2) := by simp [List.getD, hi']
        have e2 : (parts.map fun (i, x) => (i, a.eval x)).toList.getD i (0, undef) = (parts[i].1, a.eval parts[i].2) := by simp [List.getD, hi']
        rw [e1, e2]
        exact ⟨rfl, V _, R _⟩
      · exact h.elim
    · exact h.elim
  case call c =>
    obtain ⟨callee, args, argTypes⟩ := c
    simp only [qw] at h
    split at h
    · rename_i x t ha hat
      obtain rfl : args = #[x] := Array.ext' ha
      obtain rfl : argTypes = #[t] := Array.ext' hat
      split at h
      · rename_i ti ht
        refine gives_of (len_sound (ty := o.type) (hT _ _ ht) (fun r row hr => hrows.ne hr) (V x) h) ?_
        simp [execOp, hop, resolve, invoke, builtin]
      · exact h.elim
    · rename_i x y ha
      obtain rfl : args = #[x, y] := Array.ext' ha
      split at h
      · rename_i k m k' m' hx hy
        have h1 := V x
        have h2 := V y
        rw [hx] at h1
        rw [hy] at h2
        refine gives_of (s := Builtin.max_ argTypes o.type #[a.eval x, a.eval y]) (.pure h ?_ (.int _ _) (.int _ _)) (by simp [execOp, hop, resolve, invoke, builtin])
        rw [rv_int h1, rv_int h2]
        simp [Builtin.max_, Builtin.max2]
      · exact h.elim
    · rename_i x y ha
      obtain rfl : args = #[x, y] := Array.ext' ha
      split at h
      · rename_i k m k' m' hx hy
        have h1 := V x
        have h2 := V y
        rw [hx] at h1
        rw [hy] at h2
        refine gives_of (s := Builtin.min_ argTypes o.type #[a.eval x, a.eval y]) (.pure h ?_ (.int _ _) (.int _ _)) (by simp [execOp, hop, resolve, invoke, builtin])
        rw [rv_int h1, rv_int h2]
        simp [Builtin.min_, Builtin.min2]
      · exact h.elim
    · exact h.elim
end
end Go.PV

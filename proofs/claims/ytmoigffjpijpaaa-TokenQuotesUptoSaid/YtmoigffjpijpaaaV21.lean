/- Pure values, part 21: operations that only compute: what one hands on is one value, and hangs on its operands alone. -/
import Derived.Test.YtmoigffjpijpaaaV20
set_option linter.unusedVariables false
set_option linter.unusedSimpArgs false
namespace Go.PV
open Go Go.RowKit

def callD (P : Program) (f : FuncId) (args : List PV) (H : Heap) (K : PV → Prop) : Prop :=
  okViews H.get args ∧ ∃ res, Meets P f (args.map (view H.get)) res ∧ (flatB res || args.all dataB) = true ∧ K res

/-- An operation that only computes. -/
def stepD (P : Program) (tt : Tab) (o : Oper) (e : Operand → PV) (H : Heap) (K : PV → Prop) : Prop :=
  match o.op with
  | .convert src dst x => match isBytes tt src dst with
    | true => False
    | false => convW tt H.get src dst (e x) K
  | .call c => match c.callee with
    | .builtin b => match isEffect b with
      | true => False
      | false => qw tt H.get e o.op K
    | .value (.func f) => callD P f (c.args.toList.map e) H K
    | _ => False
  | op => qw tt H.get e op K

section
variable {P : Program} {w w' : World} {ow ow' : Nat → Prop} {loc loc' : Locs} {n nt : Nat} {E : Entry} {H : Heap} {F : Frame} {a : Act} {tt : Tab} {rows : Nat → Option Row}

theorem opW_of_stepD {o : Oper} {K : Frame → Heap → Prop} (h : stepD P tt o (ev F.get) H fun q => K (F.put o.dst q) H) : opW P tt o F H K := by
  obtain ⟨dst, op, type, pos, after, guard⟩ := o
  cases op <;> try (first | exact h | exact h.elim)
  case convert src d x =>
    simp only [stepD, opW] at h ⊢
    split at h
    · exact h.elim
    · rename_i hb; rw [hb]; exact h
  case call c =>
    simp only [stepD, opW] at h ⊢
    split at h
    · rename_i b hc
      simp only [hc]
      split at h
      · exact h.elim
      · rename_i hb; simp only [hb]; exact h
    · rename_i f hc
      simp only [hc]
      obtain ⟨ho, res, hm, hfl, hk⟩ := h
      exact .inl ⟨ho, res, hm, by rw [hfl]; exact hk⟩
    · exact h.elim

/-- Whatever is asked of the value, is asked of one value. -/
def Pt {α : Type} (X : (α → Prop) → Prop) : Prop := ∀ K, X K → ∃ q, K q ∧ ∀ K', K' q → X K'

theorem binW_pt (op : BinOp) (p q : PV) : Pt (binW op p q) := by
  intro K h
  unfold binW at h
  repeat' split at h
  all_goals first
    | exact h.elim
    | exact ⟨_, h, fun _ k => k⟩
    | exact ⟨_, h.2, fun _ k => And.intro h.1 k⟩
    | exact ⟨_, h.2.2, fun _ k => And.intro h.1 (And.intro h.2.1 k)⟩
theorem unW_pt (op : UnOp) (p : PV) : Pt (unW op p) := by
  intro K h
  unfold unW at h
  split at h
  · split at h
    · exact ⟨_, h, fun _ k => k⟩
    · exact h.elim
  · split at h
    · exact ⟨_, h, fun _ k => k⟩
    · exact h.elim
  · split at h
    · exact ⟨_, h, fun _ k => k⟩
    · exact h.elim
  · exact h.elim
theorem strOf_pt (p : PV) : Pt (strOf rows p) := by
  intro K h
  unfold strOf at h ⊢
  split at h
  · exact ⟨_, h.2, fun _ k => And.intro h.1 k⟩
  · exact ⟨_, h, fun _ k => k⟩
  · split at h
    · rename_i hr
      try simp only [hr]
      exact ⟨_, h.2.2, fun _ k => And.intro h.1 (And.intro h.2.1 k)⟩
    · exact h.elim
  · exact h.elim
theorem convW_pt (src dst : TypeId) (p : PV) : Pt (convW tt rows src dst p) := by
  intro K h
  unfold convW at h ⊢
  split at h
  · rename_i s d hs hd
    try simp only [hs, hd]
    split at h
    · rename_i k' k n hk
      try simp only [hk]
      exact ⟨_, h, fun _ k => k⟩
    · rename_i l hk
      try simp only [hk]
      exact ⟨_, h.2, fun _ k => And.intro h.1 k⟩
    · rename_i hk hne
      try simp only [hk]
      split at h
      · rename_i e he
        try simp only [he]
        split at h
        · rename_i te hte
          try simp only [hte]
          split at h
          · rename_i hu
            try simp only [hu]
            exact strOf_pt _ K h
          · exact h.elim
        · exact h.elim
      · exact h.elim
    · exact h.elim
  · exact h.elim
theorem partW_pt (agg : Bool) (size : Nat) (ps : List PV) (j : Nat) : Pt (partW agg size ps j) := by
  intro K h
  unfold partW at h
  split at h
  · exact ⟨_, h.2, fun _ k => And.intro h.1 k⟩
  · exact ⟨_, h.2, fun _ k => And.intro h.1 k⟩
theorem loadW_pt (agg : Bool) (size : Nat) (p : PV) : Pt (loadW rows agg size p) := by
  intro K h
  unfold loadW at h ⊢
  split at h
  · exact partW_pt _ _ _ _ K h
  · split at h
    · rename_i hr
      try simp only [hr]
      split at h
      · exact h.elim
      · exact ⟨_, h.2, fun _ k => And.intro h.1 k⟩
    · rename_i hr
      try simp only [hr]
      obtain ⟨h1, h2⟩ := h
      obtain ⟨q, h3, h4⟩ := partW_pt _ _ _ _ K h2
      exact ⟨q, h3, fun K' k => And.intro h1 (h4 K' k)⟩
    · rename_i hr
      try simp only [hr]
      obtain ⟨h1, h2⟩ := h
      obtain ⟨q, h3, h4⟩ := partW_pt _ _ _ _ K h2
      exact ⟨q, h3, fun K' k => And.intro h1 (h4 K' k)⟩
    · exact h.elim
  · exact h.elim
theorem idxW_pt (sz : Nat) (p q : PV) : Pt (idxW rows sz p q) := by
  intro K h
  unfold idxW at h
  split at h
  · exact ⟨_, h.2.2, fun _ k => And.intro h.1 (And.intro h.2.1 k)⟩
  · exact ⟨_, h.2.2, fun _ k => And.intro h.1 (And.intro h.2.1 k)⟩
  · exact ⟨_, h.2.2.2, fun _ k => And.intro h.1 (And.intro h.2.1 (And.intro h.2.2.1 k))⟩
  · exact h.elim
theorem lenW_pt (d : TD) (p : PV) : Pt (lenW rows d p) := by
  intro K h
  unfold lenW at h
  split at h
  all_goals first
    | exact h.elim
    | exact ⟨_, h, fun _ k => k⟩
    | exact ⟨_, h.2, fun _ k => And.intro h.1 k⟩
theorem indexW_pt (d : TD) (p q : PV) : Pt (indexW d p q) := by
  intro K h
  unfold indexW at h
  split at h
  · exact ⟨_, h.2, fun _ k => And.intro h.1 k⟩
  · exact h.elim
theorem fieldAddrW_pt (off : Nat) (p : PV) : Pt (fieldAddrW off p) := by
  intro K h
  unfold fieldAddrW at h
  split at h
  · exact ⟨_, h, fun _ k => k⟩
  · exact ⟨_, h, fun _ k => k⟩
  · exact h.elim
theorem extractW_pt (i : Nat) (p : PV) : Pt (extractW i p) := by
  intro K h
  unfold extractW at h
  split at h
  · exact ⟨_, h.2, fun _ k => And.intro h.1 k⟩
  · exact h.elim
theorem nilCheckW_pt (p : PV) : Pt (nilCheckW p) := by
  intro K h
  unfold nilCheckW at h
  split at h
  · exact ⟨_, h, fun _ k => k⟩
  · exact ⟨_, h, fun _ k => k⟩
  · exact h.elim
theorem fillW_pt (fs : List (Nat × Nat × Bool)) : ∀ (ps : List (Nat × PV)) (l : List PV), Pt (fun K => fillW fs l K ps)
  | [], l, K, h => ⟨l, h, fun _ k => k⟩
  | (i, p) :: rest, l, K, h => by
    simp only [fillW] at h ⊢
    split at h
    · rename_i off sz ag hf
      try simp only [hf]
      obtain ⟨h1, h2, h3, h4⟩ := h
      obtain ⟨q, h5, h6⟩ := fillW_pt fs rest _ K h4
      exact ⟨q, h5, fun K' k => ⟨h1, h2, h3, h6 K' k⟩⟩
    · exact h.elim
theorem cutW_and (n : Nat) (lo hi mx : Option PV) {K : Prop} (h : cutW n lo hi mx K) : K ∧ cutW n lo hi mx True := by
  unfold cutW optI at h ⊢
  split at h
  · split at h
    · split at h
      · exact ⟨h.2, h.1, trivial⟩
      · exact ⟨h.2.2, h.1, h.2.1, trivial⟩
      · exact h.elim
    · split at h
      · exact ⟨h.2, h.1, trivial⟩
      · exact ⟨h.2.2, h.1, h.2.1, trivial⟩
      · exact h.elim
    · exact h.elim
  · split at h
    · split at h
      · exact ⟨h.2, h.1, trivial⟩
      · exact ⟨h.2.2, h.1, h.2.1, trivial⟩
      · exact h.elim
    · split at h
      · exact ⟨h.2, h.1, trivial⟩
      · exact ⟨h.2.2, h.1, h.2.1, trivial⟩
      · exact h.elim
    · exact h.elim
  · exact h.elim
theorem cutW_mono {n : Nat} {lo hi mx : Option PV} {K K' : Prop} (hk : K → K') (h : cutW n lo hi mx K) : cutW n lo hi mx K' := by
  unfold cutW optI at h ⊢
  split at h
  all_goals try exact h.elim
  all_goals split at h
  all_goals try exact h.elim
  all_goals split at h
  all_goals first
    | exact h.elim
    | exact ⟨h.1, hk h.2⟩
    | exact ⟨h.1, h.2.1, hk h.2.2⟩
theorem sliceW_pt (d : TD) (esz : Nat) (p : PV) (lo hi mx : Option PV) : Pt (sliceW rows d esz p lo hi mx) := by
  intro K h
  unfold sliceW at h
  split at h
  · obtain ⟨h1, h2⟩ := h
    obtain ⟨h3, h4⟩ := cutW_and _ _ _ _ h2
    exact ⟨_, h3, fun _ k => And.intro h1 (cutW_mono (fun _ => k) h4)⟩
  · obtain ⟨h1, h2⟩ := h
    obtain ⟨h3, h4⟩ := cutW_and _ _ _ _ h2
    exact ⟨_, h3, fun _ k => And.intro h1 (cutW_mono (fun _ => k) h4)⟩
  · obtain ⟨h0, h1, h2⟩ := h
    obtain ⟨h3, h4⟩ := cutW_and _ _ _ _ h2
    exact ⟨_, h3, fun _ k => And.intro h0 (And.intro h1 (cutW_mono (fun _ => k) h4))⟩
  · obtain ⟨h1, h2⟩ := h
    obtain ⟨h3, h4⟩ := cutW_and _ _ _ _ h2
    exact ⟨_, h3, fun _ k => And.intro h1 (cutW_mono (fun _ => k) h4)⟩
  · obtain ⟨h0, h1, h2⟩ := h
    unfold optI at h2
    split at h2
    all_goals try exact h2.elim
    all_goals split at h2
    all_goals try exact h2.elim
    all_goals split at h2
    all_goals first
      | exact h2.elim
      | exact ⟨_, h2.2, fun _ k => And.intro h0 (And.intro h1 (And.intro h2.1 k))⟩
      | exact ⟨_, h2.2.2, fun _ k => And.intro h0 (And.intro h1 (And.intro h2.1 (And.intro h2.2.1 k)))⟩
  · exact h.elim
end
end Go.PV

/- Pure values, part 22: regions that draw their order. -/
import Derived.Test.YtmoigffjpijpaaaV21
set_option linter.unusedVariables false
set_option linter.unusedSimpArgs false
namespace Go.PV
open Go Go.RowKit

section
variable {P : Program} {w w' : World} {ow ow' : Nat → Prop} {loc loc' : Locs} {n nt : Nat} {E : Entry} {H : Heap} {F : Frame} {a : Act} {tt : Tab} {rows : Nat → Option Row}

theorem pt_and {p : Prop} {X : (PV → Prop) → Prop} (hX : Pt X) : Pt fun K => p ∧ X K := fun K h => by
  obtain ⟨q, h1, h2⟩ := hX K h.2
  exact ⟨q, h1, fun K' k => ⟨h.1, h2 K' k⟩⟩

theorem qw_pt (e : Operand → PV) (op : Op) : Pt (qw tt rows e op) := by
  intro K h
  cases op <;> simp only [qw] at h ⊢ <;> try exact h.elim
  case move => exact ⟨_, h, fun _ k => k⟩
  case assign => exact ⟨_, h, fun _ k => k⟩
  case pick => split at h <;> first | exact h.elim | exact ⟨_, h, fun _ k => k⟩
  case load =>
    split at h
    · exact pt_and (loadW_pt _ _ _) K h
    · exact h.elim
  case nilCheck => exact nilCheckW_pt _ K h
  case binOp => exact binW_pt _ _ _ K h
  case unOp => exact unW_pt _ _ K h
  case convert => exact convW_pt _ _ _ K h
  case slice =>
    split at h
    · exact sliceW_pt _ _ _ _ _ _ K h
    · exact h.elim
  case fieldAddr =>
    split at h
    · split at h
      · split at h
        · exact pt_and (fieldAddrW_pt _ _) K h
        · exact h.elim
      · exact h.elim
    · exact h.elim
  case field =>
    split at h
    · split at h
      · split at h
        · exact pt_and (partW_pt _ _ _ _) K h
        · exact h.elim
      · exact h.elim
    · exact h.elim
  case indexAddr =>
    split at h
    · split at h
      · split at h
        · exact idxW_pt _ _ _ K h
        · exact h.elim
      · exact h.elim
    · exact h.elim
  case index =>
    split at h
    · exact indexW_pt _ _ _ K h
    · exact h.elim
  case extract => exact extractW_pt _ _ K h
  case build =>
    split at h
    · split at h
      · obtain ⟨h1, h2⟩ := h
        obtain ⟨l, h3, h4⟩ := fillW_pt _ _ _ _ h2
        exact ⟨.agg l, h3, fun K' k => ⟨h1, h4 _ k⟩⟩
      · exact h.elim
    · exact h.elim
  case call =>
    split at h
    · split at h
      · exact lenW_pt _ _ K h
      · exact h.elim
    · split at h
      · exact ⟨_, h, fun _ k => k⟩
      · exact h.elim
    · split at h
      · exact ⟨_, h, fun _ k => k⟩
      · exact h.elim
    · exact h.elim

theorem stepD_pt (o : Oper) (e : Operand → PV) (H : Heap) : Pt (stepD P tt o e H) := by
  intro K h
  unfold stepD at h ⊢
  split at h
  · split at h
    · exact h.elim
    · exact convW_pt _ _ _ K h
  · split at h
    · split at h
      · exact h.elim
      · exact qw_pt _ _ K h
    · obtain ⟨ho, res, hm, hfl, hk⟩ := h
      exact ⟨res, hk, fun K' k => ⟨ho, res, hm, hfl, k⟩⟩
    · exact h.elim
  · rename_i hn1 hn2
    obtain ⟨q, h1, h2⟩ := qw_pt _ _ K h
    exact ⟨q, h1, h2⟩

theorem qw_congr {e e' : Operand → PV} (op : Op) (h : ∀ x ∈ op.operands, e x = e' x) (K : PV → Prop) : qw tt rows e op K = qw tt rows e' op K := by
  have pairs : ∀ ps : Array (Nat × Operand), (∀ x ∈ ps.toList.map (·.2), e x = e' x) →
      (ps.toList.map fun (i, x) => (i, e x)) = (ps.toList.map fun (i, x) => (i, e' x)) := fun ps hp =>
    List.map_congr_left fun p hm => by
      obtain ⟨i, x⟩ := p
      simp only [hp x (List.mem_map.2 ⟨(i, x), hm, rfl⟩)]
  cases op <;> simp only [Op.operands] at h <;> simp only [qw]
  case build t ps => rw [pairs ps fun x hx => h x (by simpa using hx)]
  case call c =>
    have hargs : ∀ x ∈ c.args, e x = e' x := fun x hx => h x (by simp [Call.operands, hx])
    split
    · rename_i b x t h1 h2 h3
      rw [hargs x (by rw [← Array.mem_toList_iff, h2]; simp)]
    · rename_i x y h1 h2
      rw [hargs x (by rw [← Array.mem_toList_iff, h2]; simp), hargs y (by rw [← Array.mem_toList_iff, h2]; simp)]
    · rename_i x y h1 h2
      rw [hargs x (by rw [← Array.mem_toList_iff, h2]; simp), hargs y (by rw [← Array.mem_toList_iff, h2]; simp)]
    · rfl
  case slice t x lo hi mx => cases lo <;> cases hi <;> cases mx <;> simp_all
  all_goals (first | rfl | (simp_all; done))

theorem stepD_congr {e e' : Operand → PV} {o : Oper} (h : ∀ x ∈ o.op.operands, e x = e' x) (K : PV → Prop) : stepD P tt o e H K = stepD P tt o e' H K := by
  obtain ⟨dst, op, type, pos, after, guard⟩ := o
  have hq := qw_congr (tt := tt) (rows := H.get) op h K
  cases op <;> try exact hq
  case convert src d x =>
    simp only [stepD]
    split
    · rfl
    · exact hq
  case call c =>
    simp only [stepD]
    split
    · split
      · rfl
      · exact hq
    · have hargs : c.args.toList.map e = c.args.toList.map e' := List.map_congr_left fun x hx => h x (by simp [Op.operands, Call.operands, Array.mem_toList_iff.1 hx])
      rw [hargs]
    · rfl
end
end Go.PV

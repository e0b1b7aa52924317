/- Pure values, part 40: the library's tables, out of what a row says of the variables. -/
import Derived.Test.YtjfakpogfakicaaDoorVE
import Derived.LaidSub
set_option linter.unusedVariables false
namespace Go.PV
open Go Go.RowKit

theorem mapM_at {α β : Type} {f : α → Option β} : ∀ {l : List α} {xs : List β}, l.mapM f = some xs → xs.length = l.length ∧ ∀ (i : Nat) (a : α), l[i]? = some a → ∃ x, xs[i]? = some x ∧ f a = some x
  | [], xs, h => by
    simp at h
    subst h
    exact ⟨rfl, fun i a h => by simp at h⟩
  | a :: l, xs, h => by
    rw [List.mapM_cons] at h
    cases hf : f a with
    | none => rw [hf] at h; cases h
    | some b =>
      rw [hf] at h
      cases hr : l.mapM f with
      | none => rw [hr] at h; cases h
      | some bs =>
        rw [hr] at h
        cases h
        obtain ⟨h1, h2⟩ := mapM_at hr
        refine ⟨by simp [h1], fun i x hx => ?_⟩
        cases i with
        | zero => simp at hx; subst hx; exact ⟨b, rfl, hf⟩
        | succ i => simp at hx ⊢; exact h2 i x hx

theorem trod_bytes {P : Program} {w : World} {fuel : Nat} {t e : TypeId} {n : Nat} {cs : List Value} {tab : List Nat} {p : List MemPlace} {held : Bool} (ht : P.underlying t = some (.array n e)) (he : P.underlying e = some (.int .u8)) (hn : n = tab.length) (hc : P.cellsOf e = 1) (hct : P.cellsOf t = n)
    (h : DataW.trod (fun _ => ()) P w 0 (fun _ => true) held fuel t cs = some (.agg (tab.map fun k : Nat => .lit (.int .u8 (k : Int))), p)) : ∀ j, j < tab.length → cs[j]? = some (.int .u8 ((tab.getD j 0 : Nat) : Int)) := by
  intro j hj
  cases fuel with
  | zero => simp [DataW.trod] at h
  | succ fuel =>
    unfold DataW.trod at h
    simp only [ht] at h
    split at h
    · rename_i hl
      cases hm : (List.range n).mapM fun i => DataW.trod (fun _ => ()) P w 0 (fun _ => true) held fuel e ((cs.drop (i * P.cellsOf e)).take (P.cellsOf e)) with
      | none => rw [hm] at h; cases h
      | some xs =>
        rw [hm] at h
        simp only [Option.map_some, Option.some.injEq, Prod.mk.injEq, DataW.agg.injEq] at h
        obtain ⟨h1, h2⟩ := mapM_at hm
        obtain ⟨x, hx, hf⟩ := h2 j j (by rw [List.getElem?_range (by omega)])
        have h3 : (xs.map (·.1))[j]? = some x.1 := by rw [List.getElem?_map, hx]; rfl
        rw [h.1, List.getElem?_map, List.getElem?_eq_getElem hj] at h3
        simp only [Option.map_some, Option.some.injEq] at h3
        rw [hc, Nat.mul_one] at hf
        have hjl : j < cs.length := by rw [hl, hct]; omega
        have hd : (cs.drop j).take 1 = [cs[j]] := by
          rw [List.drop_eq_getElem_cons hjl]; rfl
        rw [hd] at hf
        cases fuel with
        | zero => simp [DataW.trod] at hf
        | succ fuel =>
          rw [List.getElem?_eq_getElem hjl]
          generalize cs[j] = v at hf
          cases v <;> simp [DataW.trod, he] at hf
          rename_i k' m
          obtain ⟨⟨hk, _⟩, hf⟩ := hf
          rw [← hf] at h3
          injection h3 with h3
          injection h3 with _ h3
          rw [hk, ← h3, List.getD_eq_getElem?_getD, List.getElem?_eq_getElem hj]
          rfl
    · cases h

theorem laidVars_mem {P : Program} {w : World} {x : String × DataW Unit} : ∀ {l : List (String × DataW Unit)} {ps : List MemPlace}, DataW.LaidVars P w l ps → x ∈ l → ∃ g t cs fuel p, P.globalNamed x.1 = some g ∧ (P.globals[g]?).map (·.type) = some t ∧ w.var? P x.1 = some cs ∧ DataW.trod (fun _ => ()) P w 0 (fun _ => true) false fuel t cs.toList = some (x.2, p)
  | [], _, _, h => by cases h
  | (n, d) :: r, ps, ⟨g, t, cs, fuel, p, q, h1, h2, h3, h4, h5, _⟩, h => by
    rcases List.mem_cons.1 h with rfl | h
    · exact ⟨g, t, cs, fuel, p, h1, h2, h3, h4⟩
    · exact laidVars_mem h5 h

/-- Nothing is laid, nothing is asked. -/
theorem tabs_none {P : Program} (h : (P.globals.toList.all fun gl => (tabOf gl.name).isNone) = true) (w : World) : Tabs P w := fun g gl tab hg ht => by
  have hm : gl ∈ P.globals.toList := by rw [Array.mem_toList_iff]; exact Array.mem_of_getElem? hg
  have := List.all_eq_true.1 h gl hm
  rw [ht] at this
  cases this

theorem tabOf_eq {n : String} {tab : List Nat} (h : tabOf n = some tab) : n = "math/bits.deBruijn64tab" ∧ tab = Lib.deBruijn64tab := by
  unfold tabOf at h
  split at h
  · rename_i e
    injection h with h
    exact ⟨e, h.symm⟩
  · cases h

theorem tabs_laid {P : Program} {laid : List (String × DataW Unit)} {w : World} (h : laidMetH P laid w) (g0 : Nat) (t e : TypeId) (hu : (P.globals.toList.zipIdx.all fun x => x.1.name != "math/bits.deBruijn64tab" || x.2 == g0) = true) (hg0 : P.globalNamed "math/bits.deBruijn64tab" = some g0)
    (ht : (P.globals[g0]?).map (·.type) = some t) (hta : P.underlying t = some (.array 64 e)) (hte : P.underlying e = some (.int .u8)) (hc : P.cellsOf e = 1) (hct : P.cellsOf t = 64)
    (hm : ("math/bits.deBruijn64tab", DataW.agg (Lib.deBruijn64tab.map fun k : Nat => .lit (.int .u8 (k : Int)))) ∈ laid) : Tabs P w := by
  intro g gl tab hg htab j hj
  obtain ⟨hn, rfl⟩ := tabOf_eq htab
  have hgg : g = g0 := by
    have hmem : (gl, g) ∈ P.globals.toList.zipIdx := by
      rw [List.mem_zipIdx_iff_getElem?]
      simpa using hg
    have := List.all_eq_true.1 hu _ hmem
    simp only [hn, bne_self_eq_false, Bool.false_or, beq_iff_eq] at this
    exact this
  subst hgg
  obtain ⟨⟨ps, hl, _, _⟩, _⟩ := laidMetH_iff.1 h
  obtain ⟨g', t', cs, fuel, p, k1, k2, k3, k4⟩ := laidVars_mem hl (List.mem_filter.2 ⟨hm, rfl⟩)
  simp only at k1 k3 k4
  rw [hg0] at k1
  injection k1 with k1
  subst k1
  rw [ht] at k2
  injection k2 with k2
  subst k2
  have hb := trod_bytes hta hte rfl hc hct k4 j hj
  unfold World.var? at k3
  rw [hg0] at k3
  simp only [Option.bind_some] at k3
  split at k3
  · rename_i cur ty fr hh
    injection k3 with k3
    subst k3
    rw [Array.getElem?_toList] at hb
    unfold World.cell?
    simp only [hh]
    exact hb
  · cases k3
end Go.PV

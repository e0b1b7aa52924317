/- Contracts and laws that the row leans on, part 11: texts that were built one by one, laid together. -/
import Derived.Laws.Externs
import Derived.Lib.Builder
import Derived.Lib.UnsafeStr
import Derived.ChangeSlices
import Derived.SizedLaws
import Derived.Test.YtbmhnjghpjkjpaaGreatDoorPart1
import Derived.Test.YtbmhnjghpjkjpaaGreatDoorPart2
import Derived.Test.YtbmhnjghpjkjpaaGreatDoorPart3
import Derived.Test.YtbmhnjghpjkjpaaGreatDoorPart4
import Derived.Test.YtbmhnjghpjkjpaaGreatDoorPart5
import Derived.Test.YtbmhnjghpjkjpaaGreatDoorPart6
import Derived.Test.YtbmhnjghpjkjpaaGreatDoorPart7
import Derived.Test.YtbmhnjghpjkjpaaGreatDoorPart8
import Derived.Test.YtbmhnjghpjkjpaaGreatDoorPart9
import Derived.Test.YtbmhnjghpjkjpaaGreatDoorPart10
set_option linter.unusedVariables false
set_option linter.unusedSimpArgs false
namespace Go.PV
open Go Go.RowKit

section
variable {P : Program} {w w' : World} {ow ow' : Nat → Prop} {loc loc' : Locs} {n nt : Nat} {E : Entry P} {H : Heap} {F : Frame} {a : Act} {tt : Tab} {rows : Nat → Option Row}

end
end Go.PV
set_option linter.unusedVariables false
set_option linter.unusedSimpArgs false
namespace Go.PV
open Go Go.RowKit

section
variable {P : Program} {w w' : World} {ow ow' : Nat → Prop} {loc loc' : Locs} {n nt : Nat} {E : Entry P} {H : Heap} {F : Frame} {a : Act} {tt : Tab} {rows : Nat → Option Row}

end
end Go.PV
set_option linter.unusedVariables false
set_option linter.unusedSimpArgs false
namespace Go.PV
open Go Go.RowKit

section
variable {P : Program} {w w' : World} {ow ow' : Nat → Prop} {loc loc' : Locs} {n nt : Nat} {E : Entry P} {H : Heap} {F : Frame} {a : Act} {tt : Tab} {rows : Nat → Option Row}

end
end Go.PV
set_option linter.unusedVariables false
set_option linter.unusedSimpArgs false
namespace Go.PV
open Go Go.RowKit

section
variable {P : Program} {w w' : World} {ow ow' : Nat → Prop} {loc loc' : Locs} {n nt : Nat} {E : Entry P} {H : Heap} {F : Frame} {a : Act} {tt : Tab} {rows : Nat → Option Row}

end
end Go.PV
set_option linter.unusedVariables false
set_option linter.unusedSimpArgs false
namespace Go.PV
open Go Go.RowKit

section
variable {P : Program} {w w' : World} {ow ow' : Nat → Prop} {loc loc' : Locs} {n nt : Nat} {E : Entry P} {H : Heap} {F : Frame} {a : Act} {tt : Tab} {rows : Nat → Option Row}

end
end Go.PV
set_option linter.unusedVariables false
set_option linter.unusedSimpArgs false
namespace Go.PV
open Go Go.RowKit

theorem bytesI_bytes (s : ByteArray) : ∀ c ∈ bytesI s, 0 ≤ c ∧ c < 256 := by
  intro c hc
  unfold bytesI at hc
  obtain ⟨b, _, rfl⟩ := List.mem_map.1 hc
  have := b.toNat_lt
  omega

end Go.PV
set_option linter.unusedVariables false
set_option linter.unusedSimpArgs false
namespace Go.PV
open Go Go.RowKit

end Go.PV
set_option linter.unusedVariables false
set_option linter.unusedSimpArgs false
namespace Go.PV
open Go Go.RowKit

end Go.PV
set_option linter.unusedVariables false
set_option linter.unusedSimpArgs false
namespace Go.PV
open Go Go.RowKit

section
variable {P : Program} {w w' : World} {ow ow' : Nat → Prop} {loc loc' : Locs} {n nt : Nat} {E : Entry P} {H : Heap} {F : Frame} {a : Act} {tt : Tab} {rows : Nat → Option Row}

end
end Go.PV
set_option linter.unusedVariables false
set_option linter.unusedSimpArgs false
namespace Go.PV
open Go Go.RowKit

section
variable {P : Program} {w w' : World} {ow ow' : Nat → Prop} {loc loc' : Locs} {n nt : Nat} {E : Entry P} {H : Heap} {F : Frame} {a : Act} {tt : Tab} {rows : Nat → Option Row}

end
end Go.PV
set_option linter.unusedVariables false
set_option linter.unusedSimpArgs false
namespace Go.PV
open Go Go.RowKit

section
variable {P : Program} {nt : Nat} {E : Entry P} {H : Heap} {F : Frame}

end
end Go.PV
namespace Go.PV
end Go.PV
namespace Go.PV
open Go Go.RowKit

theorem wf_i64 {n : Int} (h : (Lit.int .i64 n).wf = true) : -9223372036854775808 ≤ n ∧ n ≤ 9223372036854775807 := by
  simp only [Lit.wf, Bool.and_eq_true, decide_eq_true_eq, IntKind.min, IntKind.max, IntKind.signed, IntKind.bits] at h
  simp at h
  omega

theorem args2 {w : World} {ow : Nat → Prop} {p q : PV} {v u : Value} (h : RD w ow p v) (h2 : RD w ow q u) : ∀ i, i < [p, q].length → RD w ow ([p, q].getD i .undef) (#[v, u].getD i undef) := by
  intro i hi
  match i, hi with
  | 0, _ => exact h
  | 1, _ => exact h2
end Go.PV
set_option linter.unusedVariables false
set_option linter.unusedSimpArgs false
namespace Go.PV
open Go Go.RowKit
variable {P : Program}
end Go.PV
set_option linter.unusedVariables false
set_option linter.unusedSimpArgs false
namespace Go.PV
open Go Go.RowKit Go.ChangeShapes Go.WideShapes

inductive Shape where
  | int (k : IntKind)
  | bool
  | str
  | ints (k : IntKind) (B : Nat)
  | rows (st : Bool) (B : Nat) (ss : List Shape)

def elemPV (st : Bool) (ps : List PV) : PV := bif st then .agg ps else ps.getD 0 .undef

inductive Fits : Shape → PV → Prop
  | int (k : IntKind) (n : Int) (h : (Lit.int k n).wf = true) : Fits (.int k) (.int k n)
  | bool (b : Bool) : Fits .bool (.bool b)
  | str (l : List Int) (h : l.length ≤ 140737488351232) (hb : ∀ c ∈ l, 0 ≤ c ∧ c < 256) : Fits .str (.str l)
  | ints (k : IntKind) (B : Nat) (l : List Int) (h : l.length * B ≤ 140737488351232) (hw : ∀ n ∈ l, (Lit.int k n).wf = true) : Fits (.ints k B) (.ints k l)
  | rows (st : Bool) (B : Nat) (ss : List Shape) (l : List (List PV)) (h : l.length * B ≤ 140737488351232) (hl : ∀ ps ∈ l, ps.length = ss.length)
      (hf : ∀ ps ∈ l, ∀ j, j < ss.length → Fits (ss.getD j .bool) (ps.getD j .undef)) : Fits (.rows st B ss) (.list ss.length (l.map (elemPV st)))

inductive Typed (P : Program) : TypeId → List Shape → Prop
  | int {t : TypeId} {k : IntKind} (h : P.underlying t = some (.int k)) : Typed P t [.int k]
  | bool {t : TypeId} (h : P.underlying t = some .bool) : Typed P t [.bool]
  | str {t : TypeId} (h : P.underlying t = some .string) : Typed P t [.str]
  | ints {t e : TypeId} {k : IntKind} {B : Nat} (h : P.underlying t = some (.slice e)) (he : P.underlying e = some (.int k)) (hc : P.cellsOf e = 1) (hB : P.bytesOf e = B) : Typed P t [.ints k B]
  | rows {t e : TypeId} {ss : List Shape} {B : Nat} (st : Bool) (h : P.underlying t = some (.slice e)) (he : Typed P e ss) (hc : P.cellsOf e = ss.length) (hB : P.bytesOf e = B) (h0 : 0 < ss.length) (hst : st = false → ss.length = 1) : Typed P t [.rows st B ss]
  | struct {t : TypeId} {fs : Array Field} (parts : List (List Shape)) (h : P.underlying t = some (.struct fs)) (hl : parts.length = fs.size) (ht : P.cellsOf t = parts.flatten.length)
      (hp : ∀ (i : Nat) (f : Field), fs[i]? = some f → Typed P f.type (parts.getD i []))
      (ho : ∀ (i : Nat) (f : Field), fs[i]? = some f → f.offset = (parts.take i).flatten.length ∧ P.cellsOf f.type = (parts.getD i []).length) : Typed P t parts.flatten

theorem choose_list {α : Type} {Q : Nat → α → Prop} (d : α) : ∀ n, (∀ i, i < n → ∃ a, Q i a) → ∃ l : List α, l.length = n ∧ ∀ i, i < n → Q i (l.getD i d)
  | 0, _ => ⟨[], rfl, fun i hi => absurd hi (Nat.not_lt_zero i)⟩
  | n + 1, h => by
    obtain ⟨l, hl, hq⟩ := choose_list d n fun i hi => h i (by omega)
    obtain ⟨a, ha⟩ := h n (by omega)
    refine ⟨l ++ [a], by simp [hl], fun i hi => ?_⟩
    by_cases hin : i < n
    · have e : (l ++ [a]).getD i d = l.getD i d := by
        rw [List.getD_eq_getElem?_getD, List.getD_eq_getElem?_getD, List.getElem?_append_left (by omega)]
      rw [e]; exact hq i hin
    · have : i = n := by omega
      subst this
      have e : (l ++ [a]).getD i d = a := by
        rw [List.getD_eq_getElem?_getD, List.getElem?_append_right (by omega), hl]; simp
      rw [e]; exact ha

theorem flat_get {α β : Type} (da : α) (db : β) : ∀ (parts : List (List α)) (pss : List (List β)), pss.length = parts.length → (∀ i, i < parts.length → (pss.getD i []).length = (parts.getD i []).length) →
    pss.flatten.length = parts.flatten.length ∧ ∀ j, j < parts.flatten.length → ∃ i m, i < parts.length ∧ m < (parts.getD i []).length ∧ j = (parts.take i).flatten.length + m ∧ parts.flatten.getD j da = (parts.getD i []).getD m da ∧ pss.flatten.getD j db = (pss.getD i []).getD m db
  | [], [], _, _ => ⟨rfl, fun j hj => by simp at hj⟩
  | [], _ :: _, h, _ => by simp at h
  | _ :: _, [], h, _ => by simp at h
  | a :: parts, p :: pss, hl, h => by
    obtain ⟨h1, h2⟩ := flat_get da db parts pss (by simpa using hl) fun i hi => by simpa using h (i + 1) (by simpa using hi)
    have h0 : p.length = a.length := by simpa using h 0 (by simp)
    refine ⟨by simp only [List.flatten_cons, List.length_append]; omega, fun j hj => ?_⟩
    simp only [List.flatten_cons, List.length_append] at hj
    by_cases hja : j < a.length
    · refine ⟨0, j, by simp, by simpa using hja, by simp, ?_, ?_⟩
      · simp only [List.flatten_cons, List.getD_eq_getElem?_getD, List.getElem?_append_left hja]; rfl
      · simp only [List.flatten_cons, List.getD_eq_getElem?_getD, List.getElem?_append_left (show j < p.length by omega)]; rfl
    · obtain ⟨i, m, hi, hm, e, e1, e2⟩ := h2 (j - a.length) (by omega)
      refine ⟨i + 1, m, by simpa using hi, by simpa using hm, ?_, ?_, ?_⟩
      · simp only [List.take_succ_cons, List.flatten_cons, List.length_append]; omega
      · rw [List.getD_cons_succ, ← e1]
        simp only [List.flatten_cons, List.getD_eq_getElem?_getD, List.getElem?_append_right (show a.length ≤ j by omega)]
      · rw [List.getD_cons_succ, ← e2]
        simp only [List.flatten_cons, List.getD_eq_getElem?_getD, List.getElem?_append_right (show p.length ≤ j by omega), h0]

theorem weights_all {H : Type} {P : Program} {e : TypeId} : ∀ {l : List (DataW H)} {d : DataW H}, d ∈ l → ∀ n ∈ d.weights P e, n ∈ DataW.weightsAll P e l
  | x :: l, d, hd, n, hn => by
    simp only [DataW.weightsAll, List.mem_append]
    rcases List.mem_cons.1 hd with rfl | hd
    · exact .inl hn
    · exact .inr (weights_all hd n hn)


section
variable {H : Type} {enc : TypeId × Value → H} {P : Program} {w : World} {held : Bool}

theorem fits_cells {st : Bool} {ss : List Shape} {ps : List PV} (hst : st = false → ss.length = 1) (hl : ps.length = ss.length) (hf : ∀ j, j < ss.length → Fits (ss.getD j .bool) (ps.getD j .undef)) : cellsOf (elemPV st ps) = ps := by
  cases st with
  | true => rfl
  | false =>
    have h1 := hst rfl
    have hf0 := hf 0 (by omega)
    match ps, hl with
    | [p], _ =>
      simp only [elemPV, cond_false, List.getD_cons_zero] at hf0 ⊢
      generalize ss.getD 0 Shape.bool = s at hf0
      cases hf0 <;> rfl
    | [], hl => simp at hl; omega
    | _ :: _ :: _, hl => simp at hl; omega

theorem opened {t : TypeId} {ss : List Shape} (h : Typed P t ss) : ∀ {fuel : Nat} {cs : List Value} {x : DataW H × List MemPlace}, DataW.trod enc P w 0 (fun _ => true) held fuel t cs = some x → (∀ n ∈ x.1.weights P t, n ≤ reachBytes) →
    ∃ ps : List PV, ps.length = ss.length ∧ cs.length = ss.length ∧ (∀ j, j < ss.length → Fits (ss.getD j .bool) (ps.getD j .undef)) ∧ ∀ j, j < ss.length → (cs.getD j undef).oneCell' = true ∧ RD w (fun _ => False) (ps.getD j .undef) (cs.getD j undef) := by
  have one : ∀ {s : Shape} {p : PV} {v : Value}, Fits s p → v.oneCell' = true → RD w (fun _ => False) p v → ∃ ps : List PV, ps.length = [s].length ∧ [v].length = [s].length ∧ (∀ j, j < [s].length → Fits ([s].getD j .bool) (ps.getD j .undef)) ∧ ∀ j, j < [s].length → (([v] : List Value).getD j undef).oneCell' = true ∧ RD w (fun _ => False) (ps.getD j .undef) (([v] : List Value).getD j undef) := fun {s p v} h1 h2 h3 => ⟨[p], rfl, rfl, fun j hj => by
      have : j = 0 := by simpa using hj
      subst this; exact h1, fun j hj => by
      have : j = 0 := by simpa using hj
      subst this; exact ⟨h2, h3⟩⟩
  induction h with
  | int h =>
    intro fuel cs x hx hn
    obtain ⟨n, rfl, rfl, hw⟩ := DataW.trod_int h hx
    exact one (.int _ _ hw) rfl (.int _ _)
  | bool h =>
    intro fuel cs x hx hn
    obtain ⟨b, rfl, rfl⟩ := DataW.trod_bool h hx
    exact one (.bool _) rfl (.bool _)
  | str h =>
    intro fuel cs x hx hn
    obtain ⟨s, rfl, rfl, _⟩ := DataW.trod_string h hx
    have h1 := hn s.data.toList.length (by simp [DataW.weights])
    refine one (.str (bytesI s) (by rw [bytesI_length]; simpa [reachBytes] using h1) (bytesI_bytes s)) rfl (.str _ _ rfl)
  | @ints t e k B h he hc hB =>
    intro fuel cs x hx hn
    rcases open_ints h he hc hx with ⟨rfl, rfl⟩ | ⟨a, len, cap, zs, rfl, _, hl, hm, hz, rfl, hcell, hw⟩
    · exact one (.ints k B [] (by simp) (by simp)) rfl (.intsNil k)
    · have hz' : zs.length = cap := by simpa using hz
      obtain ⟨hrd, hlen, hw'⟩ := IsRow.rd (.inr ⟨a, rfl, hl, hm, hz', hcell, hw⟩)
      have h1 := hn ((lits (H := H) k (zs.take len)).length * B + (lits (H := H) k (zs.drop len)).length * B) (by simp [DataW.weights, h, hB, Nat.add_mul])
      refine one (.ints k B _ ?_ hw') rfl hrd
      simp only [lits, List.length_map, reachBytes] at h1
      omega
  | @rows t e ss B st h he hc hB h0 hst ih =>
    intro fuel cs x hx hn
    rcases DataW.trod_slice h hx with ⟨rfl, rfl⟩ | ⟨a, len, cap, elems, rest, n, _, rfl, rfl, _, hl, hm, hlen, hel, _, _⟩
    · have := one (s := .rows st B ss) (p := .list ss.length (([] : List (List PV)).map (elemPV st))) (v := .slice none 0 0) (.rows st B ss [] (by simp) (by simp) (by simp)) rfl (.listNil _)
      exact this
    · have hwall : ∀ y ∈ elems, ∀ m ∈ y.1.weights P e, m ≤ reachBytes := fun y hy m hm => hn m (by
        simp only [DataW.weights, h, List.mem_cons, List.mem_append]
        exact .inr (.inl (weights_all (List.mem_map_of_mem hy) m hm)))
      have each : ∀ i, i < len → ∃ pv : List PV × List Value, pv.1.length = ss.length ∧ (∀ j, j < ss.length → Fits (ss.getD j .bool) (pv.1.getD j .undef)) ∧ ∀ j, j < ss.length → w.cell? (a.add (i * ss.length) |>.add j) = some (pv.2.getD j undef) ∧ (pv.2.getD j undef).oneCell' = true ∧ RD w (fun _ => False) (pv.1.getD j .undef) (pv.2.getD j undef) := by
        intro i hi
        have hi' : i < elems.length := by omega
        have h1 := hel i hi
        rw [List.getElem?_eq_getElem hi'] at h1
        obtain ⟨cs, hcs, ht⟩ := Option.bind_eq_some_iff.1 h1
        obtain ⟨ps, hp1, hp2, hp3, hp4⟩ := ih ht (hwall _ (List.getElem_mem hi'))
        obtain ⟨_, _, hc3⟩ := World.cells?_some hcs
        rw [hc] at hc3
        refine ⟨(ps, cs), hp1, hp3, fun j hj => ⟨?_, hp4 j hj⟩⟩
        rw [hc3 j hj, List.getD_eq_getElem?_getD, List.getElem?_eq_getElem (by omega)]
        rfl
      obtain ⟨l, hll, hlq⟩ := choose_list ([], []) len each
      have hsize : len * B ≤ 140737488351232 := by
        have h1 := hn ((elems.length + rest.length) * B) (by simp [DataW.weights, h, hB])
        rw [Nat.add_mul, hlen] at h1
        simp only [reachBytes] at h1
        omega
      have hin : ∀ ps ∈ l.map (·.1), ps.length = ss.length ∧ ∀ j, j < ss.length → Fits (ss.getD j .bool) (ps.getD j .undef) := by
        intro ps hps
        obtain ⟨pv, hpv, rfl⟩ := List.mem_map.1 hps
        obtain ⟨i, hi, rfl⟩ := List.getElem_of_mem hpv
        have := hlq i (by omega)
        rw [List.getD_eq_getElem?_getD, List.getElem?_eq_getElem hi] at this
        exact ⟨this.1, this.2.1⟩
      refine one (.rows st B ss (l.map (·.1)) (by simp only [List.length_map]; rw [hll]; exact hsize) (fun ps h => (hin ps h).1) (fun ps h => (hin ps h).2)) rfl ?_
      cases len with
      | zero =>
        have : l = [] := List.length_eq_zero_iff.1 hll
        subst this
        exact .listE _ a cap
      | succ m =>
        obtain ⟨b, o, spot⟩ := a
        have hs : spot = none := by
          have h1 := ((hlq 0 (by omega)).2.2 0 h0).1
          cases spot with
          | none => rfl
          | some s =>
            simp only [World.cell?, Addr.add] at h1
            split at h1
            · simp at h1
            · cases h1
        subst hs
        have hadd : ∀ i j : Nat, ((⟨b, o, none⟩ : Addr).add i).add j = ⟨b, o + (i + j), none⟩ := by
          intro i j
          unfold Addr.add
          by_cases hi0 : i = 0 <;> by_cases hj0 : j = 0 <;> simp [hi0, hj0, Nat.add_assoc]
        have hgl : ∀ i, i < (l.map (·.1)).length → ((l.map (·.1)).map (elemPV st)).getD i .undef = elemPV st ((l.getD i ([], [])).1) := by
          intro i hi
          have hi' : i < l.length := by simpa using hi
          simp [List.getD_eq_getElem?_getD, hi']
        have hcl : ∀ i, i < m + 1 → cellsOf (((l.map (·.1)).map (elemPV st)).getD i .undef) = (l.getD i ([], [])).1 := by
          intro i hi
          rw [hgl i (by simp; omega)]
          exact fits_cells hst (hlq i hi).1 (hlq i hi).2.1
        refine .list ss.length _ (m + 1) b o cap (fun i j => (l.getD i ([], [])).2.getD j undef) (by simp [hll]) hl (fun h => h) h0 ?_ ?_ ?_ ?_
        · intro i hi
          have hi' : i < m + 1 := by simpa [hll] using hi
          rw [hcl i hi']
          exact (hlq i hi').1
        · intro i j hi hj
          have hi' : i < m + 1 := by simpa [hll] using hi
          have := ((hlq i hi').2.2 j hj).1
          rw [hadd] at this
          exact this
        · intro i j hi hj
          have hi' : i < m + 1 := by simpa [hll] using hi
          exact ((hlq i hi').2.2 j hj).2.1
        · intro i j hi hj
          have hi' : i < m + 1 := by simpa [hll] using hi
          rw [hcl i hi']
          exact ((hlq i hi').2.2 j hj).2.2
  | @struct t fs parts h hl ht hp ho ih =>
    intro fuel cs x hx hn
    obtain ⟨xs, n, _, rfl, hcl, hxl, hxs⟩ := DataW.trod_struct h hx
    rw [ht] at hcl
    have each : ∀ i, i < fs.size → ∃ ps : List PV, ps.length = (parts.getD i []).length ∧ (∀ j, j < (parts.getD i []).length → Fits ((parts.getD i []).getD j .bool) (ps.getD j .undef)) ∧ ∀ j, j < (parts.getD i []).length → (cs.getD ((parts.take i).flatten.length + j) undef).oneCell' = true ∧ RD w (fun _ => False) (ps.getD j .undef) (cs.getD ((parts.take i).flatten.length + j) undef) := by
      intro i hi
      have hfi : fs[i]? = some fs[i] := by simp [hi]
      have hxi : i < xs.length := by omega
      have h1 := hxs i _ hfi
      rw [List.getElem?_eq_getElem hxi] at h1
      obtain ⟨ps, hp1, hp2, hp3, hp4⟩ := ih i _ hfi h1 fun m hm => hn m (by
        simp only [DataW.weights, h]
        refine DataW.weights_mem_each (j := i) (t := fs[i].type) (d := xs[i].1) ?_ ?_ m hm
        · simp [hi]
        · simp [hxi])
      obtain ⟨hof, hce⟩ := ho i _ hfi
      refine ⟨ps, hp1, hp3, fun j hj => ?_⟩
      have e : ((cs.drop fs[i].offset).take (P.cellsOf fs[i].type)).getD j undef = cs.getD ((parts.take i).flatten.length + j) undef := by
        rw [hof, hce]
        generalize (parts.getD i []).length = k at hj
        simp only [List.getD_eq_getElem?_getD]
        rw [List.getElem?_take_of_lt hj, List.getElem?_drop]
      rw [← e]
      exact hp4 j hj
    obtain ⟨pss, hpl, hpq⟩ := choose_list [] fs.size each
    obtain ⟨hfl, hfj⟩ := flat_get Shape.bool PV.undef parts pss (by omega) fun i hi => (hpq i (by omega)).1
    refine ⟨pss.flatten, hfl, hcl, fun j hj => ?_, fun j hj => ?_⟩
    · obtain ⟨i, m, hi, hm, _, e1, e2⟩ := hfj j hj
      rw [e1, e2]
      exact (hpq i (by omega)).2.1 m hm
    · obtain ⟨i, m, hi, hm, e0, e1, e2⟩ := hfj j hj
      rw [e2, e0]
      exact (hpq i (by omega)).2.2 m hm

theorem wf_u8 {n : Int} (h : (Lit.int .u8 n).wf = true) : 0 ≤ n ∧ n < 256 := by
  simp only [Lit.wf, Bool.and_eq_true, decide_eq_true_eq, IntKind.min, IntKind.max, IntKind.signed, IntKind.bits] at h
  simp at h
  omega

theorem weighs {ts : List TypeId} {ds : List (DataW H)} (h : (DataW.weightsEach P ts ds).all (· ≤ reachBytes) = true) {j : Nat} {t : TypeId} {d : DataW H} (ht : ts[j]? = some t) (hd : ds[j]? = some d) : ∀ n ∈ d.weights P t, n ≤ reachBytes := fun n hn => by
  have := List.all_eq_true.1 h n (DataW.weights_mem_each ht hd n hn)
  simpa using this
end
end Go.PV
set_option linter.unusedVariables false
set_option linter.unusedSimpArgs false
namespace Go.PV
open Go Go.RowKit
section
variable {P : Program}

end
end Go.PV
set_option linter.unusedVariables false
set_option linter.unusedSimpArgs false
namespace Go.PV
open Go Go.RowKit

section
variable {P : Program} {w w' : World} {ow ow' : Nat → Prop} {loc loc' : Locs} {n nt : Nat} {E : Entry P} {H : Heap} {F : Frame} {a : Act} {tt : Tab} {rows : Nat → Option Row}

end
end Go.PV
set_option maxHeartbeats 4000000
set_option maxRecDepth 4000
set_option exponentiation.threshold 300000
set_option linter.unusedVariables false
set_option linter.unusedSimpArgs false
namespace Go.Proofs.YtbmhnjghpjkjpaaGreatDoor
open Go Go.PV

def lower (c : Int) : Int := if 65 ≤ c ∧ c ≤ 90 then c - 65 + 97 else c

def pl (s : List Int) : Nat → List Int
  | 0 => []
  | i + 1 => if lower (s.getD i 0) ≠ 48 ∨ pl s i ≠ [] ∨ i + 1 = s.length then pl s i ++ [lower (s.getD i 0)] else pl s i

end Go.Proofs.YtbmhnjghpjkjpaaGreatDoor
set_option maxHeartbeats 4000000
set_option maxRecDepth 4000
set_option exponentiation.threshold 300000
set_option linter.unusedVariables false
set_option linter.unusedSimpArgs false
namespace Go.Proofs.YtbmhnjghpjkjpaaGreatDoor
open Go Go.PV

theorem scan_norm_none (neg : Bool) (s : List Int) (x : Int) (h : s = [] ∨ x < -1152921504606846976 ∨ 1152921504606846976 < x) (hsl : s.length ≤ 281474976710656) : Meets Tryz.prog 25 [.agg [.bool neg, .str s, .int .i64 x]] (.tup [.agg [.bool false, .str [], .int .i64 0], .int .i64 80]) := by
  have hh : (decide (s = []) = true ∧ decide (s = []) = true ∧ decide (s = []) = true) ∨ (decide (s = []) = false ∧ decide (x < -1152921504606846976) = true ∧ decide (x < -1152921504606846976) = true) ∨ (decide (s = []) = false ∧ decide (x < -1152921504606846976) = false ∧ decide (1152921504606846976 < x) = true) := by
    by_cases h1 : s = []
    · have := decide_eq_true h1; exact .inl ⟨this, this, this⟩
    · by_cases h2 : x < -1152921504606846976
      · have := decide_eq_true h2; exact .inr (.inl ⟨decide_eq_false h1, this, this⟩)
      · refine .inr (.inr ⟨decide_eq_false h1, decide_eq_false h2, decide_eq_true ?_⟩)
        rcases h with h | h | h
        · exact absurd h h1
        · exact absurd h h2
        · exact h
  clear h
  rcases hh with ⟨d1, d2, d3⟩ | ⟨d1, d2, d3⟩ | ⟨d1, d2, d3⟩
  all_goals (refine meets_by ttOk Tryz.func25 Tryz.ntmps25 Tryz.results25 (by kernel_rfl) (c := _) rfl rfl rfl fun E => ?_; simp only [argsFrame])
  all_goals
    repeat' first
      | (with_reducible first | refine PW.seq ?_ | refine PW.block ?_ | refine PW.fork ?_ | refine PW.skip ?_ | refine PW.exit ?_ | refine PW.ret ?_ | refine PW.scope ?_ | refine PW.label ?_ | refine PW.goto ?_)
      | (simp only [d1, d2, d3, Bool.or_false, Bool.or_self, Bool.true_or, Bool.or_true])
      | (with_reducible refine PW.region ttOk ?_ ?_
         · rfl)
      | (with_reducible refine PW.regionD ttOk mixed ?_ ?_ ?_
         · rfl
         · rfl)
      | (with_reducible refine ifW_dec (fun g => ?_) (fun g => ?_) <;> first | (exfalso; omega) | (simp -dsimp only [g, wkI]))
      | (with_reducible refine condE_dec (fun g => ?_) (fun g => ?_) <;> try (exfalso; omega))
      | (with_reducible refine condE_not (fun g => ?_) (fun g => ?_) <;> try (exfalso; omega))
      | (simp -dsimp only [↓wkA, ↓wkE, ↓wkJ, wkB, ↓tt, Nat.reduceBEq, Nat.reduceEqDiff, ↓reduceIte, Nat.reduceLT, Array.toList, Nat.reduceAdd, Nat.reduceMul, Int.reduceToNat, Int.reducePow, UInt8.reduceToNat])
      | (simp -dsimp (disch := first | assumption | omega) only [dec_t, dec_f])
      | (refine And.intro ?_ ?_
         · first | omega | decide | (simp (disch := omega) only [wkW, Int.reduceToNat, Int.reducePow] <;> omega) | (simp <;> omega))
      | (simp (disch := omega) only [wkW, Int.reduceToNat, Int.reducePow])
      | fail

theorem scan_norm_bad (neg : Bool) {s : List Int} {x : Int} (h : ¬ NormOk s x) (hsl : s.length ≤ 281474976710656) : Meets Tryz.prog 25 [.agg [.bool neg, .str s, .int .i64 x]] (.tup [.agg [.bool false, .str [], .int .i64 0], .int .i64 80]) := by
  by_cases h1 : s ≠ [] ∧ InR x
  · exact scan_norm_loop neg s x h1.1 h1.2 hsl (normS s) (normX s x) (fun _ => scan_normal neg s x h1.2 hsl) _ (fun _ => rfl) (fun _ _ => rfl) (fun hA hn => absurd ⟨h1.1, h1.2, hA, by omega⟩ h)
  · refine scan_norm_none neg s x ?_ hsl
    by_cases h2 : s = []
    · exact .inl h2
    · refine .inr ?_
      by_cases h3 : x < -1152921504606846976
      · exact .inl h3
      · refine .inr ?_
        by_cases h4 : 1152921504606846976 < x
        · exact h4
        · exact absurd ⟨h2, by omega, by omega⟩ h1
end Go.Proofs.YtbmhnjghpjkjpaaGreatDoor
set_option maxHeartbeats 4000000
set_option maxRecDepth 4000
set_option exponentiation.threshold 300000
set_option linter.unusedVariables false
set_option linter.unusedSimpArgs false
namespace Go.Proofs.YtbmhnjghpjkjpaaGreatDoor
open Go Go.PV

theorem along_bad (neg : Bool) (s : List Int) (x : Int) (L : List PV) (h : Meets Tryz.prog 25 [.agg [.bool neg, .str s, .int .i64 x]] (.tup [.agg [.bool false, .str [], .int .i64 0], .int .i64 80])) : Meets Tryz.prog 51 [.agg [.bool neg, .str s, .int .i64 x], .list 1 L] (.tup [.int .u64 0, .int .i64 80]) := by
  refine meets_by ttOk Tryz.func51 Tryz.ntmps51 Tryz.results51 (by kernel_rfl) (c := _) rfl rfl rfl fun E => ?_
  simp only [argsFrame]
  repeat' first
    | (with_reducible first | refine PW.seq ?_ | refine PW.block ?_ | refine PW.fork ?_ | refine PW.skip ?_ | refine PW.exit ?_ | refine PW.ret ?_ | refine PW.scope ?_ | refine PW.label ?_ | refine PW.goto ?_)
    | (with_reducible refine PW.region ttOk ?_ ?_
       · rfl)
    | (with_reducible refine PW.regionD ttOk mixed ?_ ?_ ?_
       · rfl
       · rfl)
    | (with_reducible refine ifW_dec (fun g => ?_) (fun g => ?_) <;> first | (exfalso; omega) | (simp -dsimp only [g, wkI]))
    | (with_reducible refine condE_dec (fun g => ?_) (fun g => ?_) <;> try (exfalso; omega))
    | (with_reducible refine condE_not (fun g => ?_) (fun g => ?_) <;> try (exfalso; omega))
    | (simp -dsimp only [↓wkA, ↓wkE, ↓wkJ, wkB, ↓tt, Nat.reduceBEq, Nat.reduceEqDiff, ↓reduceIte, Nat.reduceLT, Array.toList, Nat.reduceAdd, Nat.reduceMul, Int.reduceToNat, Int.reducePow, UInt8.reduceToNat])
    | (refine call_by (h) (views_data rfl) (by simp only [okViews, okView, okViews0, okView0, and_self]) rfl ?_)
    | (simp -dsimp (disch := first | assumption | omega) only [dec_t, dec_f])
    | (refine And.intro ?_ ?_
       · first | omega | decide | (simp (disch := omega) only [wkW, Int.reduceToNat, Int.reducePow] <;> omega) | (simp <;> omega))
    | (simp (disch := omega) only [wkW, Int.reduceToNat, Int.reducePow])
    | fail

end Go.Proofs.YtbmhnjghpjkjpaaGreatDoor
set_option maxHeartbeats 4000000
set_option maxRecDepth 4000
set_option exponentiation.threshold 300000
set_option linter.unusedVariables false
set_option linter.unusedSimpArgs false
namespace Go.Proofs.YtbmhnjghpjkjpaaGreatDoor
open Go Go.PV

theorem strtod_exact_bad (neg : Bool) {s : List Int} {x : Int} (h : ¬ NormOk s x) (hsl : s.length ≤ 281474976710656) : Meets Tryz.prog 20 [.agg [.bool neg, .str s, .int .i64 x]] (.tup [.int .u64 0, .int .i64 80]) :=
  exact_walk neg s x _ _ (along_bad neg s x _ (scan_norm_bad neg h hsl))
theorem strtod_double_bad (neg : Bool) {s : List Int} {x : Int} (h : ¬ NormOk s x) (hsl : s.length ≤ 281474976710656) : Meets Tryz.prog 21 [.agg [.bool neg, .str s, .int .i64 x]] (.tup [.int .u64 0, .int .i64 80]) :=
  double_walk neg s x _ _ (along_bad neg s x _ (scan_norm_bad neg h hsl))
end Go.Proofs.YtbmhnjghpjkjpaaGreatDoor
set_option maxHeartbeats 4000000
set_option maxRecDepth 4000
set_option exponentiation.threshold 300000
set_option linter.unusedVariables false
set_option linter.unusedSimpArgs false
namespace Go.Proofs.YtbmhnjghpjkjpaaGreatDoor
open Go Go.PV

theorem law10_awake (res : PV) (hres : res = .bool true) : Meets Tryz.prog 24 [] res := by
  subst hres
  have h1 : Meets Tryz.prog 16 [.str [32, 48, 46, 49, 120]] (.tup [.int .u64 4591870180066957722, .int .i64 4]) := parse_at _ 4591870180066957722 4 (by decide) (by decide +kernel) (by decide +kernel) (by decide +kernel)
  have hn : NormOk [49, 50] (-1) := ⟨by decide, ⟨by decide, by decide⟩, fun j hj => by
    match j, hj with
    | 0, _ => decide
    | 1, _ => decide
    | j + 2, h => simp at h; omega, by decide +kernel⟩
  have e1 : rdec (num 10 [49, 50]) (-1) = 4608083138725491507 := by decide +kernel
  have h2 : Meets Tryz.prog 20 [.agg [.bool true, .str [49, 50], .int .i64 (-1)]] (.tup [.int .u64 13831455175580267315, .int .i64 0]) := by
    have := strtod_exact true hn (by decide)
    unfold dblV at this
    rw [e1] at this
    exact this
  have h3 : Meets Tryz.prog 21 [.agg [.bool false, .str [49, 50], .int .i64 (-1)]] (.tup [.int .u64 4608083138725491507, .int .i64 0]) := by
    have := strtod_double false hn (by decide)
    unfold dblV at this
    rw [e1] at this
    exact this
  have h4 := road_x
  have h5 := road_12
  refine meets_by ttOk Tryz.func24 Tryz.ntmps24 Tryz.results24 (by kernel_rfl) (c := _) rfl rfl rfl fun E => ?_
  simp only [argsFrame]
  repeat' first
    | (with_reducible first | refine PW.seq ?_ | refine PW.block ?_ | refine PW.fork ?_ | refine PW.skip ?_ | refine PW.exit ?_ | refine PW.ret ?_ | refine PW.scope ?_ | refine PW.label ?_ | refine PW.goto ?_)
    | (with_reducible refine PW.region ttOk ?_ ?_
       · rfl)
    | (with_reducible refine PW.regionD ttOk mixed ?_ ?_ ?_
       · rfl
       · rfl)
    | (with_reducible refine ifW_dec (fun g => ?_) (fun g => ?_) <;> first | (exfalso; omega) | (simp -dsimp only [g, wkI]))
    | (with_reducible refine condE_dec (fun g => ?_) (fun g => ?_) <;> try (exfalso; omega))
    | (with_reducible refine condE_not (fun g => ?_) (fun g => ?_) <;> try (exfalso; omega))
    | (simp -dsimp only [↓wkA, ↓wkE, ↓wkJ, wkB, ↓tt, Nat.reduceBEq, Nat.reduceEqDiff, ↓reduceIte, Nat.reduceLT, Array.toList, Nat.reduceAdd, Nat.reduceMul, Int.reduceToNat, Int.reducePow, UInt8.reduceToNat])
    | (refine call_by (h1) (views_data rfl) ⟨trivial, trivial⟩ rfl ?_)
    | (refine call_by (h2) (views_data rfl) (by simp only [okViews, okView, okViews0, okView0, and_self]) rfl ?_)
    | (refine call_by (h3) (views_data rfl) (by simp only [okViews, okView, okViews0, okView0, and_self]) rfl ?_)
    | (refine call_by (h4) (views_data rfl) ⟨trivial, trivial⟩ rfl ?_)
    | (refine call_by (h5) (views_data rfl) ⟨trivial, trivial⟩ rfl ?_)
    | (simp -dsimp (disch := first | assumption | omega) only [dec_t, dec_f])
    | (refine And.intro ?_ ?_
       · first | omega | decide | (simp (disch := omega) only [wkW, Int.reduceToNat, Int.reducePow] <;> omega) | (simp <;> omega))
    | (simp (disch := omega) only [wkW, Int.reduceToNat, Int.reducePow])
    | fail

end Go.Proofs.YtbmhnjghpjkjpaaGreatDoor
set_option maxHeartbeats 4000000
set_option maxRecDepth 4000
set_option exponentiation.threshold 300000
set_option linter.unusedVariables false
set_option linter.unusedSimpArgs false
namespace Go.Proofs.YtbmhnjghpjkjpaaGreatDoor
open Go Go.PV

theorem lits : decide ((-1 : Int) = 0) = false ∧ decide ((0 : Int) = 0) = true ∧ decide ((1 : Int) = 0) = false ∧ decide ((0 : Int) ≤ -1) = false ∧ decide ((0 : Int) ≤ 0) = true ∧ decide ((0 : Int) ≤ 1) = true ∧ decide ((-1 : Int) ≤ 0) = true ∧ decide ((1 : Int) ≤ 0) = false := by decide
end Go.Proofs.YtbmhnjghpjkjpaaGreatDoor
set_option maxHeartbeats 4000000
set_option maxRecDepth 4000
set_option exponentiation.threshold 300000
set_option linter.unusedVariables false
set_option linter.unusedSimpArgs false
namespace Go.PV
end Go.PV
namespace Go.Proofs.YtbmhnjghpjkjpaaGreatDoor
open Go Go.PV

def wd (s : List Int) : Nat → List Int
  | 0 => s
  | n + 1 => wd s n ++ [48]
def fr (s : List Int) : Nat → List Int
  | 0 => s
  | n + 1 => 48 :: fr s n
theorem wd_len (s : List Int) : ∀ n, (wd s n).length = s.length + n
  | 0 => rfl
  | n + 1 => by rw [wd, List.length_append, wd_len s n]; rfl
theorem fr_len (s : List Int) : ∀ n, (fr s n).length = s.length + n
  | 0 => rfl
  | n + 1 => by rw [fr, List.length_cons, fr_len s n]; rfl
theorem wd_all {s : List Int} (h : AllD s) : ∀ n, AllD (wd s n)
  | 0 => h
  | n + 1 => all_digs (digs_append (digs_all (wd_all h n)) (fun x hx => by rw [List.mem_singleton] at hx; subst hx; decide))
theorem fr_all {s : List Int} (h : AllD s) : ∀ n, AllD (fr s n)
  | 0 => h
  | n + 1 => all_digs (fun x hx => by
    rcases List.mem_cons.1 hx with rfl | hx
    · decide
    · exact digs_all (fr_all h n) x hx)
theorem wd_num {s : List Int} : ∀ n, num 10 (wd s n) = num 10 s * 10 ^ n
  | 0 => by rw [Nat.pow_zero, Nat.mul_one]; rfl
  | n + 1 => by
    rw [wd, num_append, wd_num n, show (worth 48).toNat = 0 by decide, Nat.pow_succ, Nat.mul_assoc]
    rfl
theorem fr_headL {s : List Int} : ∀ n, headL 48 (fr s n) = headL 48 s
  | 0 => rfl
  | n + 1 => by rw [fr, headL, if_pos rfl, fr_headL n]
theorem fr_norm (s : List Int) (n : Nat) (x : Int) : normS (fr s n) = normS s ∧ normX (fr s n) x = normX s x := by
  unfold normS normX
  rw [fr_headL]
  exact ⟨rfl, rfl⟩
theorem fr_num {s : List Int} (hd : AllD s) (n : Nat) : num 10 (fr s n) = num 10 s := by
  rw [← headL_num _ (digs_all (fr_all hd n)), fr_headL, headL_num _ (digs_all hd)]
theorem endN_congr {s t : List Int} {c : Int} : ∀ n, (∀ j, j < n → s.getD j 0 = t.getD j 0) → endN s c n = endN t c n
  | 0, _ => rfl
  | n + 1, h => by
    rw [endN, endN, h n (by omega), endN_congr n fun j hj => h j (by omega)]
theorem headL_zero : ∀ l : List Int, headL 48 (l ++ [48]) = if headL 48 l = [] then [] else headL 48 l ++ [48]
  | [] => rfl
  | a :: l => by
    rw [List.cons_append, headL, headL]
    by_cases h : a = 48
    · rw [if_pos h, if_pos h, headL_zero l]
    · rw [if_neg h, if_neg h, if_neg (by simp)]
      rfl
theorem normX_zero (l : List Int) (x : Int) : normX (l ++ [48]) (x - 1) = normX l x := by
  unfold normX
  rw [headL_zero]
  generalize headL 48 l = t
  by_cases h : t = []
  · rw [if_pos h, if_pos rfl, if_pos h]
  · rw [if_neg h, if_neg (by simp), if_neg h, List.length_append]
    have e : endN (t ++ [48]) 48 (t.length + 1) = endN t 48 t.length := by
      rw [endN, if_pos (by rw [List.getD_eq_getElem?_getD, List.getElem?_append_right (Nat.le_refl _), Nat.sub_self]; rfl)]
      exact endN_congr _ fun j hj => by rw [List.getD_eq_getElem?_getD, List.getD_eq_getElem?_getD, List.getElem?_append_left hj]
    show x - 1 + ((t.length + 1 : Nat) : Int) - (endN (t ++ [48]) 48 (t.length + 1) : Nat) = _
    rw [e]
    omega
theorem wd_normX (s : List Int) (x : Int) : ∀ n : Nat, normX (wd s n) (x - n) = normX s x
  | 0 => by rw [wd]; congr 1; omega
  | n + 1 => by
    rw [wd, show x - ((n + 1 : Nat) : Int) = x - n - 1 by omega, normX_zero, wd_normX s x n]

theorem xor_signed {n : Bool} {A : Nat} (hA : A ≤ 9218868437227405312) : ibits .xor .u64 (signed n A : Int) 9223372036854775808 = (signed (!n) A : Int) := by
  have h := xor_sign (b := A) (by omega)
  cases n
  · rw [signed_f]
    show _ = ((signed true A : Nat) : Int)
    rw [signed_t]
    exact h
  · rw [signed_t]
    show _ = ((signed false A : Nat) : Int)
    rw [signed_f]
    change IntKind.wrap .u64 (((BitVec.ofInt 64 (A : Int) ^^^ BitVec.ofInt 64 9223372036854775808).toNat : Nat) : Int) = _ at h
    have hlt := (BitVec.ofInt 64 (A : Int) ^^^ BitVec.ofInt 64 9223372036854775808).isLt
    rw [wrap_u64 (by omega)] at h
    have e : BitVec.ofInt 64 ((A + 9223372036854775808 : Nat) : Int) = BitVec.ofInt 64 (A : Int) ^^^ BitVec.ofInt 64 9223372036854775808 := by
      apply BitVec.eq_of_toNat_eq
      rw [BitVec.toNat_ofInt, Int.emod_eq_of_lt (by omega) (by simp; omega), ← h]
      rfl
    change IntKind.wrap .u64 (((BitVec.ofInt 64 ((A + 9223372036854775808 : Nat) : Int) ^^^ BitVec.ofInt 64 9223372036854775808).toNat : Nat) : Int) = _
    rw [e, BitVec.xor_assoc, BitVec.xor_self, BitVec.xor_zero, BitVec.toNat_ofInt, Int.emod_eq_of_lt (by omega) (by simp; omega), Int.toNat_natCast, wrap_u64 (by omega)]

abbrev foF (V : Int) (k i : Nat) : PV.Frame := [(10, .int .i64 (i : Int)), (9, .ptr 3 0 0), (8, .ptr 2 0 0), (7, .ptr 1 0 0), (6, .int .i64 0), (5, .int .u64 V), (4, .bool false), (2, .ptr 0 0 0), (1, .int .u8 (k : Int))]
abbrev foH (neg : Bool) (s : List Int) (x : Int) (i : Nat) : Heap := ⟨4, [(3, .var [.bool neg, .str (fr s i), .int .i64 x]), (2, .var [.bool neg, .str (wd s i), .int .i64 x]), (1, .var [.bool (!neg), .str s, .int .i64 x]), (0, .var [.bool neg, .str s, .int .i64 x])], [], [(3, 35), (2, 35), (1, 35), (0, 35)]⟩

theorem forms_bad (neg : Bool) (s : List Int) (x k : Int) (h1 : Meets Tryz.prog 20 [.agg [.bool neg, .str s, .int .i64 x]] (.tup [.int .u64 0, .int .i64 80])) : Meets Tryz.prog 9 [.agg [.bool neg, .str s, .int .i64 x], .int .u8 k] (.bool true) := by
  have r0 := law10_awake _ rfl
  refine meets_by ttOk Tryz.func9 Tryz.ntmps9 Tryz.results9 (by kernel_rfl) (c := _) rfl rfl rfl fun E => ?_
  simp only [argsFrame]
  repeat' first
    | (with_reducible first | refine PW.seq ?_ | refine PW.block ?_ | refine PW.fork ?_ | refine PW.skip ?_ | refine PW.exit ?_ | refine PW.ret ?_ | refine PW.scope ?_ | refine PW.label ?_ | refine PW.goto ?_)
    | (with_reducible refine PW.region ttOk ?_ ?_
       · rfl)
    | (with_reducible refine PW.regionD ttOk mixed ?_ ?_ ?_
       · rfl
       · rfl)
    | (with_reducible refine ifW_dec (fun g => ?_) (fun g => ?_) <;> first | (exfalso; omega) | (simp -dsimp only [g, wkI]))
    | (with_reducible refine condE_dec (fun g => ?_) (fun g => ?_) <;> try (exfalso; omega))
    | (with_reducible refine condE_not (fun g => ?_) (fun g => ?_) <;> try (exfalso; omega))
    | (simp -dsimp only [↓wkA, ↓wkE, ↓wkJ, wkB, ↓tt, Nat.reduceBEq, Nat.reduceEqDiff, ↓reduceIte, Nat.reduceLT, Array.toList, Nat.reduceAdd, Nat.reduceMul, Int.reduceToNat, Int.reducePow, UInt8.reduceToNat])
    | (refine call_by (r0) (views_data rfl) trivial rfl ?_)
    | (refine call_by (h1) (views_data rfl) (by simp only [okViews, okView, okViews0, okView0, and_self]) rfl ?_)
    | (simp -dsimp (disch := first | assumption | omega) only [dec_t, dec_f])
    | (refine And.intro ?_ ?_
       · first | omega | decide | (simp (disch := omega) only [wkW, Int.reduceToNat, Int.reducePow] <;> omega) | (simp <;> omega))
    | (simp (disch := omega) only [wkW, Int.reduceToNat, Int.reducePow])
    | fail

set_option maxRecDepth 20000 in
theorem forms_walk (neg : Bool) (s : List Int) (x : Int) (k : Nat) (hk : k < 256) (hsl : s.length ≤ 281474976000000) (hx : InR x) (V W : Int) (t : List Int) (y : Int) (b : Bool) (hw : ibits .xor .u64 V 9223372036854775808 = W) (hs : decide (9223372036854775808 ≤ V) = neg)
    (h1 : Meets Tryz.prog 20 [.agg [.bool neg, .str s, .int .i64 x]] (.tup [.int .u64 V, .int .i64 0])) (h2 : Meets Tryz.prog 20 [.agg [.bool (!neg), .str s, .int .i64 x]] (.tup [.int .u64 W, .int .i64 0]))
    (h3 : Meets Tryz.prog 20 [.agg [.bool neg, .str (fr s k), .int .i64 x]] (.tup [.int .u64 V, .int .i64 0])) (h4 : Meets Tryz.prog 25 [.agg [.bool neg, .str s, .int .i64 x]] (.tup [.agg [.bool neg, .str t, .int .i64 y], .int .i64 0]))
    (h5 : Meets Tryz.prog 21 [.agg [.bool neg, .str t, .int .i64 y]] (.tup [.int .u64 V, .int .i64 0])) (hb : decide (x - (k : Int) < -1152921504606846976) = b)
    (h6 : Meets Tryz.prog 21 [.agg [.bool neg, .str (wd s k), .int .i64 (x - (k : Int))]] (if b = true then .tup [.int .u64 0, .int .i64 80] else .tup [.int .u64 V, .int .i64 0])) :
    Meets Tryz.prog 9 [.agg [.bool neg, .str s, .int .i64 x], .int .u8 (k : Int)] (.bool true) := by
  have r0 := law10_awake _ rfl
  have hx := hx
  unfold InR at hx
  have w1 : IntKind.wrap .i64 (k : Int) = k := wrap_i64 (by omega)
  have w2 : IntKind.wrap .i64 (x - (k : Int)) = x - k := wrap_i64 (by omega)
  refine meets_by ttOk Tryz.func9 Tryz.ntmps9 Tryz.results9 (by kernel_rfl) (c := _) rfl rfl rfl fun E => ?_
  simp only [argsFrame]
  repeat' first
    | (with_reducible first | refine PW.seq ?_ | refine PW.block ?_ | refine PW.fork ?_ | refine PW.skip ?_ | refine PW.exit ?_ | refine PW.ret ?_ | refine PW.scope ?_ | refine PW.label ?_ | refine PW.goto ?_)
    | (with_reducible refine PW.region ttOk ?_ ?_
       · rfl)
    | (with_reducible refine PW.regionD ttOk mixed ?_ ?_ ?_
       · rfl
       · rfl)
    | (with_reducible refine ifW_dec (fun g => ?_) (fun g => ?_) <;> first | (exfalso; omega) | (simp -dsimp only [g, wkI]))
    | (with_reducible refine condE_dec (fun g => ?_) (fun g => ?_) <;> try (exfalso; omega))
    | (with_reducible refine condE_not (fun g => ?_) (fun g => ?_) <;> try (exfalso; omega))
    | (simp -dsimp only [↓wkA, ↓wkE, ↓wkJ, wkB, ↓tt, Nat.reduceBEq, Nat.reduceEqDiff, ↓reduceIte, Nat.reduceLT, Array.toList, Nat.reduceAdd, Nat.reduceMul, Int.reduceToNat, Int.reducePow, UInt8.reduceToNat])
    | (refine call_by (r0) (views_data rfl) trivial rfl ?_)
    | (refine call_by (h1) (views_data rfl) (by simp only [okViews, okView, okViews0, okView0, and_self]) rfl ?_)
    | (simp -dsimp (disch := first | assumption | omega) only [dec_t, dec_f])
    | (refine And.intro ?_ ?_
       · first | omega | decide | (simp (disch := omega) only [wkW, Int.reduceToNat, Int.reducePow] <;> omega) | (simp <;> omega))
    | (simp (disch := omega) only [wkW, Int.reduceToNat, Int.reducePow])
    | fail
  refine PW.loopA (fun m F H => ∃ i : Nat, i + m = k ∧ F = foF V k i ∧ H = foH neg s x i) k (foF V k 0) (foH neg s x 0) (Sub.norm ⟨rfl, rfl, rfl, rfl, rfl, rfl, rfl, rfl, rfl, trivial⟩ ⟨rfl, rfl, rfl, rfl, trivial⟩ (Nat.le_refl _) rfl rfl rfl rfl (tyOk_spec rfl)) ⟨0, by omega, rfl, rfl⟩ ?_
  rintro m F H ⟨i, hi, rfl, rfl⟩
  have hl1 := wd_len s i
  have hl2 := fr_len s i
  cases m with
  | zero =>
    have e0 : i = k := by omega
    subst e0
    have d1 : decide ((i : Int) < (i : Int)) = false := decide_eq_false (by omega)
    have d2 : decide (V = V) = true := decide_eq_true rfl
    have d3 : decide (W = W) = true := decide_eq_true rfl
    cases b
    case' true => rw [if_pos rfl] at h6
    case' false => rw [if_neg (by decide)] at h6
    all_goals cases neg
    all_goals
      repeat' first
        | (with_reducible first | refine PW.seq ?_ | refine PW.block ?_ | refine PW.fork ?_ | refine PW.skip ?_ | refine PW.exit ?_ | refine PW.ret ?_ | refine PW.scope ?_ | refine PW.label ?_ | refine PW.goto ?_)
        | (simp only [w1, w2, d1, d2, d3, hw, hs, hb, Bool.not_true, Bool.not_false, beq_self_eq_true])
        | (simp -dsimp (maxSteps := 1000000) only [↓wkA, ↓wkE, ↓wkJ, wkB, ↓tt, Nat.reduceBEq, Nat.reduceEqDiff, ↓reduceIte, Nat.reduceLT, Array.toList, Nat.reduceAdd, Nat.reduceMul, Int.reduceToNat, Int.reducePow, UInt8.reduceToNat])
        | (with_reducible refine PW.region ttOk ?_ ?_
           · rfl)
        | (with_reducible refine PW.regionD ttOk mixed ?_ ?_ ?_
           · rfl
           · rfl)
        | (with_reducible refine ifW_dec (fun g => ?_) (fun g => ?_) <;> first | (exfalso; omega) | (simp -dsimp only [g, wkI]))
        | (with_reducible refine condE_dec (fun g => ?_) (fun g => ?_) <;> try (exfalso; omega))
        | (with_reducible refine condE_not (fun g => ?_) (fun g => ?_) <;> try (exfalso; omega))
        | (simp -dsimp only [↓wkA, ↓wkE, ↓wkJ, wkB, ↓tt, Nat.reduceBEq, Nat.reduceEqDiff, ↓reduceIte, Nat.reduceLT, Array.toList, Nat.reduceAdd, Nat.reduceMul, Int.reduceToNat, Int.reducePow, UInt8.reduceToNat])
        | (refine call_by (h2) (views_data rfl) (by simp only [okViews, okView, okViews0, okView0, and_self]) rfl ?_)
        | (refine call_by (h3) (views_data rfl) (by simp only [okViews, okView, okViews0, okView0, and_self]) rfl ?_)
        | (refine call_by (h4) (views_data rfl) (by simp only [okViews, okView, okViews0, okView0, and_self]) rfl ?_)
        | (refine call_by (h5) (views_data rfl) (by simp only [okViews, okView, okViews0, okView0, and_self]) rfl ?_)
        | (refine call_by (h6) (views_data rfl) (by simp only [okViews, okView, okViews0, okView0, and_self]) rfl ?_)
        | (simp -dsimp (disch := first | assumption | omega) only [dec_t, dec_f])
        | (refine And.intro ?_ ?_
           · first | omega | decide | (simp (disch := omega) only [wkW, Int.reduceToNat, Int.reducePow] <;> omega) | (simp <;> omega))
        | (simp (disch := omega) only [wkW, Int.reduceToNat, Int.reducePow])
        | fail
  | succ m =>
    have d1 : decide ((i : Int) < (k : Int)) = true := decide_eq_true (by omega)
    have w3 : IntKind.wrap .i64 ((i : Int) + 1) = ((i + 1 : Nat) : Int) := wrap_i64 (by omega)
    repeat' first
      | (with_reducible first | refine PW.seq ?_ | refine PW.block ?_ | refine PW.fork ?_ | refine PW.skip ?_ | refine PW.exit ?_ | refine PW.ret ?_ | refine PW.scope ?_ | refine PW.label ?_ | refine PW.goto ?_)
      | (simp only [w1, w3, d1])
      | (with_reducible refine PW.region ttOk ?_ ?_
         · rfl)
      | (with_reducible refine PW.regionD ttOk mixed ?_ ?_ ?_
         · rfl
         · rfl)
      | (with_reducible refine ifW_dec (fun g => ?_) (fun g => ?_) <;> first | (exfalso; omega) | (simp -dsimp only [g, wkI]))
      | (with_reducible refine condE_dec (fun g => ?_) (fun g => ?_) <;> try (exfalso; omega))
      | (with_reducible refine condE_not (fun g => ?_) (fun g => ?_) <;> try (exfalso; omega))
      | (simp -dsimp only [↓wkA, ↓wkE, ↓wkJ, wkB, ↓tt, Nat.reduceBEq, Nat.reduceEqDiff, ↓reduceIte, Nat.reduceLT, Array.toList, Nat.reduceAdd, Nat.reduceMul, Int.reduceToNat, Int.reducePow, UInt8.reduceToNat])
      | (simp -dsimp (disch := first | assumption | omega) only [dec_t, dec_f])
      | (refine And.intro ?_ ?_
         · first | omega | decide | (simp (disch := omega) only [wkW, Int.reduceToNat, Int.reducePow] <;> omega) | (simp <;> omega))
      | (simp (disch := omega) only [wkW, Int.reduceToNat, Int.reducePow])
      | fail
    exact Again.mk m (foF V k (i + 1)) (foH neg s x (i + 1)) (by omega) (Sub.norm ⟨rfl, rfl, rfl, rfl, rfl, rfl, rfl, rfl, rfl, trivial⟩ ⟨rfl, rfl, rfl, rfl, trivial⟩ (Nat.le_refl _) rfl rfl rfl rfl (tyOk_spec rfl)) ⟨i + 1, by omega, rfl, rfl⟩

theorem ge_signed {n : Bool} {A : Nat} (hA : A ≤ 9218868437227405312) : decide ((9223372036854775808 : Int) ≤ (signed n A : Int)) = n := by
  cases n
  · rw [signed_f]
    exact decide_eq_false (by omega)
  · rw [signed_t]
    exact decide_eq_true (by omega)
theorem strtod_forms (neg : Bool) (s : List Int) (x : Int) (k : Nat) (hk : k < 256) (hsl : s.length ≤ 281474976000000) : Meets Tryz.prog 9 [.agg [.bool neg, .str s, .int .i64 x], .int .u8 (k : Int)] (.bool true) := by
  by_cases h : NormOk s x
  · have hA : rdec (num 10 s) x ≤ 9218868437227405312 := rdec_le (num 10 s) x
    have hf : NormOk (fr s k) x := ⟨fun e => by have h7 := fr_len s k; rw [e, List.length_nil] at h7; have h8 := List.length_pos_iff.2 h.1; omega, h.2.1, fr_all h.2.2.1 k, by rw [(fr_norm s k x).2]; exact h.2.2.2⟩
    have hN := norm_normal h.2.2.1 h.2.1.1 h.2.2.2
    have hnl := norm_len h.1
    have h3 := strtod_exact neg hf (by rw [fr_len]; omega)
    unfold dblV at h3
    rw [fr_num h.2.2.1] at h3
    have h5 := strtod_double neg hN.1 (by omega)
    unfold dblV at h5
    rw [norm_rdec h.2.2.1] at h5
    refine forms_walk neg s x k hk hsl h.2.1 _ _ _ _ _ (xor_signed hA) (ge_signed hA) (strtod_exact neg h (by omega)) (strtod_exact (!neg) h (by omega)) h3 (scan_norm_ok neg h (by omega)) h5 rfl ?_
    by_cases hb : x - (k : Int) < -1152921504606846976
    · rw [if_pos (decide_eq_true hb)]
      exact strtod_double_bad neg (fun hn => by have := hn.2.1.1; omega) (by rw [wd_len]; omega)
    · rw [if_neg (by rw [decide_eq_false hb]; decide)]
      have hw : NormOk (wd s k) (x - k) := ⟨fun e => by have h7 := wd_len s k; rw [e, List.length_nil] at h7; have h8 := List.length_pos_iff.2 h.1; omega, ⟨by omega, by have := h.2.1.2; omega⟩, wd_all h.2.2.1 k, by rw [wd_normX]; exact h.2.2.2⟩
      have h6 := strtod_double neg hw (by rw [wd_len]; omega)
      unfold dblV at h6
      rw [wd_num, rdec_scale, show x - (k : Int) + k = x by omega] at h6
      exact h6
  · exact forms_bad neg s x k (strtod_exact_bad neg h (by omega))
end Go.Proofs.YtbmhnjghpjkjpaaGreatDoor
set_option maxHeartbeats 4000000
set_option maxRecDepth 4000
set_option exponentiation.threshold 300000
set_option linter.unusedVariables false
set_option linter.unusedSimpArgs false
namespace Go.PV
open Go Go.RowKit

theorem opened_agg {P : Program} {w : World} {H : Type} {enc : TypeId × Value → H} {held : Bool} {t : TypeId} {ss : List Shape} (h : Typed P t ss) {cs : Array Value} {d : DataW H} {pl : List MemPlace} (hd : DataW.Trod enc P w 0 (fun _ => true) held t (.agg cs) d pl) (hn : ∀ n ∈ d.weights P t, n ≤ reachBytes) :
    ∃ ps : List PV, ps.length = ss.length ∧ (∀ j, j < ss.length → Fits (ss.getD j .bool) (ps.getD j .undef)) ∧ RD w (fun _ => False) (.agg ps) (.agg cs) := by
  obtain ⟨fuel, hf⟩ := hd
  have e : (Value.agg cs).cells.toList = cs.toList := rfl
  rw [e] at hf
  obtain ⟨ps, h1, h2, h3, h4⟩ := opened h hf hn
  have hsz : cs.size = ss.length := by rw [← h2, Array.length_toList]
  refine ⟨ps, h1, h3, .agg ps cs (by omega) (fun u hu => ?_) (fun i hi => ?_)⟩
  · obtain ⟨i, hi, rfl⟩ := List.getElem_of_mem hu
    have := (h4 i (by omega)).1
    rw [List.getD_eq_getElem?_getD, List.getElem?_eq_getElem hi] at this
    exact this
  · have := (h4 i (by omega)).2
    rw [List.getD_eq_getElem?_getD (l := cs.toList), Array.getElem?_toList] at this
    rw [Array.getD_eq_getD_getElem?]
    exact this
end Go.PV
namespace Go.Proofs.YtbmhnjghpjkjpaaGreatDoor
open Go Go.PV

abbrev decS : List Shape := [.bool, .str, .int .i64]
theorem typed_dec : Typed Tryz.prog 35 decS :=
  .struct [[.bool], [.str], [.int .i64]] Tryz.underlying35 rfl (by kernel_rfl)
    (fun i f h => by
      match i, h with
      | 0, h => cases h; exact .bool (by kernel_rfl)
      | 1, h => cases h; exact .str (by kernel_rfl)
      | 2, h => cases h; exact .int (by kernel_rfl)
      | i + 3, h => simp at h)
    (fun i f h => by
      match i, h with
      | 0, h => cases h; exact ⟨rfl, by kernel_rfl⟩
      | 1, h => cases h; exact ⟨rfl, by kernel_rfl⟩
      | 2, h => cases h; exact ⟨rfl, by kernel_rfl⟩
      | i + 3, h => simp at h)
theorem fits_dec {ps : List PV} (hl : ps.length = decS.length) (hf : ∀ j, j < decS.length → Fits (decS.getD j .bool) (ps.getD j .undef)) : ∃ (neg : Bool) (s : List Int) (x : Int), PV.agg ps = .agg [.bool neg, .str s, .int .i64 x] ∧ s.length ≤ 140737488351232 ∧ (∀ c ∈ s, 0 ≤ c ∧ c < 256) ∧ (-9223372036854775808 ≤ x ∧ x ≤ 9223372036854775807) := by
  match ps, hl with
  | [p0, p1, p2], _ =>
    have h0 : Fits .bool p0 := hf 0 (by decide)
    have h1 : Fits .str p1 := hf 1 (by decide)
    have h2 : Fits (.int .i64) p2 := hf 2 (by decide)
    cases h0 with | bool neg =>
    cases h1 with | str t ht hb =>
    cases h2 with | int _ v hv =>
    exact ⟨neg, t, v, rfl, ht, hb, wf_i64 hv⟩
end Go.Proofs.YtbmhnjghpjkjpaaGreatDoor

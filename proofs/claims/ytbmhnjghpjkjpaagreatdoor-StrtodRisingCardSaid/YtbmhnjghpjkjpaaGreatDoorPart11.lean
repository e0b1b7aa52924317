/- Contracts and laws that the row leans on, part 11: texts that were built one by one, laid together. -/
import Derived.Laws.Externs
import Derived.Lib.Builder
import Derived.Lib.UnsafeStr
import Derived.ChangeSlices
import Derived.SizedLaws
import Derived.Shelf.Small.Strs
import Derived.Shelf.Strconv.Clone
import Derived.Shelf.Strings.Search1
import Derived.Test.YtbmhnjghpjkjpaaGreatDoorProg
import Derived.Test.YtbmhnjghpjkjpaaGreatDoorPart1
import Derived.Test.YtbmhnjghpjkjpaaGreatDoorPart2
import Derived.Test.YtbmhnjghpjkjpaaGreatDoorPart3
import Derived.Test.YtbmhnjghpjkjpaaGreatDoorPart4
import Derived.Test.YtbmhnjghpjkjpaaGreatDoorPart5
import Derived.Test.YtbmhnjghpjkjpaaGreatDoorPart6
import Derived.Test.YtbmhnjghpjkjpaaGreatDoorPart7
import Derived.Test.YtbmhnjghpjkjpaaGreatDoorPart8
import Derived.Test.YtbmhnjghpjkjpaaGreatDoorPart9
import Derived.Test.YtbmhnjghpjkjpaaGreatDoorPart10
set_option linter.unusedVariables false
set_option linter.unusedSimpArgs false
namespace Go.PV
open Go Go.RowKit

section
variable {P : Program} {w w' : World} {ow ow' : Nat → Prop} {loc loc' : Locs} {n nt : Nat} {E : Entry P} {H : Heap} {F : Frame} {a : Act} {tt : Tab} {rows : Nat → Option Row}

end
end Go.PV
set_option linter.unusedVariables false
set_option linter.unusedSimpArgs false
namespace Go.PV
open Go Go.RowKit

section
variable {P : Program} {w w' : World} {ow ow' : Nat → Prop} {loc loc' : Locs} {n nt : Nat} {E : Entry P} {H : Heap} {F : Frame} {a : Act} {tt : Tab} {rows : Nat → Option Row}

end
end Go.PV
set_option linter.unusedVariables false
set_option linter.unusedSimpArgs false
namespace Go.PV
open Go Go.RowKit

section
variable {P : Program} {w w' : World} {ow ow' : Nat → Prop} {loc loc' : Locs} {n nt : Nat} {E : Entry P} {H : Heap} {F : Frame} {a : Act} {tt : Tab} {rows : Nat → Option Row}

end
end Go.PV
set_option linter.unusedVariables false
set_option linter.unusedSimpArgs false
namespace Go.PV
open Go Go.RowKit

section
variable {P : Program} {w w' : World} {ow ow' : Nat → Prop} {loc loc' : Locs} {n nt : Nat} {E : Entry P} {H : Heap} {F : Frame} {a : Act} {tt : Tab} {rows : Nat → Option Row}

end
end Go.PV
set_option linter.unusedVariables false
set_option linter.unusedSimpArgs false
namespace Go.PV
open Go Go.RowKit

section
variable {P : Program} {w w' : World} {ow ow' : Nat → Prop} {loc loc' : Locs} {n nt : Nat} {E : Entry P} {H : Heap} {F : Frame} {a : Act} {tt : Tab} {rows : Nat → Option Row}

end
end Go.PV
set_option linter.unusedVariables false
set_option linter.unusedSimpArgs false
namespace Go.PV
open Go Go.RowKit

theorem bytesI_bytes (s : ByteArray) : ∀ c ∈ bytesI s, 0 ≤ c ∧ c < 256 := by
  intro c hc
  unfold bytesI at hc
  obtain ⟨b, _, rfl⟩ := List.mem_map.1 hc
  have := b.toNat_lt
  omega

end Go.PV
set_option linter.unusedVariables false
set_option linter.unusedSimpArgs false
namespace Go.PV
open Go Go.RowKit

end Go.PV
set_option linter.unusedVariables false
set_option linter.unusedSimpArgs false
namespace Go.PV
open Go Go.RowKit

end Go.PV
set_option linter.unusedVariables false
set_option linter.unusedSimpArgs false
namespace Go.PV
open Go Go.RowKit

section
variable {P : Program} {w w' : World} {ow ow' : Nat → Prop} {loc loc' : Locs} {n nt : Nat} {E : Entry P} {H : Heap} {F : Frame} {a : Act} {tt : Tab} {rows : Nat → Option Row}

end
end Go.PV
set_option linter.unusedVariables false
set_option linter.unusedSimpArgs false
namespace Go.PV
open Go Go.RowKit

section
variable {P : Program} {w w' : World} {ow ow' : Nat → Prop} {loc loc' : Locs} {n nt : Nat} {E : Entry P} {H : Heap} {F : Frame} {a : Act} {tt : Tab} {rows : Nat → Option Row}

end
end Go.PV
set_option linter.unusedVariables false
set_option linter.unusedSimpArgs false
namespace Go.PV
open Go Go.RowKit

section
variable {P : Program} {nt : Nat} {E : Entry P} {H : Heap} {F : Frame}

end
end Go.PV
namespace Go.PV
end Go.PV
namespace Go.PV
open Go Go.RowKit

theorem wf_i64 {n : Int} (h : (Lit.int .i64 n).wf = true) : -9223372036854775808 ≤ n ∧ n ≤ 9223372036854775807 := by
  simp only [Lit.wf, Bool.and_eq_true, decide_eq_true_eq, IntKind.min, IntKind.max, IntKind.signed, IntKind.bits] at h
  simp at h
  omega

theorem args2 {w : World} {ow : Nat → Prop} {p q : PV} {v u : Value} (h : RD w ow p v) (h2 : RD w ow q u) : ∀ i, i < [p, q].length → RD w ow ([p, q].getD i .undef) (#[v, u].getD i undef) := by
  intro i hi
  match i, hi with
  | 0, _ => exact h
  | 1, _ => exact h2
end Go.PV
set_option linter.unusedVariables false
set_option linter.unusedSimpArgs false
namespace Go.PV
open Go Go.RowKit
variable {P : Program}
end Go.PV
set_option linter.unusedVariables false
set_option linter.unusedSimpArgs false
namespace Go.PV
open Go Go.RowKit Go.ChangeShapes Go.WideShapes

inductive Shape where
  | int (k : IntKind)
  | bool
  | str
  | ints (k : IntKind) (B : Nat)
  | rows (st : Bool) (B : Nat) (ss : List Shape)

def elemPV (st : Bool) (ps : List PV) : PV := bif st then .agg ps else ps.getD 0 .undef

inductive Fits : Shape → PV → Prop
  | int (k : IntKind) (n : Int) (h : (Lit.int k n).wf = true) : Fits (.int k) (.int k n)
  | bool (b : Bool) : Fits .bool (.bool b)
  | str (l : List Int) (h : l.length ≤ 140737488351232) (hb : ∀ c ∈ l, 0 ≤ c ∧ c < 256) : Fits .str (.str l)
  | ints (k : IntKind) (B : Nat) (l : List Int) (h : l.length * B ≤ 140737488351232) (hw : ∀ n ∈ l, (Lit.int k n).wf = true) : Fits (.ints k B) (.ints k l)
  | rows (st : Bool) (B : Nat) (ss : List Shape) (l : List (List PV)) (h : l.length * B ≤ 140737488351232) (hl : ∀ ps ∈ l, ps.length = ss.length)
      (hf : ∀ ps ∈ l, ∀ j, j < ss.length → Fits (ss.getD j .bool) (ps.getD j .undef)) : Fits (.rows st B ss) (.list ss.length (l.map (elemPV st)))

inductive Typed (P : Program) : TypeId → List Shape → Prop
  | int {t : TypeId} {k : IntKind} (h : P.underlying t = some (.int k)) : Typed P t [.int k]
  | bool {t : TypeId} (h : P.underlying t = some .bool) : Typed P t [.bool]
  | str {t : TypeId} (h : P.underlying t = some .string) : Typed P t [.str]
  | ints {t e : TypeId} {k : IntKind} {B : Nat} (h : P.underlying t = some (.slice e)) (he : P.underlying e = some (.int k)) (hc : P.cellsOf e = 1) (hB : P.bytesOf e = B) : Typed P t [.ints k B]
  | rows {t e : TypeId} {ss : List Shape} {B : Nat} (st : Bool) (h : P.underlying t = some (.slice e)) (he : Typed P e ss) (hc : P.cellsOf e = ss.length) (hB : P.bytesOf e = B) (h0 : 0 < ss.length) (hst : st = false → ss.length = 1) : Typed P t [.rows st B ss]
  | struct {t : TypeId} {fs : Array Field} (parts : List (List Shape)) (h : P.underlying t = some (.struct fs)) (hl : parts.length = fs.size) (ht : P.cellsOf t = parts.flatten.length)
      (hp : ∀ (i : Nat) (f : Field), fs[i]? = some f → Typed P f.type (parts.getD i []))
      (ho : ∀ (i : Nat) (f : Field), fs[i]? = some f → f.offset = (parts.take i).flatten.length ∧ P.cellsOf f.type = (parts.getD i []).length) : Typed P t parts.flatten

theorem choose_list {α : Type} {Q : Nat → α → Prop} (d : α) : ∀ n, (∀ i, i < n → ∃ a, Q i a) → ∃ l : List α, l.length = n ∧ ∀ i, i < n → Q i (l.getD i d)
  | 0, _ => ⟨[], rfl, fun i hi => absurd hi (Nat.not_lt_zero i)⟩
  | n + 1, h => by
    obtain ⟨l, hl, hq⟩ := choose_list d n fun i hi => h i (by omega)
    obtain ⟨a, ha⟩ := h n (by omega)
    refine ⟨l ++ [a], by simp [hl], fun i hi => ?_⟩
    by_cases hin : i < n
    · have e : (l ++ [a]).getD i d = l.getD i d := by
        rw [List.getD_eq_getElem?_getD, List.getD_eq_getElem?_getD, List.getElem?_append_left (by omega)]
      rw [e]; exact hq i hin
    · have : i = n := by omega
      subst this
      have e : (l ++ [a]).getD i d = a := by
        rw [List.getD_eq_getElem?_getD, List.getElem?_append_right (by omega), hl]; simp
      rw [e]; exact ha

theorem flat_get {α β : Type} (da : α) (db : β) : ∀ (parts : List (List α)) (pss : List (List β)), pss.length = parts.length → (∀ i, i < parts.length → (pss.getD i []).length = (parts.getD i []).length) →
    pss.flatten.length = parts.flatten.length ∧ ∀ j, j < parts.flatten.length → ∃ i m, i < parts.length ∧ m < (parts.getD i []).length ∧ j = (parts.take i).flatten.length + m ∧ parts.flatten.getD j da = (parts.getD i []).getD m da ∧ pss.flatten.getD j db = (pss.getD i []).getD m db
  | [], [], _, _ => ⟨rfl, fun j hj => by simp at hj⟩
  | [], _ :: _, h, _ => by simp at h
  | _ :: _, [], h, _ => by simp at h
  | a :: parts, p :: pss, hl, h => by
    obtain ⟨h1, h2⟩ := flat_get da db parts pss (by simpa using hl) fun i hi => by simpa using h (i + 1) (by simpa using hi)
    have h0 : p.length = a.length := by simpa using h 0 (by simp)
    refine ⟨by simp only [List.flatten_cons, List.length_append]; omega, fun j hj => ?_⟩
    simp only [List.flatten_cons, List.length_append] at hj
    by_cases hja : j < a.length
    · refine ⟨0, j, by simp, by simpa using hja, by simp, ?_, ?_⟩
      · simp only [List.flatten_cons, List.getD_eq_getElem?_getD, List.getElem?_append_left hja]; rfl
      · simp only [List.flatten_cons, List.getD_eq_getElem?_getD, List.getElem?_append_left (show j < p.length by omega)]; rfl
    · obtain ⟨i, m, hi, hm, e, e1, e2⟩ := h2 (j - a.length) (by omega)
      refine ⟨i + 1, m, by simpa using hi, by simpa using hm, ?_, ?_, ?_⟩
      · simp only [List.take_succ_cons, List.flatten_cons, List.length_append]; omega
      · rw [List.getD_cons_succ, ← e1]
        simp only [List.flatten_cons, List.getD_eq_getElem?_getD, List.getElem?_append_right (show a.length ≤ j by omega)]
      · rw [List.getD_cons_succ, ← e2]
        simp only [List.flatten_cons, List.getD_eq_getElem?_getD, List.getElem?_append_right (show p.length ≤ j by omega), h0]

theorem weights_all {H : Type} {P : Program} {e : TypeId} : ∀ {l : List (DataW H)} {d : DataW H}, d ∈ l → ∀ n ∈ d.weights P e, n ∈ DataW.weightsAll P e l
  | x :: l, d, hd, n, hn => by
    simp only [DataW.weightsAll, List.mem_append]
    rcases List.mem_cons.1 hd with rfl | hd
    · exact .inl hn
    · exact .inr (weights_all hd n hn)


section
variable {H : Type} {enc : TypeId × Value → H} {P : Program} {w : World} {held : Bool}

theorem fits_cells {st : Bool} {ss : List Shape} {ps : List PV} (hst : st = false → ss.length = 1) (hl : ps.length = ss.length) (hf : ∀ j, j < ss.length → Fits (ss.getD j .bool) (ps.getD j .undef)) : cellsOf (elemPV st ps) = ps := by
  cases st with
  | true => rfl
  | false =>
    have h1 := hst rfl
    have hf0 := hf 0 (by omega)
    match ps, hl with
    | [p], _ =>
      simp only [elemPV, cond_false, List.getD_cons_zero] at hf0 ⊢
      generalize ss.getD 0 Shape.bool = s at hf0
      cases hf0 <;> rfl
    | [], hl => simp at hl; omega
    | _ :: _ :: _, hl => simp at hl; omega

theorem opened {t : TypeId} {ss : List Shape} (h : Typed P t ss) : ∀ {fuel : Nat} {cs : List Value} {x : DataW H × List MemPlace}, DataW.trod enc P w 0 (fun _ => true) held fuel t cs = some x → (∀ n ∈ x.1.weights P t, n ≤ reachBytes) →
    ∃ ps : List PV, ps.length = ss.length ∧ cs.length = ss.length ∧ (∀ j, j < ss.length → Fits (ss.getD j .bool) (ps.getD j .undef)) ∧ ∀ j, j < ss.length → (cs.getD j undef).oneCell' = true ∧ RD w (fun _ => False) (ps.getD j .undef) (cs.getD j undef) := by
  have one : ∀ {s : Shape} {p : PV} {v : Value}, Fits s p → v.oneCell' = true → RD w (fun _ => False) p v → ∃ ps : List PV, ps.length = [s].length ∧ [v].length = [s].length ∧ (∀ j, j < [s].length → Fits ([s].getD j .bool) (ps.getD j .undef)) ∧ ∀ j, j < [s].length → (([v] : List Value).getD j undef).oneCell' = true ∧ RD w (fun _ => False) (ps.getD j .undef) (([v] : List Value).getD j undef) := fun {s p v} h1 h2 h3 => ⟨[p], rfl, rfl, fun j hj => by
      have : j = 0 := by simpa using hj
      subst this; exact h1, fun j hj => by
      have : j = 0 := by simpa using hj
      subst this; exact ⟨h2, h3⟩⟩
  induction h with
  | int h =>
    intro fuel cs x hx hn
    obtain ⟨n, rfl, rfl, hw⟩ := DataW.trod_int h hx
    exact one (.int _ _ hw) rfl (.int _ _)
  | bool h =>
    intro fuel cs x hx hn
    obtain ⟨b, rfl, rfl⟩ := DataW.trod_bool h hx
    exact one (.bool _) rfl (.bool _)
  | str h =>
    intro fuel cs x hx hn
    obtain ⟨s, rfl, rfl, _⟩ := DataW.trod_string h hx
    have h1 := hn s.data.toList.length (by simp [DataW.weights])
    refine one (.str (bytesI s) (by rw [bytesI_length]; simpa [reachBytes] using h1) (bytesI_bytes s)) rfl (.str _ _ rfl)
  | @ints t e k B h he hc hB =>
    intro fuel cs x hx hn
    rcases open_ints h he hc hx with ⟨rfl, rfl⟩ | ⟨a, len, cap, zs, rfl, _, hl, hm, hz, rfl, hcell, hw⟩
    · exact one (.ints k B [] (by simp) (by simp)) rfl (.intsNil k)
    · have hz' : zs.length = cap := by simpa using hz
      obtain ⟨hrd, hlen, hw'⟩ := IsRow.rd (.inr ⟨a, rfl, hl, hm, hz', hcell, hw⟩)
      have h1 := hn ((lits (H := H) k (zs.take len)).length * B + (lits (H := H) k (zs.drop len)).length * B) (by simp [DataW.weights, h, hB, Nat.add_mul])
      refine one (.ints k B _ ?_ hw') rfl hrd
      simp only [lits, List.length_map, reachBytes] at h1
      omega
  | @rows t e ss B st h he hc hB h0 hst ih =>
    intro fuel cs x hx hn
    rcases DataW.trod_slice h hx with ⟨rfl, rfl⟩ | ⟨a, len, cap, elems, rest, n, _, rfl, rfl, _, hl, hm, hlen, hel, _, _⟩
    · have := one (s := .rows st B ss) (p := .list ss.length (([] : List (List PV)).map (elemPV st))) (v := .slice none 0 0) (.rows st B ss [] (by simp) (by simp) (by simp)) rfl (.listNil _)
      exact this
    · have hwall : ∀ y ∈ elems, ∀ m ∈ y.1.weights P e, m ≤ reachBytes := fun y hy m hm => hn m (by
        simp only [DataW.weights, h, List.mem_cons, List.mem_append]
        exact .inr (.inl (weights_all (List.mem_map_of_mem hy) m hm)))
      have each : ∀ i, i < len → ∃ pv : List PV × List Value, pv.1.length = ss.length ∧ (∀ j, j < ss.length → Fits (ss.getD j .bool) (pv.1.getD j .undef)) ∧ ∀ j, j < ss.length → w.cell? (a.add (i * ss.length) |>.add j) = some (pv.2.getD j undef) ∧ (pv.2.getD j undef).oneCell' = true ∧ RD w (fun _ => False) (pv.1.getD j .undef) (pv.2.getD j undef) := by
        intro i hi
        have hi' : i < elems.length := by omega
        have h1 := hel i hi
        rw [List.getElem?_eq_getElem hi'] at h1
        obtain ⟨cs, hcs, ht⟩ := Option.bind_eq_some_iff.1 h1
        obtain ⟨ps, hp1, hp2, hp3, hp4⟩ := ih ht (hwall _ (List.getElem_mem hi'))
        obtain ⟨_, _, hc3⟩ := World.cells?_some hcs
        rw [hc] at hc3
        refine ⟨(ps, cs), hp1, hp3, fun j hj => ⟨?_, hp4 j hj⟩⟩
        rw [hc3 j hj, List.getD_eq_getElem?_getD, List.getElem?_eq_getElem (by omega)]
        rfl
      obtain ⟨l, hll, hlq⟩ := choose_list ([], []) len each
      have hsize : len * B ≤ 140737488351232 := by
        have h1 := hn ((elems.length + rest.length) * B) (by simp [DataW.weights, h, hB])
        rw [Nat.add_mul, hlen] at h1
        simp only [reachBytes] at h1
        omega
      have hin : ∀ ps ∈ l.map (·.1), ps.length = ss.length ∧ ∀ j, j < ss.length → Fits (ss.getD j .bool) (ps.getD j .undef) := by
        intro ps hps
        obtain ⟨pv, hpv, rfl⟩ := List.mem_map.1 hps
        obtain ⟨i, hi, rfl⟩ := List.getElem_of_mem hpv
        have := hlq i (by omega)
        rw [List.getD_eq_getElem?_getD, List.getElem?_eq_getElem hi] at this
        exact ⟨this.1, this.2.1⟩
      refine one (.rows st B ss (l.map (·.1)) (by simp only [List.length_map]; rw [hll]; exact hsize) (fun ps h => (hin ps h).1) (fun ps h => (hin ps h).2)) rfl ?_
      cases len with
      | zero =>
        have : l = [] := List.length_eq_zero_iff.1 hll
        subst this
        exact .listE _ a cap
      | succ m =>
        obtain ⟨b, o, spot⟩ := a
        have hs : spot = none := by
          have h1 := ((hlq 0 (by omega)).2.2 0 h0).1
          cases spot with
          | none => rfl
          | some s =>
            simp only [World.cell?, Addr.add] at h1
            split at h1
            · simp at h1
            · cases h1
        subst hs
        have hadd : ∀ i j : Nat, ((⟨b, o, none⟩ : Addr).add i).add j = ⟨b, o + (i + j), none⟩ := by
          intro i j
          unfold Addr.add
          by_cases hi0 : i = 0 <;> by_cases hj0 : j = 0 <;> simp [hi0, hj0, Nat.add_assoc]
        have hgl : ∀ i, i < (l.map (·.1)).length → ((l.map (·.1)).map (elemPV st)).getD i .undef = elemPV st ((l.getD i ([], [])).1) := by
          intro i hi
          have hi' : i < l.length := by simpa using hi
          simp [List.getD_eq_getElem?_getD, hi']
        have hcl : ∀ i, i < m + 1 → cellsOf (((l.map (·.1)).map (elemPV st)).getD i .undef) = (l.getD i ([], [])).1 := by
          intro i hi
          rw [hgl i (by simp; omega)]
          exact fits_cells hst (hlq i hi).1 (hlq i hi).2.1
        refine .list ss.length _ (m + 1) b o cap (fun i j => (l.getD i ([], [])).2.getD j undef) (by simp [hll]) hl (fun h => h) h0 ?_ ?_ ?_ ?_
        · intro i hi
          have hi' : i < m + 1 := by simpa [hll] using hi
          rw [hcl i hi']
          exact (hlq i hi').1
        · intro i j hi hj
          have hi' : i < m + 1 := by simpa [hll] using hi
          have := ((hlq i hi').2.2 j hj).1
          rw [hadd] at this
          exact this
        · intro i j hi hj
          have hi' : i < m + 1 := by simpa [hll] using hi
          exact ((hlq i hi').2.2 j hj).2.1
        · intro i j hi hj
          have hi' : i < m + 1 := by simpa [hll] using hi
          rw [hcl i hi']
          exact ((hlq i hi').2.2 j hj).2.2
  | @struct t fs parts h hl ht hp ho ih =>
    intro fuel cs x hx hn
    obtain ⟨xs, n, _, rfl, hcl, hxl, hxs⟩ := DataW.trod_struct h hx
    rw [ht] at hcl
    have each : ∀ i, i < fs.size → ∃ ps : List PV, ps.length = (parts.getD i []).length ∧ (∀ j, j < (parts.getD i []).length → Fits ((parts.getD i []).getD j .bool) (ps.getD j .undef)) ∧ ∀ j, j < (parts.getD i []).length → (cs.getD ((parts.take i).flatten.length + j) undef).oneCell' = true ∧ RD w (fun _ => False) (ps.getD j .undef) (cs.getD ((parts.take i).flatten.length + j) undef) := by
      intro i hi
      have hfi : fs[i]? = some fs[i] := by simp [hi]
      have hxi : i < xs.length := by omega
      have h1 := hxs i _ hfi
      rw [List.getElem?_eq_getElem hxi] at h1
      obtain ⟨ps, hp1, hp2, hp3, hp4⟩ := ih i _ hfi h1 fun m hm => hn m (by
        simp only [DataW.weights, h]
        refine DataW.weights_mem_each (j := i) (t := fs[i].type) (d := xs[i].1) ?_ ?_ m hm
        · simp [hi]
        · simp [hxi])
      obtain ⟨hof, hce⟩ := ho i _ hfi
      refine ⟨ps, hp1, hp3, fun j hj => ?_⟩
      have e : ((cs.drop fs[i].offset).take (P.cellsOf fs[i].type)).getD j undef = cs.getD ((parts.take i).flatten.length + j) undef := by
        rw [hof, hce]
        generalize (parts.getD i []).length = k at hj
        simp only [List.getD_eq_getElem?_getD]
        rw [List.getElem?_take_of_lt hj, List.getElem?_drop]
      rw [← e]
      exact hp4 j hj
    obtain ⟨pss, hpl, hpq⟩ := choose_list [] fs.size each
    obtain ⟨hfl, hfj⟩ := flat_get Shape.bool PV.undef parts pss (by omega) fun i hi => (hpq i (by omega)).1
    refine ⟨pss.flatten, hfl, hcl, fun j hj => ?_, fun j hj => ?_⟩
    · obtain ⟨i, m, hi, hm, _, e1, e2⟩ := hfj j hj
      rw [e1, e2]
      exact (hpq i (by omega)).2.1 m hm
    · obtain ⟨i, m, hi, hm, e0, e1, e2⟩ := hfj j hj
      rw [e2, e0]
      exact (hpq i (by omega)).2.2 m hm

theorem weighs {ts : List TypeId} {ds : List (DataW H)} (h : (DataW.weightsEach P ts ds).all (· ≤ reachBytes) = true) {j : Nat} {t : TypeId} {d : DataW H} (ht : ts[j]? = some t) (hd : ds[j]? = some d) : ∀ n ∈ d.weights P t, n ≤ reachBytes := fun n hn => by
  have := List.all_eq_true.1 h n (DataW.weights_mem_each ht hd n hn)
  simpa using this
end
end Go.PV
set_option linter.unusedVariables false
set_option linter.unusedSimpArgs false
namespace Go.PV
open Go Go.RowKit
section
variable {P : Program}

end
end Go.PV
set_option linter.unusedVariables false
set_option linter.unusedSimpArgs false
namespace Go.PV
open Go Go.RowKit

section
variable {P : Program} {w w' : World} {ow ow' : Nat → Prop} {loc loc' : Locs} {n nt : Nat} {E : Entry P} {H : Heap} {F : Frame} {a : Act} {tt : Tab} {rows : Nat → Option Row}

end
end Go.PV
set_option maxHeartbeats 4000000
set_option maxRecDepth 4000
set_option exponentiation.threshold 300000
set_option linter.unusedVariables false
set_option linter.unusedSimpArgs false
namespace Go.Proofs.YtbmhnjghpjkjpaaGreatDoor
open Go Go.PV

def lower (c : Int) : Int := if 65 ≤ c ∧ c ≤ 90 then c - 65 + 97 else c

def pl (s : List Int) : Nat → List Int
  | 0 => []
  | i + 1 => if lower (s.getD i 0) ≠ 48 ∨ pl s i ≠ [] ∨ i + 1 = s.length then pl s i ++ [lower (s.getD i 0)] else pl s i

end Go.Proofs.YtbmhnjghpjkjpaaGreatDoor
set_option maxHeartbeats 4000000
set_option maxRecDepth 4000
set_option exponentiation.threshold 300000
set_option linter.unusedVariables false
set_option linter.unusedSimpArgs false
namespace Go.Proofs.YtbmhnjghpjkjpaaGreatDoor
open Go Go.PV
theorem num_cons {x : Int} (hx : 48 ≤ x ∧ x ≤ 57) (t : List Int) : num 10 (x :: t) = (x - 48).toNat * 10 ^ t.length + num 10 t := by
  have h := numN_split 10 (x :: t) 1 t.length
  unfold num
  rw [List.length_cons, Nat.add_comm t.length 1, h]
  simp [numN, worth_digit hx]

end Go.Proofs.YtbmhnjghpjkjpaaGreatDoor
namespace Go.Proofs
open Go.Shelf
def Tryz.lays106_ren : Go.Shelf.Ren := ⟨fun | 106 => 108 | 213 => 154 | 265 => 192 | n => n, fun | 9 => 9 | 3 => 3 | n => n, fun | n => n⟩
theorem Tryz.lays106 : Go.Proofs.Lays.n106 Tryz.prog Tryz.lays106_ren := {
  mixed := by kernel_rfl
  f106 := Tryz.func108.trans (congrArg some (by kernel_rfl))
  f213 := Tryz.func154.trans (congrArg some (by kernel_rfl))
  f265 := Tryz.func192.trans (congrArg some (by kernel_rfl))
  t3 := Tryz.underlying3
  a3 := Tryz.isAgg3
  z3 := Tryz.sizeOf3
  v3 := Tryz.zeroValue3
  t9 := Tryz.underlying9
  a9 := Tryz.isAgg9
  z9 := Tryz.sizeOf9
  v9 := Tryz.zeroValue9 }
open Go.RowKit in
theorem Tryz.strings_Compare (a b : ByteArray) (w : World) :
    Calls Tryz.prog 108 #[.string a, .string b] w fun e w' => e = .returned (.int .i64 (Lib.compareBytes a.data.toList b.data.toList)) ∧ w' = w := Any.strings_Compare Tryz.lays106 a b w
end Go.Proofs
set_option maxHeartbeats 4000000
set_option maxRecDepth 4000
set_option exponentiation.threshold 300000
set_option linter.unusedVariables false
set_option linter.unusedSimpArgs false
namespace Go.Proofs.YtbmhnjghpjkjpaaGreatDoor
open Go Go.PV

theorem scan_norm_none (neg : Bool) (s : List Int) (x : Int) (h : s = [] ∨ x < -1152921504606846976 ∨ 1152921504606846976 < x) (hsl : s.length ≤ 281474976710656) : Meets Tryz.prog 25 [.agg [.bool neg, .str s, .int .i64 x]] (.tup [.agg [.bool false, .str [], .int .i64 0], .int .i64 80]) := by
  have hh : (decide (s = []) = true ∧ decide (s = []) = true ∧ decide (s = []) = true) ∨ (decide (s = []) = false ∧ decide (x < -1152921504606846976) = true ∧ decide (x < -1152921504606846976) = true) ∨ (decide (s = []) = false ∧ decide (x < -1152921504606846976) = false ∧ decide (1152921504606846976 < x) = true) := by
    by_cases h1 : s = []
    · have := decide_eq_true h1; exact .inl ⟨this, this, this⟩
    · by_cases h2 : x < -1152921504606846976
      · have := decide_eq_true h2; exact .inr (.inl ⟨decide_eq_false h1, this, this⟩)
      · refine .inr (.inr ⟨decide_eq_false h1, decide_eq_false h2, decide_eq_true ?_⟩)
        rcases h with h | h | h
        · exact absurd h h1
        · exact absurd h h2
        · exact h
  clear h
  rcases hh with ⟨d1, d2, d3⟩ | ⟨d1, d2, d3⟩ | ⟨d1, d2, d3⟩
  all_goals (refine meets_by ttOk Tryz.func25 Tryz.ntmps25 Tryz.results25 (by kernel_rfl) (c := _) rfl rfl rfl fun E => ?_; simp only [argsFrame])
  all_goals
    repeat' first
      | (with_reducible first | refine PW.seq ?_ | refine PW.block ?_ | refine PW.fork ?_ | refine PW.skip ?_ | refine PW.exit ?_ | refine PW.ret ?_ | refine PW.scope ?_ | refine PW.label ?_ | refine PW.goto ?_)
      | (simp only [d1, d2, d3, Bool.or_false, Bool.or_self, Bool.true_or, Bool.or_true])
      | (with_reducible refine PW.region ttOk ?_ ?_
         · rfl)
      | (with_reducible refine PW.regionD ttOk mixed ?_ ?_ ?_
         · rfl
         · rfl)
      | (with_reducible refine ifW_dec (fun g => ?_) (fun g => ?_) <;> first | (exfalso; omega) | (simp -dsimp only [g, wkI]))
      | (with_reducible refine condE_dec (fun g => ?_) (fun g => ?_) <;> try (exfalso; omega))
      | (with_reducible refine condE_not (fun g => ?_) (fun g => ?_) <;> try (exfalso; omega))
      | (simp -dsimp only [↓wkA, ↓wkE, ↓wkJ, wkB, ↓tt, Nat.reduceBEq, Nat.reduceEqDiff, ↓reduceIte, Nat.reduceLT, Array.toList, Nat.reduceAdd, Nat.reduceMul, Int.reduceToNat, Int.reducePow, UInt8.reduceToNat])
      | (simp -dsimp (disch := first | assumption | omega) only [dec_t, dec_f])
      | (refine And.intro ?_ ?_
         · first | omega | decide | (simp (disch := omega) only [wkW, Int.reduceToNat, Int.reducePow] <;> omega) | (simp <;> omega))
      | (simp (disch := omega) only [wkW, Int.reduceToNat, Int.reducePow])
      | fail

theorem scan_norm_bad (neg : Bool) {s : List Int} {x : Int} (h : ¬ NormOk s x) (hsl : s.length ≤ 281474976710656) : Meets Tryz.prog 25 [.agg [.bool neg, .str s, .int .i64 x]] (.tup [.agg [.bool false, .str [], .int .i64 0], .int .i64 80]) := by
  by_cases h1 : s ≠ [] ∧ InR x
  · exact scan_norm_loop neg s x h1.1 h1.2 hsl (normS s) (normX s x) (fun _ => scan_normal neg s x h1.2 hsl) _ (fun _ => rfl) (fun _ _ => rfl) (fun hA hn => absurd ⟨h1.1, h1.2, hA, by omega⟩ h)
  · refine scan_norm_none neg s x ?_ hsl
    by_cases h2 : s = []
    · exact .inl h2
    · refine .inr ?_
      by_cases h3 : x < -1152921504606846976
      · exact .inl h3
      · refine .inr ?_
        by_cases h4 : 1152921504606846976 < x
        · exact h4
        · exact absurd ⟨h2, by omega, by omega⟩ h1
end Go.Proofs.YtbmhnjghpjkjpaaGreatDoor
set_option maxHeartbeats 4000000
set_option maxRecDepth 4000
set_option exponentiation.threshold 300000
set_option linter.unusedVariables false
set_option linter.unusedSimpArgs false
namespace Go.Proofs.YtbmhnjghpjkjpaaGreatDoor
open Go Go.PV

theorem along_bad (neg : Bool) (s : List Int) (x : Int) (L : List PV) (h : Meets Tryz.prog 25 [.agg [.bool neg, .str s, .int .i64 x]] (.tup [.agg [.bool false, .str [], .int .i64 0], .int .i64 80])) : Meets Tryz.prog 51 [.agg [.bool neg, .str s, .int .i64 x], .list 1 L] (.tup [.int .u64 0, .int .i64 80]) := by
  refine meets_by ttOk Tryz.func51 Tryz.ntmps51 Tryz.results51 (by kernel_rfl) (c := _) rfl rfl rfl fun E => ?_
  simp only [argsFrame]
  repeat' first
    | (with_reducible first | refine PW.seq ?_ | refine PW.block ?_ | refine PW.fork ?_ | refine PW.skip ?_ | refine PW.exit ?_ | refine PW.ret ?_ | refine PW.scope ?_ | refine PW.label ?_ | refine PW.goto ?_)
    | (with_reducible refine PW.region ttOk ?_ ?_
       · rfl)
    | (with_reducible refine PW.regionD ttOk mixed ?_ ?_ ?_
       · rfl
       · rfl)
    | (with_reducible refine ifW_dec (fun g => ?_) (fun g => ?_) <;> first | (exfalso; omega) | (simp -dsimp only [g, wkI]))
    | (with_reducible refine condE_dec (fun g => ?_) (fun g => ?_) <;> try (exfalso; omega))
    | (with_reducible refine condE_not (fun g => ?_) (fun g => ?_) <;> try (exfalso; omega))
    | (simp -dsimp only [↓wkA, ↓wkE, ↓wkJ, wkB, ↓tt, Nat.reduceBEq, Nat.reduceEqDiff, ↓reduceIte, Nat.reduceLT, Array.toList, Nat.reduceAdd, Nat.reduceMul, Int.reduceToNat, Int.reducePow, UInt8.reduceToNat])
    | (refine call_by (h) (views_data rfl) (by simp only [okViews, okView, okViews0, okView0, and_self]) rfl ?_)
    | (simp -dsimp (disch := first | assumption | omega) only [dec_t, dec_f])
    | (refine And.intro ?_ ?_
       · first | omega | decide | (simp (disch := omega) only [wkW, Int.reduceToNat, Int.reducePow] <;> omega) | (simp <;> omega))
    | (simp (disch := omega) only [wkW, Int.reduceToNat, Int.reducePow])
    | fail

end Go.Proofs.YtbmhnjghpjkjpaaGreatDoor
set_option maxHeartbeats 4000000
set_option maxRecDepth 4000
set_option exponentiation.threshold 300000
set_option linter.unusedVariables false
set_option linter.unusedSimpArgs false
namespace Go.Proofs.YtbmhnjghpjkjpaaGreatDoor
open Go Go.PV

theorem strtod_exact_bad (neg : Bool) {s : List Int} {x : Int} (h : ¬ NormOk s x) (hsl : s.length ≤ 281474976710656) : Meets Tryz.prog 20 [.agg [.bool neg, .str s, .int .i64 x]] (.tup [.int .u64 0, .int .i64 80]) :=
  exact_walk neg s x _ _ (along_bad neg s x _ (scan_norm_bad neg h hsl))
end Go.Proofs.YtbmhnjghpjkjpaaGreatDoor
set_option maxHeartbeats 4000000
set_option maxRecDepth 4000
set_option exponentiation.threshold 300000
set_option linter.unusedVariables false
set_option linter.unusedSimpArgs false
namespace Go.Proofs.YtbmhnjghpjkjpaaGreatDoor
open Go Go.PV

def lexI : List Int → List Int → Int
  | [], [] => 0
  | [], _ :: _ => -1
  | _ :: _, [] => 1
  | a :: s, b :: t => if a < b then -1 else if b < a then 1 else lexI s t
theorem lexI_bytes : ∀ (l m : List UInt8), lexI (l.map fun b => (b.toNat : Int)) (m.map fun b => (b.toNat : Int)) = Lib.compareBytes l m
  | [], [] => rfl
  | [], _ :: _ => rfl
  | _ :: _, [] => rfl
  | a :: l, b :: m => by
    simp only [List.map_cons, lexI, Lib.compareBytes]
    have e1 : ((a.toNat : Int) < (b.toNat : Int)) ↔ a < b := by rw [Int.ofNat_lt]; exact Iff.rfl
    have e2 : ((b.toNat : Int) < (a.toNat : Int)) ↔ b < a := by rw [Int.ofNat_lt]; exact Iff.rfl
    rw [lexI_bytes l m]
    simp only [e1, e2]
theorem str_compare (s t : List Int) : Meets Tryz.prog 108 [.str s, .str t] (.int .i64 (lexI s t)) := by
  refine meets_lib1 Tryz.func108 (by kernel_rfl) (c := _) rfl fun w A vs hl ha => ?_
  have hs : vs.size = 2 := by simpa using hl.symm
  obtain ⟨u, v, rfl⟩ : ∃ u v, vs = #[u, v] := ⟨vs[0], vs[1], Array.ext (by simp [hs]) fun i h1 h2 => by
    match i, h1 with
    | 0, _ => rfl
    | 1, _ => rfl
    | i + 2, h1 => omega⟩
  have h1 : RD w A (.str s) u := by simpa using ha 0 (by simp)
  have h2 : RD w A (.str t) v := by simpa using ha 1 (by simp)
  cases h1 with
  | str b _ h =>
    cases h2 with
    | str c _ g =>
      refine ⟨.int .i64 (lexI s t), fun w' A => .int _ _, (Tryz.strings_Compare b c w).mono ?_⟩
      rintro e w' ⟨rfl, rfl⟩
      refine ⟨?_, Go.RowKit.Below.refl _ _⟩
      rw [← h, ← g]
      unfold bytesI
      rw [lexI_bytes]

theorem num_pos : ∀ {s : List Int}, Digs s → s ≠ [] → s.getD (s.length - 1) 0 ≠ 48 → 0 < num 10 s
  | [], _, h, _ => absurd rfl h
  | [a], hd, _, h => by
    have hd1 := hd a (by simp)
    rw [num_cons hd1]
    have : a ≠ 48 := h
    show 0 < (a - 48).toNat * 10 ^ 0 + 0
    omega
  | a :: b :: s, hd, _, h => by
    have := num_pos (s := b :: s) (fun x hx => hd x (List.mem_cons_of_mem _ hx)) (by simp) (by simpa using h)
    rw [num_cons (hd a (by simp))]
    omega
theorem lex_num : ∀ (s t : List Int) (n : Nat), Digs s → Digs t → s.length ≤ n → t.length ≤ n → (s = [] ∨ s.getD (s.length - 1) 0 ≠ 48) → (t = [] ∨ t.getD (t.length - 1) 0 ≠ 48) →
    (lexI s t = 0 ∧ s = t) ∨ (lexI s t = -1 ∧ num 10 s * 10 ^ (n - s.length) < num 10 t * 10 ^ (n - t.length)) ∨ (lexI s t = 1 ∧ num 10 t * 10 ^ (n - t.length) < num 10 s * 10 ^ (n - s.length))
  | [], [], n, _, _, _, _, _, _ => .inl ⟨rfl, rfl⟩
  | [], b :: t, n, _, ht, _, _, _, h2 => by
    refine .inr (.inl ⟨rfl, ?_⟩)
    have := num_pos ht (by simp) (h2.resolve_left (by simp))
    show 0 * _ < _
    rw [Nat.zero_mul]
    exact Nat.mul_pos this (ten_pos _)
  | a :: s, [], n, hs, _, _, _, h1, _ => by
    refine .inr (.inr ⟨rfl, ?_⟩)
    have := num_pos hs (by simp) (h1.resolve_left (by simp))
    show 0 * _ < _
    rw [Nat.zero_mul]
    exact Nat.mul_pos this (ten_pos _)
  | a :: s, b :: t, n + 1, hs, ht, ls, lt, h1, h2 => by
    have ha := hs a (by simp)
    have hb := ht b (by simp)
    have hs' : Digs s := fun x hx => hs x (List.mem_cons_of_mem _ hx)
    have ht' : Digs t := fun x hx => ht x (List.mem_cons_of_mem _ hx)
    simp only [List.length_cons, Nat.add_le_add_iff_right] at ls lt
    have bs : num 10 s * 10 ^ (n - s.length) < 10 ^ n := by
      have := num_digs_lt hs'
      calc num 10 s * 10 ^ (n - s.length) < 10 ^ s.length * 10 ^ (n - s.length) := Nat.mul_lt_mul_of_pos_right this (ten_pos _)
        _ = 10 ^ n := by rw [← Nat.pow_add]; congr 1; omega
    have bt : num 10 t * 10 ^ (n - t.length) < 10 ^ n := by
      have := num_digs_lt ht'
      calc num 10 t * 10 ^ (n - t.length) < 10 ^ t.length * 10 ^ (n - t.length) := Nat.mul_lt_mul_of_pos_right this (ten_pos _)
        _ = 10 ^ n := by rw [← Nat.pow_add]; congr 1; omega
    have es : num 10 (a :: s) * 10 ^ (n + 1 - (s.length + 1)) = (a - 48).toNat * 10 ^ n + num 10 s * 10 ^ (n - s.length) := by
      rw [num_cons ha, Nat.add_sub_add_right, Nat.add_mul, Nat.mul_assoc, ← Nat.pow_add, show s.length + (n - s.length) = n by omega]
    have et : num 10 (b :: t) * 10 ^ (n + 1 - (t.length + 1)) = (b - 48).toNat * 10 ^ n + num 10 t * 10 ^ (n - t.length) := by
      rw [num_cons hb, Nat.add_sub_add_right, Nat.add_mul, Nat.mul_assoc, ← Nat.pow_add, show t.length + (n - t.length) = n by omega]
    rw [List.length_cons, List.length_cons, es, et, lexI]
    have key : ∀ {p q : Int}, 48 ≤ p → p < q → (p - 48).toNat * 10 ^ n + 10 ^ n ≤ (q - 48).toNat * 10 ^ n := fun {p q} hp h => by
      have : (p - 48).toNat + 1 ≤ (q - 48).toNat := by omega
      calc (p - 48).toNat * 10 ^ n + 10 ^ n = ((p - 48).toNat + 1) * 10 ^ n := by rw [Nat.add_mul, Nat.one_mul]
        _ ≤ _ := Nat.mul_le_mul_right _ this
    by_cases hab : a < b
    · rw [if_pos hab]
      refine .inr (.inl ⟨rfl, ?_⟩)
      have := key ha.1 hab
      omega
    · rw [if_neg hab]
      by_cases hba : b < a
      · rw [if_pos hba]
        refine .inr (.inr ⟨rfl, ?_⟩)
        have := key hb.1 hba
        omega
      · rw [if_neg hba]
        obtain rfl : a = b := by omega
        have l1 : s = [] ∨ s.getD (s.length - 1) 0 ≠ 48 := by
          cases s with
          | nil => exact .inl rfl
          | cons c s => exact .inr (by simpa using h1.resolve_left (by simp))
        have l2 : t = [] ∨ t.getD (t.length - 1) 0 ≠ 48 := by
          cases t with
          | nil => exact .inl rfl
          | cons c t => exact .inr (by simpa using h2.resolve_left (by simp))
        rcases lex_num s t n hs' ht' ls lt l1 l2 with ⟨h, rfl⟩ | ⟨h, g⟩ | ⟨h, g⟩
        · exact .inl ⟨h, rfl⟩
        · exact .inr (.inl ⟨h, by omega⟩)
        · exact .inr (.inr ⟨h, by omega⟩)

def sizeV (s : List Int) (x : Int) (t : List Int) (y : Int) : Int :=
  if s = [48] then (if t = [48] then 0 else -1) else if t = [48] then 1 else if x + s.length < y + t.length then -1 else if y + t.length < x + s.length then 1 else lexI s t
theorem size_walk (n1 n2 : Bool) (s t : List Int) (x y r : Int) (hls : s.length ≤ 281474976710656) (hlt : t.length ≤ 281474976710656) (hx : InR x) (hy : InR y)
    (h : (s = [48] ∧ t = [48] ∧ r = 0) ∨ (s = [48] ∧ t ≠ [48] ∧ r = -1) ∨ (s ≠ [48] ∧ t = [48] ∧ r = 1) ∨ (s ≠ [48] ∧ t ≠ [48] ∧ x + s.length < y + t.length ∧ r = -1) ∨ (s ≠ [48] ∧ t ≠ [48] ∧ y + t.length < x + s.length ∧ r = 1) ∨ (s ≠ [48] ∧ t ≠ [48] ∧ y + t.length = x + s.length ∧ r = lexI s t)) :
    Meets Tryz.prog 58 [.agg [.bool n1, .str s, .int .i64 x], .agg [.bool n2, .str t, .int .i64 y]] (.int .i64 r) := by
  have hc := str_compare s t
  have hx := hx
  unfold InR at hx hy
  have w1 : IntKind.wrap .i64 (x + (s.length : Int)) = x + s.length := wrap_i64 (by omega)
  have w2 : IntKind.wrap .i64 (y + (t.length : Int)) = y + t.length := wrap_i64 (by omega)
  generalize hr : lexI s t = lx at *
  rcases h with ⟨h1, h2, rfl⟩ | ⟨h1, h2, rfl⟩ | ⟨h1, h2, rfl⟩ | ⟨h1, h2, h3, rfl⟩ | ⟨h1, h2, h3, rfl⟩ | ⟨h1, h2, h3, rfl⟩
  all_goals first
    | (have d1 : decide (s = [48]) = true := decide_eq_true h1)
    | (have d1 : decide (s = [48]) = false := decide_eq_false h1)
  all_goals first
    | (have d2 : decide (t = [48]) = true := decide_eq_true h2)
    | (have d2 : decide (t = [48]) = false := decide_eq_false h2)
  all_goals first
    | (have d3 : decide (x + (s.length : Int) = y + t.length) = true := decide_eq_true (by omega))
    | (have d3 : decide (x + (s.length : Int) = y + t.length) = false := decide_eq_false (by omega))
    | (have d3 := True.intro)
  all_goals first
    | (have d4 : decide (x + (s.length : Int) < y + t.length) = true := decide_eq_true (by omega))
    | (have d4 : decide (x + (s.length : Int) < y + t.length) = false := decide_eq_false (by omega))
    | (have d4 := True.intro)
  all_goals (refine meets_by ttOk Tryz.func58 Tryz.ntmps58 Tryz.results58 (by kernel_rfl) (c := _) rfl rfl rfl fun E => ?_; simp only [argsFrame])
  all_goals
    repeat' first
      | (with_reducible first | refine PW.seq ?_ | refine PW.block ?_ | refine PW.fork ?_ | refine PW.skip ?_ | refine PW.exit ?_ | refine PW.ret ?_ | refine PW.scope ?_ | refine PW.label ?_ | refine PW.goto ?_)
      | (simp only [d1, d2, d3, d4, w1, w2])
      | (with_reducible refine PW.region ttOk ?_ ?_
         · rfl)
      | (with_reducible refine PW.regionD ttOk mixed ?_ ?_ ?_
         · rfl
         · rfl)
      | (with_reducible refine ifW_dec (fun g => ?_) (fun g => ?_) <;> first | (exfalso; omega) | (simp -dsimp only [g, wkI]))
      | (with_reducible refine condE_dec (fun g => ?_) (fun g => ?_) <;> try (exfalso; omega))
      | (with_reducible refine condE_not (fun g => ?_) (fun g => ?_) <;> try (exfalso; omega))
      | (simp -dsimp only [↓wkA, ↓wkE, ↓wkJ, wkB, ↓tt, Nat.reduceBEq, Nat.reduceEqDiff, ↓reduceIte, Nat.reduceLT, Array.toList, Nat.reduceAdd, Nat.reduceMul, Int.reduceToNat, Int.reducePow, UInt8.reduceToNat])
      | (refine call_by (hc) (views_data rfl) ⟨trivial, trivial, trivial⟩ rfl ?_)
      | (simp -dsimp (disch := first | assumption | omega) only [dec_t, dec_f])
      | (refine And.intro ?_ ?_
         · first | omega | decide | (simp (disch := omega) only [wkW, Int.reduceToNat, Int.reducePow] <;> omega) | (simp <;> omega))
      | (simp (disch := omega) only [wkW, Int.reduceToNat, Int.reducePow])
      | fail
theorem scan_size (n1 n2 : Bool) (s t : List Int) (x y : Int) (hls : s.length ≤ 281474976710656) (hlt : t.length ≤ 281474976710656) (hx : InR x) (hy : InR y) :
    Meets Tryz.prog 58 [.agg [.bool n1, .str s, .int .i64 x], .agg [.bool n2, .str t, .int .i64 y]] (.int .i64 (sizeV s x t y)) := by
  refine size_walk n1 n2 s t x y _ hls hlt hx hy ?_
  unfold sizeV
  by_cases h1 : s = [48]
  · by_cases h2 : t = [48]
    · exact .inl ⟨h1, h2, by rw [if_pos h1, if_pos h2]⟩
    · exact .inr (.inl ⟨h1, h2, by rw [if_pos h1, if_neg h2]⟩)
  · rw [if_neg h1]
    by_cases h2 : t = [48]
    · exact .inr (.inr (.inl ⟨h1, h2, if_pos h2⟩))
    · rw [if_neg h2]
      by_cases h3 : x + s.length < y + t.length
      · exact .inr (.inr (.inr (.inl ⟨h1, h2, h3, if_pos h3⟩)))
      · rw [if_neg h3]
        by_cases h4 : y + t.length < x + s.length
        · exact .inr (.inr (.inr (.inr (.inl ⟨h1, h2, h4, if_pos h4⟩))))
        · exact .inr (.inr (.inr (.inr (.inr ⟨h1, h2, by omega, if_neg h4⟩))))

theorem size_rdec {s t : List Int} {x y : Int} (h1 : NormalD s x) (h2 : NormalD t y) :
    (sizeV s x t y = 0 ∧ rdec (num 10 s) x = rdec (num 10 t) y) ∨ (sizeV s x t y = -1 ∧ rdec (num 10 s) x ≤ rdec (num 10 t) y) ∨ (sizeV s x t y = 1 ∧ rdec (num 10 t) y ≤ rdec (num 10 s) x) := by
  obtain ⟨ad, ane, -, a0, aends⟩ := normal_iff.1 h1
  obtain ⟨bd, bne, -, b0, bends⟩ := normal_iff.1 h2
  unfold sizeV
  by_cases e1 : s = [48]
  · rw [if_pos e1]
    subst e1
    rw [num_zero, rdec_zero]
    by_cases e2 : t = [48]
    · rw [if_pos e2]
      subst e2
      exact .inl ⟨rfl, by rw [num_zero, rdec_zero]⟩
    · rw [if_neg e2]
      exact .inr (.inl ⟨rfl, Nat.zero_le _⟩)
  · rw [if_neg e1]
    by_cases e2 : t = [48]
    · rw [if_pos e2]
      subst e2
      rw [num_zero, rdec_zero]
      exact .inr (.inr ⟨rfl, Nat.zero_le _⟩)
    · rw [if_neg e2]
      have top : ∀ {s t : List Int} {x y : Int}, AllD s → AllD t → t ≠ [] → t.getD 0 0 ≠ 48 → x + s.length < y + t.length → rdec (num 10 s) x ≤ rdec (num 10 t) y := fun {s t x y} hs ht hne h0 h => by
        have l1 := num_digs_lt (digs_all hs)
        have l2 := num_low ht h0 hne
        have hp := List.length_pos_iff.2 hne
        refine rdec_mono ?_
        calc num 10 s * 10 ^ x.toNat * 10 ^ (-y).toNat ≤ 10 ^ s.length * 10 ^ x.toNat * 10 ^ (-y).toNat := Nat.mul_le_mul_right _ (Nat.mul_le_mul_right _ (Nat.le_of_lt l1))
          _ = 10 ^ (s.length + x.toNat + (-y).toNat) := by rw [Nat.pow_add, Nat.pow_add]
          _ ≤ 10 ^ (t.length - 1 + y.toNat + (-x).toNat) := Nat.pow_le_pow_right (by decide) (by omega)
          _ = 10 ^ (t.length - 1) * 10 ^ y.toNat * 10 ^ (-x).toNat := by rw [Nat.pow_add, Nat.pow_add]
          _ ≤ num 10 t * 10 ^ y.toNat * 10 ^ (-x).toNat := Nat.mul_le_mul_right _ (Nat.mul_le_mul_right _ l2)
      by_cases h3 : x + s.length < y + t.length
      · rw [if_pos h3]
        exact .inr (.inl ⟨rfl, top ad bd bne (bends e2).1 h3⟩)
      · rw [if_neg h3]
        by_cases h4 : y + t.length < x + s.length
        · rw [if_pos h4]
          exact .inr (.inr ⟨rfl, top bd ad ane (aends e1).1 h4⟩)
        · rw [if_neg h4]
          have sc : ∀ (v : Nat) (z : Int) (j : Nat), rdec v z = rdec (v * 10 ^ j) (z - j) := fun v z j => by
            rw [rdec_scale]
            congr 1
            omega
          rw [sc (num 10 s) x (max s.length t.length - s.length), sc (num 10 t) y (max s.length t.length - t.length)]
          have ez : x - ((max s.length t.length - s.length : Nat) : Int) = y - ((max s.length t.length - t.length : Nat) : Int) := by omega
          rw [ez]
          rcases lex_num s t (max s.length t.length) (digs_all ad) (digs_all bd) (Nat.le_max_left ..) (Nat.le_max_right ..) (.inr (aends e1).2) (.inr (bends e2).2) with ⟨h, rfl⟩ | ⟨h, g⟩ | ⟨h, g⟩
          · exact .inl ⟨h, rfl⟩
          · exact .inr (.inl ⟨h, rdec_mono' (Nat.le_of_lt g) _⟩)
          · exact .inr (.inr ⟨h, rdec_mono' (Nat.le_of_lt g) _⟩)
end Go.Proofs.YtbmhnjghpjkjpaaGreatDoor
set_option maxHeartbeats 4000000
set_option maxRecDepth 4000
set_option exponentiation.threshold 300000
set_option linter.unusedVariables false
set_option linter.unusedSimpArgs false
namespace Go.Proofs.YtbmhnjghpjkjpaaGreatDoor
open Go Go.PV

def leS (n : Bool) (A : Nat) (m : Bool) (B : Nat) : Prop := (n = false ∧ m = false ∧ A ≤ B) ∨ (n = true ∧ m = true ∧ B ≤ A) ∨ (n = true ∧ m = false) ∨ (n = false ∧ m = true ∧ A = 0 ∧ B = 0)
def CmpI (c : Int) (n : Bool) (A : Nat) (m : Bool) (B : Nat) : Prop := (c = 0 ∧ A = B ∧ (n = m ∨ A = 0)) ∨ (c = -1 ∧ leS n A m B) ∨ (c = 1 ∧ leS m B n A)

theorem cmp_walk (n1 n2 : Bool) (a b s t : List Int) (x y u v c r : Int) (hc : IntKind.wrap .i64 (0 - c) = 0 - c) (h1 : Meets Tryz.prog 25 [.agg [.bool n1, .str a, .int .i64 x]] (.tup [.agg [.bool n1, .str s, .int .i64 u], .int .i64 0]))
    (h2 : Meets Tryz.prog 25 [.agg [.bool n2, .str b, .int .i64 y]] (.tup [.agg [.bool n2, .str t, .int .i64 v], .int .i64 0])) (h3 : Meets Tryz.prog 58 [.agg [.bool n1, .str s, .int .i64 u], .agg [.bool n2, .str t, .int .i64 v]] (.int .i64 c))
    (h : (s = [48] ∧ t = [48] ∧ r = 0) ∨ (s = [48] ∧ t ≠ [48] ∧ n2 = false ∧ r = c) ∨ (s = [48] ∧ t ≠ [48] ∧ n1 = false ∧ n2 = true ∧ r = 1) ∨ (s = [48] ∧ t ≠ [48] ∧ n1 = true ∧ n2 = true ∧ r = 0 - c) ∨ (s ≠ [48] ∧ t = [48] ∧ n1 = false ∧ r = c) ∨ (s ≠ [48] ∧ t = [48] ∧ n1 = true ∧ n2 = false ∧ r = -1) ∨ (s ≠ [48] ∧ t = [48] ∧ n1 = true ∧ n2 = true ∧ r = 0 - c) ∨
      (s ≠ [48] ∧ t ≠ [48] ∧ n1 = true ∧ n2 = true ∧ r = 0 - c) ∨ (s ≠ [48] ∧ t ≠ [48] ∧ n1 = true ∧ n2 = false ∧ r = -1) ∨ (s ≠ [48] ∧ t ≠ [48] ∧ n1 = false ∧ n2 = true ∧ r = 1) ∨ (s ≠ [48] ∧ t ≠ [48] ∧ n1 = false ∧ n2 = false ∧ r = c)) :
    Meets Tryz.prog 26 [.agg [.bool n1, .str a, .int .i64 x], .agg [.bool n2, .str b, .int .i64 y]] (.tup [.int .i64 r, .int .i64 0]) := by
  rcases h with ⟨e1, e2, rfl⟩ | ⟨e1, e2, rfl, rfl⟩ | ⟨e1, e2, rfl, rfl, rfl⟩ | ⟨e1, e2, rfl, rfl, rfl⟩ | ⟨e1, e2, rfl, rfl⟩ | ⟨e1, e2, rfl, rfl, rfl⟩ | ⟨e1, e2, rfl, rfl, rfl⟩ | ⟨e1, e2, rfl, rfl, rfl⟩ | ⟨e1, e2, rfl, rfl, rfl⟩ | ⟨e1, e2, rfl, rfl, rfl⟩ | ⟨e1, e2, rfl, rfl, rfl⟩
  case' inr.inl => cases n1
  case' inr.inr.inr.inr.inl => cases n2
  all_goals first
    | (have d1 : decide (s = [48]) = true := decide_eq_true e1)
    | (have d1 : decide (s = [48]) = false := decide_eq_false e1)
  all_goals first
    | (have d2 : decide (t = [48]) = true := decide_eq_true e2)
    | (have d2 : decide (t = [48]) = false := decide_eq_false e2)
  all_goals (refine meets_by ttOk Tryz.func26 Tryz.ntmps26 Tryz.results26 (by kernel_rfl) (c := _) rfl rfl rfl fun E => ?_; simp only [argsFrame])
  all_goals
    repeat' first
      | (with_reducible first | refine PW.seq ?_ | refine PW.block ?_ | refine PW.fork ?_ | refine PW.skip ?_ | refine PW.exit ?_ | refine PW.ret ?_ | refine PW.scope ?_ | refine PW.label ?_ | refine PW.goto ?_)
      | (simp only [d1, d2, hc, Bool.not_true, Bool.not_false])
      | (with_reducible refine PW.region ttOk ?_ ?_
         · rfl)
      | (with_reducible refine PW.regionD ttOk mixed ?_ ?_ ?_
         · rfl
         · rfl)
      | (with_reducible refine ifW_dec (fun g => ?_) (fun g => ?_) <;> first | (exfalso; omega) | (simp -dsimp only [g, wkI]))
      | (with_reducible refine condE_dec (fun g => ?_) (fun g => ?_) <;> try (exfalso; omega))
      | (with_reducible refine condE_not (fun g => ?_) (fun g => ?_) <;> try (exfalso; omega))
      | (simp -dsimp only [↓wkA, ↓wkE, ↓wkJ, wkB, ↓tt, Nat.reduceBEq, Nat.reduceEqDiff, ↓reduceIte, Nat.reduceLT, Array.toList, Nat.reduceAdd, Nat.reduceMul, Int.reduceToNat, Int.reducePow, UInt8.reduceToNat])
      | (refine call_by (h1) (views_data rfl) (by simp only [okViews, okView, okViews0, okView0, and_self]) rfl ?_)
      | (refine call_by (h2) (views_data rfl) (by simp only [okViews, okView, okViews0, okView0, and_self]) rfl ?_)
      | (refine call_by (h3) (views_data rfl) (by simp only [okViews, okView, okViews0, okView0, and_self]) rfl ?_)
      | (simp -dsimp (disch := first | assumption | omega) only [dec_t, dec_f])
      | (refine And.intro ?_ ?_
         · first | omega | decide | (simp (disch := omega) only [wkW, Int.reduceToNat, Int.reducePow] <;> omega) | (simp <;> omega))
      | (simp (disch := omega) only [wkW, Int.reduceToNat, Int.reducePow])
      | fail
theorem cmp_bad (n1 n2 : Bool) (a b : List Int) (x y : Int) (e : Int) (N1 N2 : PV) (f : Int) (hN1 : ∃ n s u, N1 = .agg [.bool n, .str s, .int .i64 u]) (hN2 : ∃ n s u, N2 = .agg [.bool n, .str s, .int .i64 u]) (h : (e = 80) ∨ (e = 0 ∧ f = 80)) (h1 : Meets Tryz.prog 25 [.agg [.bool n1, .str a, .int .i64 x]] (.tup [N1, .int .i64 e]))
    (h2 : Meets Tryz.prog 25 [.agg [.bool n2, .str b, .int .i64 y]] (.tup [N2, .int .i64 f])) : Meets Tryz.prog 26 [.agg [.bool n1, .str a, .int .i64 x], .agg [.bool n2, .str b, .int .i64 y]] (.tup [.int .i64 0, .int .i64 80]) := by
  obtain ⟨m1, s1, u1, rfl⟩ := hN1
  obtain ⟨m2, s2, u2, rfl⟩ := hN2
  rcases h with rfl | ⟨rfl, rfl⟩
  all_goals (refine meets_by ttOk Tryz.func26 Tryz.ntmps26 Tryz.results26 (by kernel_rfl) (c := _) rfl rfl rfl fun E => ?_; simp only [argsFrame])
  all_goals
    repeat' first
      | (with_reducible first | refine PW.seq ?_ | refine PW.block ?_ | refine PW.fork ?_ | refine PW.skip ?_ | refine PW.exit ?_ | refine PW.ret ?_ | refine PW.scope ?_ | refine PW.label ?_ | refine PW.goto ?_)
      | (with_reducible refine PW.region ttOk ?_ ?_
         · rfl)
      | (with_reducible refine PW.regionD ttOk mixed ?_ ?_ ?_
         · rfl
         · rfl)
      | (with_reducible refine ifW_dec (fun g => ?_) (fun g => ?_) <;> first | (exfalso; omega) | (simp -dsimp only [g, wkI]))
      | (with_reducible refine condE_dec (fun g => ?_) (fun g => ?_) <;> try (exfalso; omega))
      | (with_reducible refine condE_not (fun g => ?_) (fun g => ?_) <;> try (exfalso; omega))
      | (simp -dsimp only [↓wkA, ↓wkE, ↓wkJ, wkB, ↓tt, Nat.reduceBEq, Nat.reduceEqDiff, ↓reduceIte, Nat.reduceLT, Array.toList, Nat.reduceAdd, Nat.reduceMul, Int.reduceToNat, Int.reducePow, UInt8.reduceToNat])
      | (refine call_by (h1) (views_data rfl) (by simp only [okViews, okView, okViews0, okView0, and_self]) rfl ?_)
      | (refine call_by (h2) (views_data rfl) (by simp only [okViews, okView, okViews0, okView0, and_self]) rfl ?_)
      | (simp -dsimp (disch := first | assumption | omega) only [dec_t, dec_f])
      | (refine And.intro ?_ ?_
         · first | omega | decide | (simp (disch := omega) only [wkW, Int.reduceToNat, Int.reducePow] <;> omega) | (simp <;> omega))
      | (simp (disch := omega) only [wkW, Int.reduceToNat, Int.reducePow])
      | fail

theorem normS_zero {s : List Int} {x : Int} (hd : AllD s) : normS s = [48] ↔ num 10 s = 0 := by
  rcases norm_val (x := x) hd with ⟨h1, h2, h3⟩ | ⟨h1, j, h2, h3, h4, h5, h6, h7, h8⟩
  · exact ⟨fun _ => h1, fun _ => h2⟩
  · exact ⟨fun e => absurd (by rw [e]; rfl) h7, fun e => absurd e h1⟩
theorem scan_cmp (n1 n2 : Bool) {a b : List Int} {x y : Int} (h1 : NormOk a x) (h2 : NormOk b y) (hla : a.length ≤ 281474976710656) (hlb : b.length ≤ 281474976710656) :
    ∃ c, Meets Tryz.prog 26 [.agg [.bool n1, .str a, .int .i64 x], .agg [.bool n2, .str b, .int .i64 y]] (.tup [.int .i64 c, .int .i64 0]) ∧ CmpI c n1 (rdec (num 10 a) x) n2 (rdec (num 10 b) y) := by
  have g1 := norm_normal h1.2.2.1 h1.2.1.1 h1.2.2.2
  have g2 := norm_normal h2.2.2.1 h2.2.1.1 h2.2.2.2
  have l1 := norm_len h1.1
  have l2 := norm_len h2.1
  have hs := scan_size n1 n2 (normS a) (normS b) (normX a x) (normX b y) (by omega) (by omega) g1.1.2.1 g2.1.2.1
  have hr := size_rdec g1 g2
  rw [norm_rdec h1.2.2.1, norm_rdec h2.2.2.1] at hr
  have z1 : normS a = [48] → rdec (num 10 a) x = 0 := fun e => by rw [(normS_zero (x := x) h1.2.2.1).1 e, rdec_zero]
  have z2 : normS b = [48] → rdec (num 10 b) y = 0 := fun e => by rw [(normS_zero (x := y) h2.2.2.1).1 e, rdec_zero]
  have hw : IntKind.wrap .i64 (0 - sizeV (normS a) (normX a x) (normS b) (normX b y)) = 0 - sizeV (normS a) (normX a x) (normS b) (normX b y) := wrap_i64 (by rcases hr with ⟨h, _⟩ | ⟨h, _⟩ | ⟨h, _⟩ <;> omega)
  have W := fun r h => cmp_walk n1 n2 a b _ _ x y _ _ _ r hw (scan_norm_ok n1 h1 hla) (scan_norm_ok n2 h2 hlb) hs h
  have s1 : normS a = [48] → normS b ≠ [48] → sizeV (normS a) (normX a x) (normS b) (normX b y) = -1 := fun e1 e2 => by unfold sizeV; rw [if_pos e1, if_neg e2]
  have s2 : normS a ≠ [48] → normS b = [48] → sizeV (normS a) (normX a x) (normS b) (normX b y) = 1 := fun e1 e2 => by unfold sizeV; rw [if_neg e1, if_pos e2]
  generalize sizeV (normS a) (normX a x) (normS b) (normX b y) = c at *
  generalize rdec (num 10 a) x = A at *
  generalize rdec (num 10 b) y = B at *
  by_cases e1 : normS a = [48] <;> by_cases e2 : normS b = [48]
  · exact ⟨0, W _ (.inl ⟨e1, e2, rfl⟩), .inl ⟨rfl, by rw [z1 e1, z2 e2], .inr (z1 e1)⟩⟩
  · have hc := s1 e1 e2
    have hA := z1 e1
    cases n2 with
    | false =>
      refine ⟨c, W _ (.inr (.inl ⟨e1, e2, rfl, rfl⟩)), .inr (.inl ⟨hc, ?_⟩)⟩
      cases n1
      · exact .inl ⟨rfl, rfl, by omega⟩
      · exact .inr (.inr (.inl ⟨rfl, rfl⟩))
    | true =>
      cases n1 with
      | false => exact ⟨1, W _ (.inr (.inr (.inl ⟨e1, e2, rfl, rfl, rfl⟩))), .inr (.inr ⟨rfl, .inr (.inr (.inl ⟨rfl, rfl⟩))⟩)⟩
      | true => exact ⟨0 - c, W _ (.inr (.inr (.inr (.inl ⟨e1, e2, rfl, rfl, rfl⟩)))), .inr (.inr ⟨by omega, .inr (.inl ⟨rfl, rfl, by omega⟩)⟩)⟩
  · have hc := s2 e1 e2
    have hB := z2 e2
    cases n1 with
    | false =>
      refine ⟨c, W _ (.inr (.inr (.inr (.inr (.inl ⟨e1, e2, rfl, rfl⟩))))), .inr (.inr ⟨hc, ?_⟩)⟩
      cases n2
      · exact .inl ⟨rfl, rfl, by omega⟩
      · exact .inr (.inr (.inl ⟨rfl, rfl⟩))
    | true =>
      cases n2 with
      | false => exact ⟨-1, W _ (.inr (.inr (.inr (.inr (.inr (.inl ⟨e1, e2, rfl, rfl, rfl⟩)))))), .inr (.inl ⟨rfl, .inr (.inr (.inl ⟨rfl, rfl⟩))⟩)⟩
      | true => exact ⟨0 - c, W _ (.inr (.inr (.inr (.inr (.inr (.inr (.inl ⟨e1, e2, rfl, rfl, rfl⟩))))))), .inr (.inl ⟨by omega, .inr (.inl ⟨rfl, rfl, by omega⟩)⟩)⟩
  · cases n1 <;> cases n2
    · refine ⟨c, W _ (.inr (.inr (.inr (.inr (.inr (.inr (.inr (.inr (.inr (.inr ⟨e1, e2, rfl, rfl, rfl⟩)))))))))), ?_⟩
      rcases hr with ⟨h, g⟩ | ⟨h, g⟩ | ⟨h, g⟩
      · exact .inl ⟨h, g, .inl rfl⟩
      · exact .inr (.inl ⟨h, .inl ⟨rfl, rfl, g⟩⟩)
      · exact .inr (.inr ⟨h, .inl ⟨rfl, rfl, g⟩⟩)
    · exact ⟨1, W _ (.inr (.inr (.inr (.inr (.inr (.inr (.inr (.inr (.inr (.inl ⟨e1, e2, rfl, rfl, rfl⟩)))))))))), .inr (.inr ⟨rfl, .inr (.inr (.inl ⟨rfl, rfl⟩))⟩)⟩
    · exact ⟨-1, W _ (.inr (.inr (.inr (.inr (.inr (.inr (.inr (.inr (.inl ⟨e1, e2, rfl, rfl, rfl⟩))))))))), .inr (.inl ⟨rfl, .inr (.inr (.inl ⟨rfl, rfl⟩))⟩)⟩
    · refine ⟨0 - c, W _ (.inr (.inr (.inr (.inr (.inr (.inr (.inr (.inl ⟨e1, e2, rfl, rfl, rfl⟩)))))))), ?_⟩
      rcases hr with ⟨h, g⟩ | ⟨h, g⟩ | ⟨h, g⟩
      · exact .inl ⟨by omega, g, .inl rfl⟩
      · exact .inr (.inr ⟨by omega, .inr (.inl ⟨rfl, rfl, g⟩)⟩)
      · exact .inr (.inl ⟨by omega, .inr (.inl ⟨rfl, rfl, g⟩)⟩)

end Go.Proofs.YtbmhnjghpjkjpaaGreatDoor
set_option maxHeartbeats 4000000
set_option maxRecDepth 4000
set_option exponentiation.threshold 300000
set_option linter.unusedVariables false
set_option linter.unusedSimpArgs false
namespace Go.Proofs.YtbmhnjghpjkjpaaGreatDoor
open Go Go.PV

theorem law10_awake (res : PV) (hres : res = .bool true) : Meets Tryz.prog 24 [] res := by
  subst hres
  have h1 : Meets Tryz.prog 16 [.str [32, 48, 46, 49, 120]] (.tup [.int .u64 4591870180066957722, .int .i64 4]) := parse_at _ 4591870180066957722 4 (by decide) (by decide +kernel) (by decide +kernel) (by decide +kernel)
  have hn : NormOk [49, 50] (-1) := ⟨by decide, ⟨by decide, by decide⟩, fun j hj => by
    match j, hj with
    | 0, _ => decide
    | 1, _ => decide
    | j + 2, h => simp at h; omega, by decide +kernel⟩
  have e1 : rdec (num 10 [49, 50]) (-1) = 4608083138725491507 := by decide +kernel
  have h2 : Meets Tryz.prog 20 [.agg [.bool true, .str [49, 50], .int .i64 (-1)]] (.tup [.int .u64 13831455175580267315, .int .i64 0]) := by
    have := strtod_exact true hn (by decide)
    unfold dblV at this
    rw [e1] at this
    exact this
  have h3 : Meets Tryz.prog 21 [.agg [.bool false, .str [49, 50], .int .i64 (-1)]] (.tup [.int .u64 4608083138725491507, .int .i64 0]) := by
    have := strtod_double false hn (by decide)
    unfold dblV at this
    rw [e1] at this
    exact this
  have h4 := road_x
  have h5 := road_12
  refine meets_by ttOk Tryz.func24 Tryz.ntmps24 Tryz.results24 (by kernel_rfl) (c := _) rfl rfl rfl fun E => ?_
  simp only [argsFrame]
  repeat' first
    | (with_reducible first | refine PW.seq ?_ | refine PW.block ?_ | refine PW.fork ?_ | refine PW.skip ?_ | refine PW.exit ?_ | refine PW.ret ?_ | refine PW.scope ?_ | refine PW.label ?_ | refine PW.goto ?_)
    | (with_reducible refine PW.region ttOk ?_ ?_
       · rfl)
    | (with_reducible refine PW.regionD ttOk mixed ?_ ?_ ?_
       · rfl
       · rfl)
    | (with_reducible refine ifW_dec (fun g => ?_) (fun g => ?_) <;> first | (exfalso; omega) | (simp -dsimp only [g, wkI]))
    | (with_reducible refine condE_dec (fun g => ?_) (fun g => ?_) <;> try (exfalso; omega))
    | (with_reducible refine condE_not (fun g => ?_) (fun g => ?_) <;> try (exfalso; omega))
    | (simp -dsimp only [↓wkA, ↓wkE, ↓wkJ, wkB, ↓tt, Nat.reduceBEq, Nat.reduceEqDiff, ↓reduceIte, Nat.reduceLT, Array.toList, Nat.reduceAdd, Nat.reduceMul, Int.reduceToNat, Int.reducePow, UInt8.reduceToNat])
    | (refine call_by (h1) (views_data rfl) ⟨trivial, trivial⟩ rfl ?_)
    | (refine call_by (h2) (views_data rfl) (by simp only [okViews, okView, okViews0, okView0, and_self]) rfl ?_)
    | (refine call_by (h3) (views_data rfl) (by simp only [okViews, okView, okViews0, okView0, and_self]) rfl ?_)
    | (refine call_by (h4) (views_data rfl) ⟨trivial, trivial⟩ rfl ?_)
    | (refine call_by (h5) (views_data rfl) ⟨trivial, trivial⟩ rfl ?_)
    | (simp -dsimp (disch := first | assumption | omega) only [dec_t, dec_f])
    | (refine And.intro ?_ ?_
       · first | omega | decide | (simp (disch := omega) only [wkW, Int.reduceToNat, Int.reducePow] <;> omega) | (simp <;> omega))
    | (simp (disch := omega) only [wkW, Int.reduceToNat, Int.reducePow])
    | fail

end Go.Proofs.YtbmhnjghpjkjpaaGreatDoor
set_option maxHeartbeats 4000000
set_option maxRecDepth 4000
set_option exponentiation.threshold 300000
set_option linter.unusedVariables false
set_option linter.unusedSimpArgs false
namespace Go.Proofs.YtbmhnjghpjkjpaaGreatDoor
open Go Go.PV

theorem signed_lt {n : Bool} {A : Nat} (hA : A ≤ 9218868437227405312) : signed n A < 18446744073709551616 := by
  cases n
  · rw [signed_f]; omega
  · rw [signed_t]; omega
theorem absD_signed {n : Bool} {A : Nat} (hA : A ≤ 9218868437227405312) : absD (signed n A) = A := by
  unfold absD
  cases n
  · rw [signed_f]; omega
  · rw [signed_t]; omega
def rankV (n : Bool) (A : Nat) : Int := if n then -(A : Int) else A
theorem ieee_rank {n : Bool} {A : Nat} (hA : A ≤ 9218868437227405312) : Meets Tryz.prog 82 [.int .u64 (signed n A : Int)] (.tup [.int .i64 (rankV n A), .bool true]) := by
  have h1 := ieee_abs (signed n A) (signed_lt hA)
  rw [absD_signed hA] at h1
  have h2 := and_sign (signed_lt (n := n) hA)
  have w1 : IntKind.wrap .i64 (A : Int) = A := wrap_i64 (by omega)
  have w2 : IntKind.wrap .i64 (0 - (A : Int)) = -(A : Int) := by rw [show (0 : Int) - A = -A by omega]; exact wrap_i64 (by omega)
  have d1 : decide (9218868437227405312 < (A : Int)) = false := decide_eq_false (by omega)
  unfold rankV
  cases n
  case' false => rw [if_neg (by rw [signed_f]; omega)] at h2
  case' true => rw [if_pos (by rw [signed_t]; omega)] at h2
  all_goals generalize ((signed _ A : Nat) : Int) = D at *
  all_goals (refine meets_by ttOk Tryz.func82 Tryz.ntmps82 Tryz.results82 (by kernel_rfl) (c := _) rfl rfl rfl fun E => ?_; simp only [argsFrame])
  all_goals
    repeat' first
      | (with_reducible first | refine PW.seq ?_ | refine PW.block ?_ | refine PW.fork ?_ | refine PW.skip ?_ | refine PW.exit ?_ | refine PW.ret ?_ | refine PW.scope ?_ | refine PW.label ?_ | refine PW.goto ?_)
      | (simp only [h2, w1, w2, d1])
      | (with_reducible refine PW.region ttOk ?_ ?_
         · rfl)
      | (with_reducible refine PW.regionD ttOk mixed ?_ ?_ ?_
         · rfl
         · rfl)
      | (with_reducible refine ifW_dec (fun g => ?_) (fun g => ?_) <;> first | (exfalso; omega) | (simp -dsimp only [g, wkI]))
      | (with_reducible refine condE_dec (fun g => ?_) (fun g => ?_) <;> try (exfalso; omega))
      | (with_reducible refine condE_not (fun g => ?_) (fun g => ?_) <;> try (exfalso; omega))
      | (simp -dsimp only [↓wkA, ↓wkE, ↓wkJ, wkB, ↓tt, Nat.reduceBEq, Nat.reduceEqDiff, ↓reduceIte, Nat.reduceLT, Array.toList, Nat.reduceAdd, Nat.reduceMul, Int.reduceToNat, Int.reducePow, UInt8.reduceToNat])
      | (refine call_by (h1) (views_data rfl) ⟨trivial, trivial⟩ rfl ?_)
      | (simp -dsimp (disch := first | assumption | omega) only [dec_t, dec_f])
      | (refine And.intro ?_ ?_
         · first | omega | decide | (simp (disch := omega) only [wkW, Int.reduceToNat, Int.reducePow] <;> omega) | (simp <;> omega))
      | (simp (disch := omega) only [wkW, Int.reduceToNat, Int.reducePow])
      | fail
  all_goals rfl
def ordV (x y : Int) : Int := if x < y then -1 else if y < x then 1 else 0
theorem ieee_order (x y : Int) : Meets Tryz.prog 83 [.int .i64 x, .int .i64 y] (.int .i64 (ordV x y)) := by
  unfold ordV
  by_cases h1 : x < y
  · rw [if_pos h1]
    have d1 : decide (x < y) = true := decide_eq_true h1
    refine meets_by ttOk Tryz.func83 Tryz.ntmps83 Tryz.results83 (by kernel_rfl) (c := _) rfl rfl rfl fun E => ?_
    simp only [argsFrame]
    repeat' first
      | (with_reducible first | refine PW.seq ?_ | refine PW.block ?_ | refine PW.fork ?_ | refine PW.skip ?_ | refine PW.exit ?_ | refine PW.ret ?_ | refine PW.scope ?_ | refine PW.label ?_ | refine PW.goto ?_)
      | (simp only [d1])
      | (with_reducible refine PW.region ttOk ?_ ?_
         · rfl)
      | (with_reducible refine PW.regionD ttOk mixed ?_ ?_ ?_
         · rfl
         · rfl)
      | (with_reducible refine ifW_dec (fun g => ?_) (fun g => ?_) <;> first | (exfalso; omega) | (simp -dsimp only [g, wkI]))
      | (with_reducible refine condE_dec (fun g => ?_) (fun g => ?_) <;> try (exfalso; omega))
      | (with_reducible refine condE_not (fun g => ?_) (fun g => ?_) <;> try (exfalso; omega))
      | (simp -dsimp only [↓wkA, ↓wkE, ↓wkJ, wkB, ↓tt, Nat.reduceBEq, Nat.reduceEqDiff, ↓reduceIte, Nat.reduceLT, Array.toList, Nat.reduceAdd, Nat.reduceMul, Int.reduceToNat, Int.reducePow, UInt8.reduceToNat])
      | (simp -dsimp (disch := first | assumption | omega) only [dec_t, dec_f])
      | (refine And.intro ?_ ?_
         · first | omega | decide | (simp (disch := omega) only [wkW, Int.reduceToNat, Int.reducePow] <;> omega) | (simp <;> omega))
      | (simp (disch := omega) only [wkW, Int.reduceToNat, Int.reducePow])
      | fail
  · rw [if_neg h1]
    have d1 : decide (x < y) = false := decide_eq_false h1
    by_cases h2 : y < x
    · rw [if_pos h2]
      have d2 : decide (y < x) = true := decide_eq_true h2
      refine meets_by ttOk Tryz.func83 Tryz.ntmps83 Tryz.results83 (by kernel_rfl) (c := _) rfl rfl rfl fun E => ?_
      simp only [argsFrame]
      repeat' first
        | (with_reducible first | refine PW.seq ?_ | refine PW.block ?_ | refine PW.fork ?_ | refine PW.skip ?_ | refine PW.exit ?_ | refine PW.ret ?_ | refine PW.scope ?_ | refine PW.label ?_ | refine PW.goto ?_)
        | (simp only [d1, d2])
        | (with_reducible refine PW.region ttOk ?_ ?_
           · rfl)
        | (with_reducible refine PW.regionD ttOk mixed ?_ ?_ ?_
           · rfl
           · rfl)
        | (with_reducible refine ifW_dec (fun g => ?_) (fun g => ?_) <;> first | (exfalso; omega) | (simp -dsimp only [g, wkI]))
        | (with_reducible refine condE_dec (fun g => ?_) (fun g => ?_) <;> try (exfalso; omega))
        | (with_reducible refine condE_not (fun g => ?_) (fun g => ?_) <;> try (exfalso; omega))
        | (simp -dsimp only [↓wkA, ↓wkE, ↓wkJ, wkB, ↓tt, Nat.reduceBEq, Nat.reduceEqDiff, ↓reduceIte, Nat.reduceLT, Array.toList, Nat.reduceAdd, Nat.reduceMul, Int.reduceToNat, Int.reducePow, UInt8.reduceToNat])
        | (simp -dsimp (disch := first | assumption | omega) only [dec_t, dec_f])
        | (refine And.intro ?_ ?_
           · first | omega | decide | (simp (disch := omega) only [wkW, Int.reduceToNat, Int.reducePow] <;> omega) | (simp <;> omega))
        | (simp (disch := omega) only [wkW, Int.reduceToNat, Int.reducePow])
        | fail
    · rw [if_neg h2]
      have d2 : decide (y < x) = false := decide_eq_false h2
      refine meets_by ttOk Tryz.func83 Tryz.ntmps83 Tryz.results83 (by kernel_rfl) (c := _) rfl rfl rfl fun E => ?_
      simp only [argsFrame]
      repeat' first
        | (with_reducible first | refine PW.seq ?_ | refine PW.block ?_ | refine PW.fork ?_ | refine PW.skip ?_ | refine PW.exit ?_ | refine PW.ret ?_ | refine PW.scope ?_ | refine PW.label ?_ | refine PW.goto ?_)
        | (simp only [d1, d2])
        | (with_reducible refine PW.region ttOk ?_ ?_
           · rfl)
        | (with_reducible refine PW.regionD ttOk mixed ?_ ?_ ?_
           · rfl
           · rfl)
        | (with_reducible refine ifW_dec (fun g => ?_) (fun g => ?_) <;> first | (exfalso; omega) | (simp -dsimp only [g, wkI]))
        | (with_reducible refine condE_dec (fun g => ?_) (fun g => ?_) <;> try (exfalso; omega))
        | (with_reducible refine condE_not (fun g => ?_) (fun g => ?_) <;> try (exfalso; omega))
        | (simp -dsimp only [↓wkA, ↓wkE, ↓wkJ, wkB, ↓tt, Nat.reduceBEq, Nat.reduceEqDiff, ↓reduceIte, Nat.reduceLT, Array.toList, Nat.reduceAdd, Nat.reduceMul, Int.reduceToNat, Int.reducePow, UInt8.reduceToNat])
        | (simp -dsimp (disch := first | assumption | omega) only [dec_t, dec_f])
        | (refine And.intro ?_ ?_
           · first | omega | decide | (simp (disch := omega) only [wkW, Int.reduceToNat, Int.reducePow] <;> omega) | (simp <;> omega))
        | (simp (disch := omega) only [wkW, Int.reduceToNat, Int.reducePow])
        | fail
theorem ieee_compare {n m : Bool} {A B : Nat} (hA : A ≤ 9218868437227405312) (hB : B ≤ 9218868437227405312) : Meets Tryz.prog 42 [.int .u64 (signed n A : Int), .int .u64 (signed m B : Int)] (.tup [.int .i64 (ordV (rankV n A) (rankV m B)), .bool true]) := by
  have h1 := ieee_rank (n := n) hA
  have h2 := ieee_rank (n := m) hB
  have h3 := ieee_order (rankV n A) (rankV m B)
  generalize ((signed n A : Nat) : Int) = D at *
  generalize ((signed m B : Nat) : Int) = G at *
  generalize rankV n A = a at *
  generalize rankV m B = b at *
  refine meets_by ttOk Tryz.func42 Tryz.ntmps42 Tryz.results42 (by kernel_rfl) (c := _) rfl rfl rfl fun E => ?_
  simp only [argsFrame]
  repeat' first
    | (with_reducible first | refine PW.seq ?_ | refine PW.block ?_ | refine PW.fork ?_ | refine PW.skip ?_ | refine PW.exit ?_ | refine PW.ret ?_ | refine PW.scope ?_ | refine PW.label ?_ | refine PW.goto ?_)
    | (with_reducible refine PW.region ttOk ?_ ?_
       · rfl)
    | (with_reducible refine PW.regionD ttOk mixed ?_ ?_ ?_
       · rfl
       · rfl)
    | (with_reducible refine ifW_dec (fun g => ?_) (fun g => ?_) <;> first | (exfalso; omega) | (simp -dsimp only [g, wkI]))
    | (with_reducible refine condE_dec (fun g => ?_) (fun g => ?_) <;> try (exfalso; omega))
    | (with_reducible refine condE_not (fun g => ?_) (fun g => ?_) <;> try (exfalso; omega))
    | (simp -dsimp only [↓wkA, ↓wkE, ↓wkJ, wkB, ↓tt, Nat.reduceBEq, Nat.reduceEqDiff, ↓reduceIte, Nat.reduceLT, Array.toList, Nat.reduceAdd, Nat.reduceMul, Int.reduceToNat, Int.reducePow, UInt8.reduceToNat])
    | (refine call_by (h1) (views_data rfl) ⟨trivial, trivial⟩ rfl ?_)
    | (refine call_by (h2) (views_data rfl) ⟨trivial, trivial⟩ rfl ?_)
    | (refine call_by (h3) (views_data rfl) ⟨trivial, trivial, trivial⟩ rfl ?_)
    | (simp -dsimp (disch := first | assumption | omega) only [dec_t, dec_f])
    | (refine And.intro ?_ ?_
       · first | omega | decide | (simp (disch := omega) only [wkW, Int.reduceToNat, Int.reducePow] <;> omega) | (simp <;> omega))
    | (simp (disch := omega) only [wkW, Int.reduceToNat, Int.reducePow])
    | fail
theorem rank_le {n m : Bool} {A B : Nat} (h : leS n A m B) : rankV n A ≤ rankV m B := by
  unfold rankV
  rcases h with ⟨rfl, rfl, h⟩ | ⟨rfl, rfl, h⟩ | ⟨rfl, rfl⟩ | ⟨rfl, rfl, rfl, rfl⟩ <;> simp <;> omega

theorem lits : decide ((-1 : Int) = 0) = false ∧ decide ((0 : Int) = 0) = true ∧ decide ((1 : Int) = 0) = false ∧ decide ((0 : Int) ≤ -1) = false ∧ decide ((0 : Int) ≤ 0) = true ∧ decide ((0 : Int) ≤ 1) = true ∧ decide ((-1 : Int) ≤ 0) = true ∧ decide ((1 : Int) ≤ 0) = false := by decide
theorem rising_walk (n1 n2 : Bool) (a b : List Int) (x y c r D G : Int) (h : (c = 0 ∧ r = 0) ∨ (c = -1 ∧ r = -1) ∨ (c = -1 ∧ r = 0) ∨ (c = 1 ∧ r = 1) ∨ (c = 1 ∧ r = 0)) (h1 : Meets Tryz.prog 26 [.agg [.bool n1, .str a, .int .i64 x], .agg [.bool n2, .str b, .int .i64 y]] (.tup [.int .i64 c, .int .i64 0]))
    (h2 : Meets Tryz.prog 20 [.agg [.bool n1, .str a, .int .i64 x]] (.tup [.int .u64 D, .int .i64 0])) (h3 : Meets Tryz.prog 20 [.agg [.bool n2, .str b, .int .i64 y]] (.tup [.int .u64 G, .int .i64 0])) (h4 : Meets Tryz.prog 42 [.int .u64 D, .int .u64 G] (.tup [.int .i64 r, .bool true])) :
    Meets Tryz.prog 13 [.agg [.bool n1, .str a, .int .i64 x], .agg [.bool n2, .str b, .int .i64 y]] (.bool true) := by
  have r0 := law10_awake _ rfl
  rcases h with ⟨rfl, rfl⟩ | ⟨rfl, rfl⟩ | ⟨rfl, rfl⟩ | ⟨rfl, rfl⟩ | ⟨rfl, rfl⟩
  all_goals (refine meets_by ttOk Tryz.func13 Tryz.ntmps13 Tryz.results13 (by kernel_rfl) (c := _) rfl rfl rfl fun E => ?_; simp only [argsFrame])
  all_goals
    repeat' first
      | (with_reducible first | refine PW.seq ?_ | refine PW.block ?_ | refine PW.fork ?_ | refine PW.skip ?_ | refine PW.exit ?_ | refine PW.ret ?_ | refine PW.scope ?_ | refine PW.label ?_ | refine PW.goto ?_)
      | (simp only [lits])
      | (with_reducible refine PW.region ttOk ?_ ?_
         · rfl)
      | (with_reducible refine PW.regionD ttOk mixed ?_ ?_ ?_
         · rfl
         · rfl)
      | (with_reducible refine ifW_dec (fun g => ?_) (fun g => ?_) <;> first | (exfalso; omega) | (simp -dsimp only [g, wkI]))
      | (with_reducible refine condE_dec (fun g => ?_) (fun g => ?_) <;> try (exfalso; omega))
      | (with_reducible refine condE_not (fun g => ?_) (fun g => ?_) <;> try (exfalso; omega))
      | (simp -dsimp only [↓wkA, ↓wkE, ↓wkJ, wkB, ↓tt, Nat.reduceBEq, Nat.reduceEqDiff, ↓reduceIte, Nat.reduceLT, Array.toList, Nat.reduceAdd, Nat.reduceMul, Int.reduceToNat, Int.reducePow, UInt8.reduceToNat])
      | (refine call_by (r0) (views_data rfl) trivial rfl ?_)
      | (refine call_by (h1) (views_data rfl) (by simp only [okViews, okView, okViews0, okView0, and_self]) rfl ?_)
      | (refine call_by (h2) (views_data rfl) (by simp only [okViews, okView, okViews0, okView0, and_self]) rfl ?_)
      | (refine call_by (h3) (views_data rfl) (by simp only [okViews, okView, okViews0, okView0, and_self]) rfl ?_)
      | (refine call_by (h4) (views_data rfl) ⟨trivial, trivial, trivial⟩ rfl ?_)
      | (simp -dsimp (disch := first | assumption | omega) only [dec_t, dec_f])
      | (refine And.intro ?_ ?_
         · first | omega | decide | (simp (disch := omega) only [wkW, Int.reduceToNat, Int.reducePow] <;> omega) | (simp <;> omega))
      | (simp (disch := omega) only [wkW, Int.reduceToNat, Int.reducePow])
      | fail
theorem rising_bad (n1 n2 : Bool) (a b : List Int) (x y D G f g : Int) (h : f = 80 ∨ (f = 0 ∧ g = 80)) (h1 : Meets Tryz.prog 26 [.agg [.bool n1, .str a, .int .i64 x], .agg [.bool n2, .str b, .int .i64 y]] (.tup [.int .i64 0, .int .i64 80]))
    (h2 : Meets Tryz.prog 20 [.agg [.bool n1, .str a, .int .i64 x]] (.tup [.int .u64 D, .int .i64 f])) (h3 : Meets Tryz.prog 20 [.agg [.bool n2, .str b, .int .i64 y]] (.tup [.int .u64 G, .int .i64 g])) :
    Meets Tryz.prog 13 [.agg [.bool n1, .str a, .int .i64 x], .agg [.bool n2, .str b, .int .i64 y]] (.bool true) := by
  have r0 := law10_awake _ rfl
  rcases h with rfl | ⟨rfl, rfl⟩
  all_goals (refine meets_by ttOk Tryz.func13 Tryz.ntmps13 Tryz.results13 (by kernel_rfl) (c := _) rfl rfl rfl fun E => ?_; simp only [argsFrame])
  all_goals
    repeat' first
      | (with_reducible first | refine PW.seq ?_ | refine PW.block ?_ | refine PW.fork ?_ | refine PW.skip ?_ | refine PW.exit ?_ | refine PW.ret ?_ | refine PW.scope ?_ | refine PW.label ?_ | refine PW.goto ?_)
      | (with_reducible refine PW.region ttOk ?_ ?_
         · rfl)
      | (with_reducible refine PW.regionD ttOk mixed ?_ ?_ ?_
         · rfl
         · rfl)
      | (with_reducible refine ifW_dec (fun g => ?_) (fun g => ?_) <;> first | (exfalso; omega) | (simp -dsimp only [g, wkI]))
      | (with_reducible refine condE_dec (fun g => ?_) (fun g => ?_) <;> try (exfalso; omega))
      | (with_reducible refine condE_not (fun g => ?_) (fun g => ?_) <;> try (exfalso; omega))
      | (simp -dsimp only [↓wkA, ↓wkE, ↓wkJ, wkB, ↓tt, Nat.reduceBEq, Nat.reduceEqDiff, ↓reduceIte, Nat.reduceLT, Array.toList, Nat.reduceAdd, Nat.reduceMul, Int.reduceToNat, Int.reducePow, UInt8.reduceToNat])
      | (refine call_by (r0) (views_data rfl) trivial rfl ?_)
      | (refine call_by (h1) (views_data rfl) (by simp only [okViews, okView, okViews0, okView0, and_self]) rfl ?_)
      | (refine call_by (h2) (views_data rfl) (by simp only [okViews, okView, okViews0, okView0, and_self]) rfl ?_)
      | (refine call_by (h3) (views_data rfl) (by simp only [okViews, okView, okViews0, okView0, and_self]) rfl ?_)
      | (simp -dsimp (disch := first | assumption | omega) only [dec_t, dec_f])
      | (refine And.intro ?_ ?_
         · first | omega | decide | (simp (disch := omega) only [wkW, Int.reduceToNat, Int.reducePow] <;> omega) | (simp <;> omega))
      | (simp (disch := omega) only [wkW, Int.reduceToNat, Int.reducePow])
      | fail
theorem strtod_rising (n1 n2 : Bool) (a b : List Int) (x y : Int) (hla : a.length ≤ 281474976710656) (hlb : b.length ≤ 281474976710656) : Meets Tryz.prog 13 [.agg [.bool n1, .str a, .int .i64 x], .agg [.bool n2, .str b, .int .i64 y]] (.bool true) := by
  by_cases h1 : NormOk a x
  · by_cases h2 : NormOk b y
    · obtain ⟨c, h3, hc⟩ := scan_cmp n1 n2 h1 h2 hla hlb
      refine rising_walk n1 n2 a b x y c _ _ _ ?_ h3 (strtod_exact n1 h1 hla) (strtod_exact n2 h2 hlb) (ieee_compare (rdec_le _ _) (rdec_le _ _))
      generalize rdec (num 10 a) x = A at *
      generalize rdec (num 10 b) y = B at *
      unfold ordV
      rcases hc with ⟨rfl, rfl, h⟩ | ⟨rfl, h⟩ | ⟨rfl, h⟩
      · refine .inl ⟨rfl, ?_⟩
        have : rankV n1 A = rankV n2 A := by
          rcases h with rfl | rfl
          · rfl
          · unfold rankV; simp
        rw [if_neg (by omega), if_neg (by omega)]
      · have := rank_le h
        split
        · exact .inr (.inl ⟨rfl, rfl⟩)
        · rw [if_neg (by omega)]
          exact .inr (.inr (.inl ⟨rfl, rfl⟩))
      · have := rank_le h
        rw [if_neg (by omega)]
        split
        · exact .inr (.inr (.inr (.inl ⟨rfl, rfl⟩)))
        · exact .inr (.inr (.inr (.inr ⟨rfl, rfl⟩)))
    · exact rising_bad n1 n2 a b x y _ _ 0 80 (.inr ⟨rfl, rfl⟩) (cmp_bad n1 n2 a b x y 0 _ _ 80 ⟨_, _, _, rfl⟩ ⟨_, _, _, rfl⟩ (.inr ⟨rfl, rfl⟩) (scan_norm_ok n1 h1 hla) (scan_norm_bad n2 h2 hlb)) (strtod_exact n1 h1 hla) (strtod_exact_bad n2 h2 hlb)
  · have hx1 := strtod_exact_bad n1 h1 hla
    have hn1 := scan_norm_bad n1 h1 hla
    by_cases h2 : NormOk b y
    · exact rising_bad n1 n2 a b x y _ _ 80 0 (.inl rfl) (cmp_bad n1 n2 a b x y 80 _ _ 0 ⟨_, _, _, rfl⟩ ⟨_, _, _, rfl⟩ (.inl rfl) hn1 (scan_norm_ok n2 h2 hlb)) hx1 (strtod_exact n2 h2 hlb)
    · exact rising_bad n1 n2 a b x y _ _ 80 80 (.inl rfl) (cmp_bad n1 n2 a b x y 80 _ _ 80 ⟨_, _, _, rfl⟩ ⟨_, _, _, rfl⟩ (.inl rfl) hn1 (scan_norm_bad n2 h2 hlb)) hx1 (strtod_exact_bad n2 h2 hlb)
end Go.Proofs.YtbmhnjghpjkjpaaGreatDoor
set_option maxHeartbeats 4000000
set_option maxRecDepth 4000
set_option exponentiation.threshold 300000
set_option linter.unusedVariables false
set_option linter.unusedSimpArgs false
namespace Go.PV
open Go Go.RowKit

theorem opened_agg {P : Program} {w : World} {H : Type} {enc : TypeId × Value → H} {held : Bool} {t : TypeId} {ss : List Shape} (h : Typed P t ss) {cs : Array Value} {d : DataW H} {pl : List MemPlace} (hd : DataW.Trod enc P w 0 (fun _ => true) held t (.agg cs) d pl) (hn : ∀ n ∈ d.weights P t, n ≤ reachBytes) :
    ∃ ps : List PV, ps.length = ss.length ∧ (∀ j, j < ss.length → Fits (ss.getD j .bool) (ps.getD j .undef)) ∧ RD w (fun _ => False) (.agg ps) (.agg cs) := by
  obtain ⟨fuel, hf⟩ := hd
  have e : (Value.agg cs).cells.toList = cs.toList := rfl
  rw [e] at hf
  obtain ⟨ps, h1, h2, h3, h4⟩ := opened h hf hn
  have hsz : cs.size = ss.length := by rw [← h2, Array.length_toList]
  refine ⟨ps, h1, h3, .agg ps cs (by omega) (fun u hu => ?_) (fun i hi => ?_)⟩
  · obtain ⟨i, hi, rfl⟩ := List.getElem_of_mem hu
    have := (h4 i (by omega)).1
    rw [List.getD_eq_getElem?_getD, List.getElem?_eq_getElem hi] at this
    exact this
  · have := (h4 i (by omega)).2
    rw [List.getD_eq_getElem?_getD (l := cs.toList), Array.getElem?_toList] at this
    rw [Array.getD_eq_getD_getElem?]
    exact this
end Go.PV
namespace Go.Proofs.YtbmhnjghpjkjpaaGreatDoor
open Go Go.PV

abbrev decS : List Shape := [.bool, .str, .int .i64]
theorem typed_dec : Typed Tryz.prog 35 decS :=
  .struct [[.bool], [.str], [.int .i64]] Tryz.underlying35 rfl (by kernel_rfl)
    (fun i f h => by
      match i, h with
      | 0, h => cases h; exact .bool (by kernel_rfl)
      | 1, h => cases h; exact .str (by kernel_rfl)
      | 2, h => cases h; exact .int (by kernel_rfl)
      | i + 3, h => simp at h)
    (fun i f h => by
      match i, h with
      | 0, h => cases h; exact ⟨rfl, by kernel_rfl⟩
      | 1, h => cases h; exact ⟨rfl, by kernel_rfl⟩
      | 2, h => cases h; exact ⟨rfl, by kernel_rfl⟩
      | i + 3, h => simp at h)
theorem fits_dec {ps : List PV} (hl : ps.length = decS.length) (hf : ∀ j, j < decS.length → Fits (decS.getD j .bool) (ps.getD j .undef)) : ∃ (neg : Bool) (s : List Int) (x : Int), PV.agg ps = .agg [.bool neg, .str s, .int .i64 x] ∧ s.length ≤ 140737488351232 ∧ (∀ c ∈ s, 0 ≤ c ∧ c < 256) ∧ (-9223372036854775808 ≤ x ∧ x ≤ 9223372036854775807) := by
  match ps, hl with
  | [p0, p1, p2], _ =>
    have h0 : Fits .bool p0 := hf 0 (by decide)
    have h1 : Fits .str p1 := hf 1 (by decide)
    have h2 : Fits (.int .i64) p2 := hf 2 (by decide)
    cases h0 with | bool neg =>
    cases h1 with | str t ht hb =>
    cases h2 with | int _ v hv =>
    exact ⟨neg, t, v, rfl, ht, hb, wf_i64 hv⟩
end Go.Proofs.YtbmhnjghpjkjpaaGreatDoor

/- Contracts and laws that the row leans on, part 11: texts that were built one by one, laid together. -/
import Derived.Laws.Externs
import Derived.Lib.Builder
import Derived.Lib.UnsafeStr
import Derived.ChangeSlices
import Derived.SizedLaws
import Derived.Test.YtbmhnjghpjkjpaaGreatDoorPart1
import Derived.Test.YtbmhnjghpjkjpaaGreatDoorPart2
import Derived.Test.YtbmhnjghpjkjpaaGreatDoorPart3
import Derived.Test.YtbmhnjghpjkjpaaGreatDoorPart4
import Derived.Test.YtbmhnjghpjkjpaaGreatDoorPart5
import Derived.Test.YtbmhnjghpjkjpaaGreatDoorPart6
import Derived.Test.YtbmhnjghpjkjpaaGreatDoorPart7
import Derived.Test.YtbmhnjghpjkjpaaGreatDoorPart8
import Derived.Test.YtbmhnjghpjkjpaaGreatDoorPart9
import Derived.Test.YtbmhnjghpjkjpaaGreatDoorPart10
set_option linter.unusedVariables false
set_option linter.unusedSimpArgs false
namespace Go.PV
open Go Go.RowKit

section
variable {P : Program} {w w' : World} {ow ow' : Nat → Prop} {loc loc' : Locs} {n nt : Nat} {E : Entry P} {H : Heap} {F : Frame} {a : Act} {tt : Tab} {rows : Nat → Option Row}

end
end Go.PV
set_option linter.unusedVariables false
set_option linter.unusedSimpArgs false
namespace Go.PV
open Go Go.RowKit

section
variable {P : Program} {w w' : World} {ow ow' : Nat → Prop} {loc loc' : Locs} {n nt : Nat} {E : Entry P} {H : Heap} {F : Frame} {a : Act} {tt : Tab} {rows : Nat → Option Row}

end
end Go.PV
set_option linter.unusedVariables false
set_option linter.unusedSimpArgs false
namespace Go.PV
open Go Go.RowKit

section
variable {P : Program} {w w' : World} {ow ow' : Nat → Prop} {loc loc' : Locs} {n nt : Nat} {E : Entry P} {H : Heap} {F : Frame} {a : Act} {tt : Tab} {rows : Nat → Option Row}

end
end Go.PV
set_option linter.unusedVariables false
set_option linter.unusedSimpArgs false
namespace Go.PV
open Go Go.RowKit

section
variable {P : Program} {w w' : World} {ow ow' : Nat → Prop} {loc loc' : Locs} {n nt : Nat} {E : Entry P} {H : Heap} {F : Frame} {a : Act} {tt : Tab} {rows : Nat → Option Row}

end
end Go.PV
set_option linter.unusedVariables false
set_option linter.unusedSimpArgs false
namespace Go.PV
open Go Go.RowKit

section
variable {P : Program} {w w' : World} {ow ow' : Nat → Prop} {loc loc' : Locs} {n nt : Nat} {E : Entry P} {H : Heap} {F : Frame} {a : Act} {tt : Tab} {rows : Nat → Option Row}

end
end Go.PV
set_option linter.unusedVariables false
set_option linter.unusedSimpArgs false
namespace Go.PV
open Go Go.RowKit

theorem bytesI_bytes (s : ByteArray) : ∀ c ∈ bytesI s, 0 ≤ c ∧ c < 256 := by
  intro c hc
  unfold bytesI at hc
  obtain ⟨b, _, rfl⟩ := List.mem_map.1 hc
  have := b.toNat_lt
  omega

end Go.PV
set_option linter.unusedVariables false
set_option linter.unusedSimpArgs false
namespace Go.PV
open Go Go.RowKit

end Go.PV
set_option linter.unusedVariables false
set_option linter.unusedSimpArgs false
namespace Go.PV
open Go Go.RowKit

end Go.PV
set_option linter.unusedVariables false
set_option linter.unusedSimpArgs false
namespace Go.PV
open Go Go.RowKit

section
variable {P : Program} {w w' : World} {ow ow' : Nat → Prop} {loc loc' : Locs} {n nt : Nat} {E : Entry P} {H : Heap} {F : Frame} {a : Act} {tt : Tab} {rows : Nat → Option Row}

end
end Go.PV
set_option linter.unusedVariables false
set_option linter.unusedSimpArgs false
namespace Go.PV
open Go Go.RowKit

section
variable {P : Program} {w w' : World} {ow ow' : Nat → Prop} {loc loc' : Locs} {n nt : Nat} {E : Entry P} {H : Heap} {F : Frame} {a : Act} {tt : Tab} {rows : Nat → Option Row}

end
end Go.PV
set_option linter.unusedVariables false
set_option linter.unusedSimpArgs false
namespace Go.PV
open Go Go.RowKit

section
variable {P : Program} {nt : Nat} {E : Entry P} {H : Heap} {F : Frame}

end
end Go.PV
namespace Go.PV
end Go.PV
namespace Go.PV
open Go Go.RowKit

theorem wf_i64 {n : Int} (h : (Lit.int .i64 n).wf = true) : -9223372036854775808 ≤ n ∧ n ≤ 9223372036854775807 := by
  simp only [Lit.wf, Bool.and_eq_true, decide_eq_true_eq, IntKind.min, IntKind.max, IntKind.signed, IntKind.bits] at h
  simp at h
  omega

end Go.PV
set_option linter.unusedVariables false
set_option linter.unusedSimpArgs false
namespace Go.PV
open Go Go.RowKit
variable {P : Program}
end Go.PV
set_option linter.unusedVariables false
set_option linter.unusedSimpArgs false
namespace Go.PV
open Go Go.RowKit Go.ChangeShapes Go.WideShapes

inductive Shape where
  | int (k : IntKind)
  | bool
  | str
  | ints (k : IntKind) (B : Nat)
  | rows (st : Bool) (B : Nat) (ss : List Shape)

def elemPV (st : Bool) (ps : List PV) : PV := bif st then .agg ps else ps.getD 0 .undef

inductive Fits : Shape → PV → Prop
  | int (k : IntKind) (n : Int) (h : (Lit.int k n).wf = true) : Fits (.int k) (.int k n)
  | bool (b : Bool) : Fits .bool (.bool b)
  | str (l : List Int) (h : l.length ≤ 140737488351232) (hb : ∀ c ∈ l, 0 ≤ c ∧ c < 256) : Fits .str (.str l)
  | ints (k : IntKind) (B : Nat) (l : List Int) (h : l.length * B ≤ 140737488351232) (hw : ∀ n ∈ l, (Lit.int k n).wf = true) : Fits (.ints k B) (.ints k l)
  | rows (st : Bool) (B : Nat) (ss : List Shape) (l : List (List PV)) (h : l.length * B ≤ 140737488351232) (hl : ∀ ps ∈ l, ps.length = ss.length)
      (hf : ∀ ps ∈ l, ∀ j, j < ss.length → Fits (ss.getD j .bool) (ps.getD j .undef)) : Fits (.rows st B ss) (.list ss.length (l.map (elemPV st)))

inductive Typed (P : Program) : TypeId → List Shape → Prop
  | int {t : TypeId} {k : IntKind} (h : P.underlying t = some (.int k)) : Typed P t [.int k]
  | bool {t : TypeId} (h : P.underlying t = some .bool) : Typed P t [.bool]
  | str {t : TypeId} (h : P.underlying t = some .string) : Typed P t [.str]
  | ints {t e : TypeId} {k : IntKind} {B : Nat} (h : P.underlying t = some (.slice e)) (he : P.underlying e = some (.int k)) (hc : P.cellsOf e = 1) (hB : P.bytesOf e = B) : Typed P t [.ints k B]
  | rows {t e : TypeId} {ss : List Shape} {B : Nat} (st : Bool) (h : P.underlying t = some (.slice e)) (he : Typed P e ss) (hc : P.cellsOf e = ss.length) (hB : P.bytesOf e = B) (h0 : 0 < ss.length) (hst : st = false → ss.length = 1) : Typed P t [.rows st B ss]
  | struct {t : TypeId} {fs : Array Field} (parts : List (List Shape)) (h : P.underlying t = some (.struct fs)) (hl : parts.length = fs.size) (ht : P.cellsOf t = parts.flatten.length)
      (hp : ∀ (i : Nat) (f : Field), fs[i]? = some f → Typed P f.type (parts.getD i []))
      (ho : ∀ (i : Nat) (f : Field), fs[i]? = some f → f.offset = (parts.take i).flatten.length ∧ P.cellsOf f.type = (parts.getD i []).length) : Typed P t parts.flatten

theorem choose_list {α : Type} {Q : Nat → α → Prop} (d : α) : ∀ n, (∀ i, i < n → ∃ a, Q i a) → ∃ l : List α, l.length = n ∧ ∀ i, i < n → Q i (l.getD i d)
  | 0, _ => ⟨[], rfl, fun i hi => absurd hi (Nat.not_lt_zero i)⟩
  | n + 1, h => by
    obtain ⟨l, hl, hq⟩ := choose_list d n fun i hi => h i (by omega)
    obtain ⟨a, ha⟩ := h n (by omega)
    refine ⟨l ++ [a], by simp [hl], fun i hi => ?_⟩
    by_cases hin : i < n
    · have e : (l ++ [a]).getD i d = l.getD i d := by
        rw [List.getD_eq_getElem?_getD, List.getD_eq_getElem?_getD, List.getElem?_append_left (by omega)]
      rw [e]; exact hq i hin
    · have : i = n := by omega
      subst this
      have e : (l ++ [a]).getD i d = a := by
        rw [List.getD_eq_getElem?_getD, List.getElem?_append_right (by omega), hl]; simp
      rw [e]; exact ha

theorem flat_get {α β : Type} (da : α) (db : β) : ∀ (parts : List (List α)) (pss : List (List β)), pss.length = parts.length → (∀ i, i < parts.length → (pss.getD i []).length = (parts.getD i []).length) →
    pss.flatten.length = parts.flatten.length ∧ ∀ j, j < parts.flatten.length → ∃ i m, i < parts.length ∧ m < (parts.getD i []).length ∧ j = (parts.take i).flatten.length + m ∧ parts.flatten.getD j da = (parts.getD i []).getD m da ∧ pss.flatten.getD j db = (pss.getD i []).getD m db
  | [], [], _, _ => ⟨rfl, fun j hj => by simp at hj⟩
  | [], _ :: _, h, _ => by simp at h
  | _ :: _, [], h, _ => by simp at h
  | a :: parts, p :: pss, hl, h => by
    obtain ⟨h1, h2⟩ := flat_get da db parts pss (by simpa using hl) fun i hi => by simpa using h (i + 1) (by simpa using hi)
    have h0 : p.length = a.length := by simpa using h 0 (by simp)
    refine ⟨by simp only [List.flatten_cons, List.length_append]; omega, fun j hj => ?_⟩
    simp only [List.flatten_cons, List.length_append] at hj
    by_cases hja : j < a.length
    · refine ⟨0, j, by simp, by simpa using hja, by simp, ?_, ?_⟩
      · simp only [List.flatten_cons, List.getD_eq_getElem?_getD, List.getElem?_append_left hja]; rfl
      · simp only [List.flatten_cons, List.getD_eq_getElem?_getD, List.getElem?_append_left (show j < p.length by omega)]; rfl
    · obtain ⟨i, m, hi, hm, e, e1, e2⟩ := h2 (j - a.length) (by omega)
      refine ⟨i + 1, m, by simpa using hi, by simpa using hm, ?_, ?_, ?_⟩
      · simp only [List.take_succ_cons, List.flatten_cons, List.length_append]; omega
      · rw [List.getD_cons_succ, ← e1]
        simp only [List.flatten_cons, List.getD_eq_getElem?_getD, List.getElem?_append_right (show a.length ≤ j by omega)]
      · rw [List.getD_cons_succ, ← e2]
        simp only [List.flatten_cons, List.getD_eq_getElem?_getD, List.getElem?_append_right (show p.length ≤ j by omega), h0]

theorem weights_all {H : Type} {P : Program} {e : TypeId} : ∀ {l : List (DataW H)} {d : DataW H}, d ∈ l → ∀ n ∈ d.weights P e, n ∈ DataW.weightsAll P e l
  | x :: l, d, hd, n, hn => by
    simp only [DataW.weightsAll, List.mem_append]
    rcases List.mem_cons.1 hd with rfl | hd
    · exact .inl hn
    · exact .inr (weights_all hd n hn)


section
variable {H : Type} {enc : TypeId × Value → H} {P : Program} {w : World} {held : Bool}

theorem fits_cells {st : Bool} {ss : List Shape} {ps : List PV} (hst : st = false → ss.length = 1) (hl : ps.length = ss.length) (hf : ∀ j, j < ss.length → Fits (ss.getD j .bool) (ps.getD j .undef)) : cellsOf (elemPV st ps) = ps := by
  cases st with
  | true => rfl
  | false =>
    have h1 := hst rfl
    have hf0 := hf 0 (by omega)
    match ps, hl with
    | [p], _ =>
      simp only [elemPV, cond_false, List.getD_cons_zero] at hf0 ⊢
      generalize ss.getD 0 Shape.bool = s at hf0
      cases hf0 <;> rfl
    | [], hl => simp at hl; omega
    | _ :: _ :: _, hl => simp at hl; omega

theorem opened {t : TypeId} {ss : List Shape} (h : Typed P t ss) : ∀ {fuel : Nat} {cs : List Value} {x : DataW H × List MemPlace}, DataW.trod enc P w 0 (fun _ => true) held fuel t cs = some x → (∀ n ∈ x.1.weights P t, n ≤ reachBytes) →
    ∃ ps : List PV, ps.length = ss.length ∧ cs.length = ss.length ∧ (∀ j, j < ss.length → Fits (ss.getD j .bool) (ps.getD j .undef)) ∧ ∀ j, j < ss.length → (cs.getD j undef).oneCell' = true ∧ RD w (fun _ => False) (ps.getD j .undef) (cs.getD j undef) := by
  have one : ∀ {s : Shape} {p : PV} {v : Value}, Fits s p → v.oneCell' = true → RD w (fun _ => False) p v → ∃ ps : List PV, ps.length = [s].length ∧ [v].length = [s].length ∧ (∀ j, j < [s].length → Fits ([s].getD j .bool) (ps.getD j .undef)) ∧ ∀ j, j < [s].length → (([v] : List Value).getD j undef).oneCell' = true ∧ RD w (fun _ => False) (ps.getD j .undef) (([v] : List Value).getD j undef) := fun {s p v} h1 h2 h3 => ⟨[p], rfl, rfl, fun j hj => by
      have : j = 0 := by simpa using hj
      subst this; exact h1, fun j hj => by
      have : j = 0 := by simpa using hj
      subst this; exact ⟨h2, h3⟩⟩
  induction h with
  | int h =>
    intro fuel cs x hx hn
    obtain ⟨n, rfl, rfl, hw⟩ := DataW.trod_int h hx
    exact one (.int _ _ hw) rfl (.int _ _)
  | bool h =>
    intro fuel cs x hx hn
    obtain ⟨b, rfl, rfl⟩ := DataW.trod_bool h hx
    exact one (.bool _) rfl (.bool _)
  | str h =>
    intro fuel cs x hx hn
    obtain ⟨s, rfl, rfl, _⟩ := DataW.trod_string h hx
    have h1 := hn s.data.toList.length (by simp [DataW.weights])
    refine one (.str (bytesI s) (by rw [bytesI_length]; simpa [reachBytes] using h1) (bytesI_bytes s)) rfl (.str _ _ rfl)
  | @ints t e k B h he hc hB =>
    intro fuel cs x hx hn
    rcases open_ints h he hc hx with ⟨rfl, rfl⟩ | ⟨a, len, cap, zs, rfl, _, hl, hm, hz, rfl, hcell, hw⟩
    · exact one (.ints k B [] (by simp) (by simp)) rfl (.intsNil k)
    · have hz' : zs.length = cap := by simpa using hz
      obtain ⟨hrd, hlen, hw'⟩ := IsRow.rd (.inr ⟨a, rfl, hl, hm, hz', hcell, hw⟩)
      have h1 := hn ((lits (H := H) k (zs.take len)).length * B + (lits (H := H) k (zs.drop len)).length * B) (by simp [DataW.weights, h, hB, Nat.add_mul])
      refine one (.ints k B _ ?_ hw') rfl hrd
      simp only [lits, List.length_map, reachBytes] at h1
      omega
  | @rows t e ss B st h he hc hB h0 hst ih =>
    intro fuel cs x hx hn
    rcases DataW.trod_slice h hx with ⟨rfl, rfl⟩ | ⟨a, len, cap, elems, rest, n, _, rfl, rfl, _, hl, hm, hlen, hel, _, _⟩
    · have := one (s := .rows st B ss) (p := .list ss.length (([] : List (List PV)).map (elemPV st))) (v := .slice none 0 0) (.rows st B ss [] (by simp) (by simp) (by simp)) rfl (.listNil _)
      exact this
    · have hwall : ∀ y ∈ elems, ∀ m ∈ y.1.weights P e, m ≤ reachBytes := fun y hy m hm => hn m (by
        simp only [DataW.weights, h, List.mem_cons, List.mem_append]
        exact .inr (.inl (weights_all (List.mem_map_of_mem hy) m hm)))
      have each : ∀ i, i < len → ∃ pv : List PV × List Value, pv.1.length = ss.length ∧ (∀ j, j < ss.length → Fits (ss.getD j .bool) (pv.1.getD j .undef)) ∧ ∀ j, j < ss.length → w.cell? (a.add (i * ss.length) |>.add j) = some (pv.2.getD j undef) ∧ (pv.2.getD j undef).oneCell' = true ∧ RD w (fun _ => False) (pv.1.getD j .undef) (pv.2.getD j undef) := by
        intro i hi
        have hi' : i < elems.length := by omega
        have h1 := hel i hi
        rw [List.getElem?_eq_getElem hi'] at h1
        obtain ⟨cs, hcs, ht⟩ := Option.bind_eq_some_iff.1 h1
        obtain ⟨ps, hp1, hp2, hp3, hp4⟩ := ih ht (hwall _ (List.getElem_mem hi'))
        obtain ⟨_, _, hc3⟩ := World.cells?_some hcs
        rw [hc] at hc3
        refine ⟨(ps, cs), hp1, hp3, fun j hj => ⟨?_, hp4 j hj⟩⟩
        rw [hc3 j hj, List.getD_eq_getElem?_getD, List.getElem?_eq_getElem (by omega)]
        rfl
      obtain ⟨l, hll, hlq⟩ := choose_list ([], []) len each
      have hsize : len * B ≤ 140737488351232 := by
        have h1 := hn ((elems.length + rest.length) * B) (by simp [DataW.weights, h, hB])
        rw [Nat.add_mul, hlen] at h1
        simp only [reachBytes] at h1
        omega
      have hin : ∀ ps ∈ l.map (·.1), ps.length = ss.length ∧ ∀ j, j < ss.length → Fits (ss.getD j .bool) (ps.getD j .undef) := by
        intro ps hps
        obtain ⟨pv, hpv, rfl⟩ := List.mem_map.1 hps
        obtain ⟨i, hi, rfl⟩ := List.getElem_of_mem hpv
        have := hlq i (by omega)
        rw [List.getD_eq_getElem?_getD, List.getElem?_eq_getElem hi] at this
        exact ⟨this.1, this.2.1⟩
      refine one (.rows st B ss (l.map (·.1)) (by simp only [List.length_map]; rw [hll]; exact hsize) (fun ps h => (hin ps h).1) (fun ps h => (hin ps h).2)) rfl ?_
      cases len with
      | zero =>
        have : l = [] := List.length_eq_zero_iff.1 hll
        subst this
        exact .listE _ a cap
      | succ m =>
        obtain ⟨b, o, spot⟩ := a
        have hs : spot = none := by
          have h1 := ((hlq 0 (by omega)).2.2 0 h0).1
          cases spot with
          | none => rfl
          | some s =>
            simp only [World.cell?, Addr.add] at h1
            split at h1
            · simp at h1
            · cases h1
        subst hs
        have hadd : ∀ i j : Nat, ((⟨b, o, none⟩ : Addr).add i).add j = ⟨b, o + (i + j), none⟩ := by
          intro i j
          unfold Addr.add
          by_cases hi0 : i = 0 <;> by_cases hj0 : j = 0 <;> simp [hi0, hj0, Nat.add_assoc]
        have hgl : ∀ i, i < (l.map (·.1)).length → ((l.map (·.1)).map (elemPV st)).getD i .undef = elemPV st ((l.getD i ([], [])).1) := by
          intro i hi
          have hi' : i < l.length := by simpa using hi
          simp [List.getD_eq_getElem?_getD, hi']
        have hcl : ∀ i, i < m + 1 → cellsOf (((l.map (·.1)).map (elemPV st)).getD i .undef) = (l.getD i ([], [])).1 := by
          intro i hi
          rw [hgl i (by simp; omega)]
          exact fits_cells hst (hlq i hi).1 (hlq i hi).2.1
        refine .list ss.length _ (m + 1) b o cap (fun i j => (l.getD i ([], [])).2.getD j undef) (by simp [hll]) hl (fun h => h) h0 ?_ ?_ ?_ ?_
        · intro i hi
          have hi' : i < m + 1 := by simpa [hll] using hi
          rw [hcl i hi']
          exact (hlq i hi').1
        · intro i j hi hj
          have hi' : i < m + 1 := by simpa [hll] using hi
          have := ((hlq i hi').2.2 j hj).1
          rw [hadd] at this
          exact this
        · intro i j hi hj
          have hi' : i < m + 1 := by simpa [hll] using hi
          exact ((hlq i hi').2.2 j hj).2.1
        · intro i j hi hj
          have hi' : i < m + 1 := by simpa [hll] using hi
          rw [hcl i hi']
          exact ((hlq i hi').2.2 j hj).2.2
  | @struct t fs parts h hl ht hp ho ih =>
    intro fuel cs x hx hn
    obtain ⟨xs, n, _, rfl, hcl, hxl, hxs⟩ := DataW.trod_struct h hx
    rw [ht] at hcl
    have each : ∀ i, i < fs.size → ∃ ps : List PV, ps.length = (parts.getD i []).length ∧ (∀ j, j < (parts.getD i []).length → Fits ((parts.getD i []).getD j .bool) (ps.getD j .undef)) ∧ ∀ j, j < (parts.getD i []).length → (cs.getD ((parts.take i).flatten.length + j) undef).oneCell' = true ∧ RD w (fun _ => False) (ps.getD j .undef) (cs.getD ((parts.take i).flatten.length + j) undef) := by
      intro i hi
      have hfi : fs[i]? = some fs[i] := by simp [hi]
      have hxi : i < xs.length := by omega
      have h1 := hxs i _ hfi
      rw [List.getElem?_eq_getElem hxi] at h1
      obtain ⟨ps, hp1, hp2, hp3, hp4⟩ := ih i _ hfi h1 fun m hm => hn m (by
        simp only [DataW.weights, h]
        refine DataW.weights_mem_each (j := i) (t := fs[i].type) (d := xs[i].1) ?_ ?_ m hm
        · simp [hi]
        · simp [hxi])
      obtain ⟨hof, hce⟩ := ho i _ hfi
      refine ⟨ps, hp1, hp3, fun j hj => ?_⟩
      have e : ((cs.drop fs[i].offset).take (P.cellsOf fs[i].type)).getD j undef = cs.getD ((parts.take i).flatten.length + j) undef := by
        rw [hof, hce]
        generalize (parts.getD i []).length = k at hj
        simp only [List.getD_eq_getElem?_getD]
        rw [List.getElem?_take_of_lt hj, List.getElem?_drop]
      rw [← e]
      exact hp4 j hj
    obtain ⟨pss, hpl, hpq⟩ := choose_list [] fs.size each
    obtain ⟨hfl, hfj⟩ := flat_get Shape.bool PV.undef parts pss (by omega) fun i hi => (hpq i (by omega)).1
    refine ⟨pss.flatten, hfl, hcl, fun j hj => ?_, fun j hj => ?_⟩
    · obtain ⟨i, m, hi, hm, _, e1, e2⟩ := hfj j hj
      rw [e1, e2]
      exact (hpq i (by omega)).2.1 m hm
    · obtain ⟨i, m, hi, hm, e0, e1, e2⟩ := hfj j hj
      rw [e2, e0]
      exact (hpq i (by omega)).2.2 m hm

theorem weighs {ts : List TypeId} {ds : List (DataW H)} (h : (DataW.weightsEach P ts ds).all (· ≤ reachBytes) = true) {j : Nat} {t : TypeId} {d : DataW H} (ht : ts[j]? = some t) (hd : ds[j]? = some d) : ∀ n ∈ d.weights P t, n ≤ reachBytes := fun n hn => by
  have := List.all_eq_true.1 h n (DataW.weights_mem_each ht hd n hn)
  simpa using this
end
end Go.PV
set_option linter.unusedVariables false
set_option linter.unusedSimpArgs false
namespace Go.PV
open Go Go.RowKit
section
variable {P : Program}

end
end Go.PV
set_option linter.unusedVariables false
set_option linter.unusedSimpArgs false
namespace Go.PV
open Go Go.RowKit

section
variable {P : Program} {w w' : World} {ow ow' : Nat → Prop} {loc loc' : Locs} {n nt : Nat} {E : Entry P} {H : Heap} {F : Frame} {a : Act} {tt : Tab} {rows : Nat → Option Row}

end
end Go.PV
set_option maxHeartbeats 4000000
set_option maxRecDepth 4000
set_option exponentiation.threshold 300000
set_option linter.unusedVariables false
set_option linter.unusedSimpArgs false
namespace Go.Proofs.YtbmhnjghpjkjpaaGreatDoor
open Go Go.PV

def lower (c : Int) : Int := if 65 ≤ c ∧ c ≤ 90 then c - 65 + 97 else c

def pl (s : List Int) : Nat → List Int
  | 0 => []
  | i + 1 => if lower (s.getD i 0) ≠ 48 ∨ pl s i ≠ [] ∨ i + 1 = s.length then pl s i ++ [lower (s.getD i 0)] else pl s i

end Go.Proofs.YtbmhnjghpjkjpaaGreatDoor
set_option maxHeartbeats 4000000
set_option maxRecDepth 4000
set_option exponentiation.threshold 300000
set_option linter.unusedVariables false
set_option linter.unusedSimpArgs false
namespace Go.Proofs.YtbmhnjghpjkjpaaGreatDoor
open Go Go.PV

theorem scan_norm_none (neg : Bool) (s : List Int) (x : Int) (h : s = [] ∨ x < -1152921504606846976 ∨ 1152921504606846976 < x) (hsl : s.length ≤ 281474976710656) : Meets Tryz.prog 25 [.agg [.bool neg, .str s, .int .i64 x]] (.tup [.agg [.bool false, .str [], .int .i64 0], .int .i64 80]) := by
  have hh : (decide (s = []) = true ∧ decide (s = []) = true ∧ decide (s = []) = true) ∨ (decide (s = []) = false ∧ decide (x < -1152921504606846976) = true ∧ decide (x < -1152921504606846976) = true) ∨ (decide (s = []) = false ∧ decide (x < -1152921504606846976) = false ∧ decide (1152921504606846976 < x) = true) := by
    by_cases h1 : s = []
    · have := decide_eq_true h1; exact .inl ⟨this, this, this⟩
    · by_cases h2 : x < -1152921504606846976
      · have := decide_eq_true h2; exact .inr (.inl ⟨decide_eq_false h1, this, this⟩)
      · refine .inr (.inr ⟨decide_eq_false h1, decide_eq_false h2, decide_eq_true ?_⟩)
        rcases h with h | h | h
        · exact absurd h h1
        · exact absurd h h2
        · exact h
  clear h
  rcases hh with ⟨d1, d2, d3⟩ | ⟨d1, d2, d3⟩ | ⟨d1, d2, d3⟩
  all_goals (refine meets_by ttOk Tryz.func25 Tryz.ntmps25 Tryz.results25 (by kernel_rfl) (c := _) rfl rfl rfl fun E => ?_; simp only [argsFrame])
  all_goals
    repeat' first
      | (with_reducible first | refine PW.seq ?_ | refine PW.block ?_ | refine PW.fork ?_ | refine PW.skip ?_ | refine PW.exit ?_ | refine PW.ret ?_ | refine PW.scope ?_ | refine PW.label ?_ | refine PW.goto ?_)
      | (simp only [d1, d2, d3, Bool.or_false, Bool.or_self, Bool.true_or, Bool.or_true])
      | (with_reducible refine PW.region ttOk ?_ ?_
         · rfl)
      | (with_reducible refine PW.regionD ttOk mixed ?_ ?_ ?_
         · rfl
         · rfl)
      | (with_reducible refine ifW_dec (fun g => ?_) (fun g => ?_) <;> first | (exfalso; omega) | (simp -dsimp only [g, wkI]))
      | (with_reducible refine condE_dec (fun g => ?_) (fun g => ?_) <;> try (exfalso; omega))
      | (with_reducible refine condE_not (fun g => ?_) (fun g => ?_) <;> try (exfalso; omega))
      | (simp -dsimp only [↓wkA, ↓wkE, ↓wkJ, wkB, ↓tt, Nat.reduceBEq, Nat.reduceEqDiff, ↓reduceIte, Nat.reduceLT, Array.toList, Nat.reduceAdd, Nat.reduceMul, Int.reduceToNat, Int.reducePow, UInt8.reduceToNat])
      | (simp -dsimp (disch := first | assumption | omega) only [dec_t, dec_f])
      | (refine And.intro ?_ ?_
         · first | omega | decide | (simp (disch := omega) only [wkW, Int.reduceToNat, Int.reducePow] <;> omega) | (simp <;> omega))
      | (simp (disch := omega) only [wkW, Int.reduceToNat, Int.reducePow])
      | fail

theorem scan_norm_bad (neg : Bool) {s : List Int} {x : Int} (h : ¬ NormOk s x) (hsl : s.length ≤ 281474976710656) : Meets Tryz.prog 25 [.agg [.bool neg, .str s, .int .i64 x]] (.tup [.agg [.bool false, .str [], .int .i64 0], .int .i64 80]) := by
  by_cases h1 : s ≠ [] ∧ InR x
  · exact scan_norm_loop neg s x h1.1 h1.2 hsl (normS s) (normX s x) (fun _ => scan_normal neg s x h1.2 hsl) _ (fun _ => rfl) (fun _ _ => rfl) (fun hA hn => absurd ⟨h1.1, h1.2, hA, by omega⟩ h)
  · refine scan_norm_none neg s x ?_ hsl
    by_cases h2 : s = []
    · exact .inl h2
    · refine .inr ?_
      by_cases h3 : x < -1152921504606846976
      · exact .inl h3
      · refine .inr ?_
        by_cases h4 : 1152921504606846976 < x
        · exact h4
        · exact absurd ⟨h2, by omega, by omega⟩ h1
end Go.Proofs.YtbmhnjghpjkjpaaGreatDoor
set_option maxHeartbeats 4000000
set_option maxRecDepth 4000
set_option exponentiation.threshold 300000
set_option linter.unusedVariables false
set_option linter.unusedSimpArgs false
namespace Go.Proofs.YtbmhnjghpjkjpaaGreatDoor
open Go Go.PV

theorem along_bad (neg : Bool) (s : List Int) (x : Int) (L : List PV) (h : Meets Tryz.prog 25 [.agg [.bool neg, .str s, .int .i64 x]] (.tup [.agg [.bool false, .str [], .int .i64 0], .int .i64 80])) : Meets Tryz.prog 51 [.agg [.bool neg, .str s, .int .i64 x], .list 1 L] (.tup [.int .u64 0, .int .i64 80]) := by
  refine meets_by ttOk Tryz.func51 Tryz.ntmps51 Tryz.results51 (by kernel_rfl) (c := _) rfl rfl rfl fun E => ?_
  simp only [argsFrame]
  repeat' first
    | (with_reducible first | refine PW.seq ?_ | refine PW.block ?_ | refine PW.fork ?_ | refine PW.skip ?_ | refine PW.exit ?_ | refine PW.ret ?_ | refine PW.scope ?_ | refine PW.label ?_ | refine PW.goto ?_)
    | (with_reducible refine PW.region ttOk ?_ ?_
       · rfl)
    | (with_reducible refine PW.regionD ttOk mixed ?_ ?_ ?_
       · rfl
       · rfl)
    | (with_reducible refine ifW_dec (fun g => ?_) (fun g => ?_) <;> first | (exfalso; omega) | (simp -dsimp only [g, wkI]))
    | (with_reducible refine condE_dec (fun g => ?_) (fun g => ?_) <;> try (exfalso; omega))
    | (with_reducible refine condE_not (fun g => ?_) (fun g => ?_) <;> try (exfalso; omega))
    | (simp -dsimp only [↓wkA, ↓wkE, ↓wkJ, wkB, ↓tt, Nat.reduceBEq, Nat.reduceEqDiff, ↓reduceIte, Nat.reduceLT, Array.toList, Nat.reduceAdd, Nat.reduceMul, Int.reduceToNat, Int.reducePow, UInt8.reduceToNat])
    | (refine call_by (h) (views_data rfl) (by simp only [okViews, okView, okViews0, okView0, and_self]) rfl ?_)
    | (simp -dsimp (disch := first | assumption | omega) only [dec_t, dec_f])
    | (refine And.intro ?_ ?_
       · first | omega | decide | (simp (disch := omega) only [wkW, Int.reduceToNat, Int.reducePow] <;> omega) | (simp <;> omega))
    | (simp (disch := omega) only [wkW, Int.reduceToNat, Int.reducePow])
    | fail

end Go.Proofs.YtbmhnjghpjkjpaaGreatDoor
set_option maxHeartbeats 4000000
set_option maxRecDepth 4000
set_option exponentiation.threshold 300000
set_option linter.unusedVariables false
set_option linter.unusedSimpArgs false
namespace Go.Proofs.YtbmhnjghpjkjpaaGreatDoor
open Go Go.PV

theorem strtod_double_bad (neg : Bool) {s : List Int} {x : Int} (h : ¬ NormOk s x) (hsl : s.length ≤ 281474976710656) : Meets Tryz.prog 21 [.agg [.bool neg, .str s, .int .i64 x]] (.tup [.int .u64 0, .int .i64 80]) :=
  double_walk neg s x _ _ (along_bad neg s x _ (scan_norm_bad neg h hsl))
end Go.Proofs.YtbmhnjghpjkjpaaGreatDoor
set_option maxHeartbeats 4000000
set_option maxRecDepth 4000
set_option exponentiation.threshold 300000
set_option linter.unusedVariables false
set_option linter.unusedSimpArgs false
namespace Go.Proofs.YtbmhnjghpjkjpaaGreatDoor
open Go Go.PV

theorem law10_awake (res : PV) (hres : res = .bool true) : Meets Tryz.prog 24 [] res := by
  subst hres
  have h1 : Meets Tryz.prog 16 [.str [32, 48, 46, 49, 120]] (.tup [.int .u64 4591870180066957722, .int .i64 4]) := parse_at _ 4591870180066957722 4 (by decide) (by decide +kernel) (by decide +kernel) (by decide +kernel)
  have hn : NormOk [49, 50] (-1) := ⟨by decide, ⟨by decide, by decide⟩, fun j hj => by
    match j, hj with
    | 0, _ => decide
    | 1, _ => decide
    | j + 2, h => simp at h; omega, by decide +kernel⟩
  have e1 : rdec (num 10 [49, 50]) (-1) = 4608083138725491507 := by decide +kernel
  have h2 : Meets Tryz.prog 20 [.agg [.bool true, .str [49, 50], .int .i64 (-1)]] (.tup [.int .u64 13831455175580267315, .int .i64 0]) := by
    have := strtod_exact true hn (by decide)
    unfold dblV at this
    rw [e1] at this
    exact this
  have h3 : Meets Tryz.prog 21 [.agg [.bool false, .str [49, 50], .int .i64 (-1)]] (.tup [.int .u64 4608083138725491507, .int .i64 0]) := by
    have := strtod_double false hn (by decide)
    unfold dblV at this
    rw [e1] at this
    exact this
  have h4 := road_x
  have h5 := road_12
  refine meets_by ttOk Tryz.func24 Tryz.ntmps24 Tryz.results24 (by kernel_rfl) (c := _) rfl rfl rfl fun E => ?_
  simp only [argsFrame]
  repeat' first
    | (with_reducible first | refine PW.seq ?_ | refine PW.block ?_ | refine PW.fork ?_ | refine PW.skip ?_ | refine PW.exit ?_ | refine PW.ret ?_ | refine PW.scope ?_ | refine PW.label ?_ | refine PW.goto ?_)
    | (with_reducible refine PW.region ttOk ?_ ?_
       · rfl)
    | (with_reducible refine PW.regionD ttOk mixed ?_ ?_ ?_
       · rfl
       · rfl)
    | (with_reducible refine ifW_dec (fun g => ?_) (fun g => ?_) <;> first | (exfalso; omega) | (simp -dsimp only [g, wkI]))
    | (with_reducible refine condE_dec (fun g => ?_) (fun g => ?_) <;> try (exfalso; omega))
    | (with_reducible refine condE_not (fun g => ?_) (fun g => ?_) <;> try (exfalso; omega))
    | (simp -dsimp only [↓wkA, ↓wkE, ↓wkJ, wkB, ↓tt, Nat.reduceBEq, Nat.reduceEqDiff, ↓reduceIte, Nat.reduceLT, Array.toList, Nat.reduceAdd, Nat.reduceMul, Int.reduceToNat, Int.reducePow, UInt8.reduceToNat])
    | (refine call_by (h1) (views_data rfl) ⟨trivial, trivial⟩ rfl ?_)
    | (refine call_by (h2) (views_data rfl) (by simp only [okViews, okView, okViews0, okView0, and_self]) rfl ?_)
    | (refine call_by (h3) (views_data rfl) (by simp only [okViews, okView, okViews0, okView0, and_self]) rfl ?_)
    | (refine call_by (h4) (views_data rfl) ⟨trivial, trivial⟩ rfl ?_)
    | (refine call_by (h5) (views_data rfl) ⟨trivial, trivial⟩ rfl ?_)
    | (simp -dsimp (disch := first | assumption | omega) only [dec_t, dec_f])
    | (refine And.intro ?_ ?_
       · first | omega | decide | (simp (disch := omega) only [wkW, Int.reduceToNat, Int.reducePow] <;> omega) | (simp <;> omega))
    | (simp (disch := omega) only [wkW, Int.reduceToNat, Int.reducePow])
    | fail

end Go.Proofs.YtbmhnjghpjkjpaaGreatDoor
set_option maxHeartbeats 4000000
set_option maxRecDepth 4000
set_option exponentiation.threshold 300000
set_option linter.unusedVariables false
set_option linter.unusedSimpArgs false
namespace Go.Proofs.YtbmhnjghpjkjpaaGreatDoor
open Go Go.PV

def cmpLR (L R : Nat) : Int := if L < R then -1 else if R < L then 1 else 0
theorem held_walk (m k x v' : Int) (v ten p q : List Int) (up nk c : Int) (hu : (0 ≤ x ∧ up = x) ∨ (x < 0 ∧ IntKind.wrap .i64 (0 - x) = up)) (hten : Meets Tryz.prog 60 [.int .i64 up] (.tup [.ints .u64 ten, .int .i64 0])) (hnk : IntKind.wrap .i64 (0 - k) = nk)
    (h : (0 ≤ x ∧ Meets Tryz.prog 61 [.ints .u64 v, .ints .u64 ten] (.tup [.ints .u64 p, .int .i64 0]) ∧ ((0 ≤ k ∧ Meets Tryz.prog 39 [.ints .u64 [m], .int .i64 k] (.tup [.ints .u64 q, .int .i64 0]) ∧ Meets Tryz.prog 62 [.ints .u64 q, .ints .u64 p] (.int .i64 c)) ∨ (k < 0 ∧ Meets Tryz.prog 39 [.ints .u64 p, .int .i64 nk] (.tup [.ints .u64 q, .int .i64 0]) ∧ Meets Tryz.prog 62 [.ints .u64 [m], .ints .u64 q] (.int .i64 c)))) ∨
      (x < 0 ∧ Meets Tryz.prog 61 [.ints .u64 [m], .ints .u64 ten] (.tup [.ints .u64 p, .int .i64 0]) ∧ ((0 ≤ k ∧ Meets Tryz.prog 39 [.ints .u64 p, .int .i64 k] (.tup [.ints .u64 q, .int .i64 0]) ∧ Meets Tryz.prog 62 [.ints .u64 q, .ints .u64 v] (.int .i64 c)) ∨ (k < 0 ∧ Meets Tryz.prog 39 [.ints .u64 v, .int .i64 nk] (.tup [.ints .u64 q, .int .i64 0]) ∧ Meets Tryz.prog 62 [.ints .u64 p, .ints .u64 q] (.int .i64 c))))) :
    Meets Tryz.prog 29 [.int .u64 m, .int .i64 k, .ints .u64 v, .int .i64 x] (.tup [.int .i64 c, .bool true]) := by
  have hx : (decide (x < 0) = false ∧ decide (0 ≤ x) = true ∧ up = x) ∨ (decide (x < 0) = true ∧ decide (0 ≤ x) = false ∧ IntKind.wrap .i64 (0 - x) = up) := by
    rcases hu with ⟨h1, h2⟩ | ⟨h1, h2⟩
    · exact .inl ⟨decide_eq_false (by omega), decide_eq_true h1, h2⟩
    · exact .inr ⟨decide_eq_true h1, decide_eq_false (by omega), h2⟩
  rcases h with ⟨h0, h1, ⟨h2, h3, h4⟩ | ⟨h2, h3, h4⟩⟩ | ⟨h0, h1, ⟨h2, h3, h4⟩ | ⟨h2, h3, h4⟩⟩
  all_goals rcases hx with ⟨d1, d2, e1⟩ | ⟨d1, d2, e1⟩
  all_goals first
    | (exfalso; have := of_decide_eq_true d1; omega)
    | (exfalso; have := of_decide_eq_false d1; omega)
    | skip
  all_goals first
    | (have d3 : decide (0 ≤ k) = true := decide_eq_true h2)
    | (have d3 : decide (0 ≤ k) = false := decide_eq_false (by omega))
  all_goals clear hu h0 h2
  all_goals try subst e1
  all_goals (refine meets_by ttOk Tryz.func29 Tryz.ntmps29 Tryz.results29 (by kernel_rfl) (c := _) rfl rfl rfl fun E => ?_; simp only [argsFrame])
  all_goals
    repeat' first
      | (with_reducible first | refine PW.seq ?_ | refine PW.block ?_ | refine PW.fork ?_ | refine PW.skip ?_ | refine PW.exit ?_ | refine PW.ret ?_ | refine PW.scope ?_ | refine PW.label ?_ | refine PW.goto ?_)
      | (simp only [d1, d2, d3, hnk])
      | (simp only [e1])
      | (with_reducible refine PW.region ttOk ?_ ?_
         · rfl)
      | (with_reducible refine PW.regionD ttOk mixed ?_ ?_ ?_
         · rfl
         · rfl)
      | (with_reducible refine ifW_dec (fun g => ?_) (fun g => ?_) <;> first | (exfalso; omega) | (simp -dsimp only [g, wkI]))
      | (with_reducible refine condE_dec (fun g => ?_) (fun g => ?_) <;> try (exfalso; omega))
      | (with_reducible refine condE_not (fun g => ?_) (fun g => ?_) <;> try (exfalso; omega))
      | (simp -dsimp only [↓wkA, ↓wkE, ↓wkJ, wkB, ↓tt, Nat.reduceBEq, Nat.reduceEqDiff, ↓reduceIte, Nat.reduceLT, Array.toList, Nat.reduceAdd, Nat.reduceMul, Int.reduceToNat, Int.reducePow, UInt8.reduceToNat])
      | (refine call_by (hten) (views_data rfl) ⟨trivial, trivial⟩ rfl ?_)
      | (refine call_by (h1) (views_data rfl) ⟨trivial, trivial, trivial⟩ rfl ?_)
      | (refine call_by (h3) (views_data rfl) ⟨trivial, trivial, trivial⟩ rfl ?_)
      | (refine call_by (h4) (views_data rfl) ⟨trivial, trivial, trivial⟩ rfl ?_)
      | (refine call_drop (args' := [.ints .u64 [m], .ints .u64 ten]) rfl h1 ⟨Nat.le_refl _, trivial, trivial⟩ rfl ?_; simp only [wkD, Nat.reduceBEq])
      | (refine call_drop (args' := [.ints .u64 [m], .int .i64 k]) rfl h3 ⟨Nat.le_refl _, trivial, trivial⟩ rfl ?_; simp only [wkD, Nat.reduceBEq])
      | (refine call_by' (args' := [.ints .u64 [m], .ints .u64 q]) rfl h4 ⟨Nat.le_refl _, trivial, trivial⟩ rfl ?_)
      | (simp -dsimp (disch := first | assumption | omega) only [dec_t, dec_f])
      | (refine And.intro ?_ ?_
         · first | omega | decide | (simp (disch := omega) only [wkW, Int.reduceToNat, Int.reducePow] <;> omega) | (simp <;> omega))
      | (simp (disch := omega) only [wkW, Int.reduceToNat, Int.reducePow])
      | fail

theorem cut_pow {P M a b a' b' : Nat} (h : a + b' = a' + b) : (P * 2 ^ a < M * 2 ^ b ↔ P * 2 ^ a' < M * 2 ^ b') ∧ (P * 2 ^ a = M * 2 ^ b ↔ P * 2 ^ a' = M * 2 ^ b') := by
  have hb : 0 < 2 ^ b := Nat.two_pow_pos _
  have hb' : 0 < 2 ^ b' := Nat.two_pow_pos _
  have e1 : P * 2 ^ a * 2 ^ b' = P * 2 ^ a' * 2 ^ b := by rw [Nat.mul_assoc, Nat.mul_assoc, ← Nat.pow_add, ← Nat.pow_add, h]
  have e2 : M * 2 ^ b * 2 ^ b' = M * 2 ^ b' * 2 ^ b := by rw [Nat.mul_assoc, Nat.mul_assoc, Nat.mul_comm (2 ^ b)]
  constructor
  · rw [← Nat.mul_lt_mul_right hb', e1, e2, Nat.mul_lt_mul_right hb]
  · constructor
    · intro h2
      exact Nat.eq_of_mul_eq_mul_right hb (by rw [← e1, ← e2, h2])
    · intro h2
      exact Nat.eq_of_mul_eq_mul_right hb' (by rw [e1, e2, h2])

def heldV (m : Nat) (k : Int) (v : Nat) (x : Int) : Int := cmpLR (m * 10 ^ (-x).toNat * 2 ^ k.toNat) (v * 10 ^ x.toNat * 2 ^ (-k).toNat)
theorem law_held {m : Nat} (hm0 : m ≠ 0) (hm : m < 18446744073709551616) {k : Int} (hk : -1200 ≤ k ∧ k ≤ 1100) {v : Nat} (hv : v < 10 ^ 900) {x : Int} (hx : -1400 ≤ x ∧ x ≤ 500) : Meets Tryz.prog 29 [.int .u64 (m : Int), .int .i64 k, .ints .u64 (natL v), .int .i64 x] (.tup [.int .i64 (heldV m k v x), .bool true]) := by
  have hmb : m < 10 ^ 20 := Nat.lt_trans hm (by decide +kernel)
  have bound : ∀ {w a b : Nat}, w < 10 ^ 900 → a ≤ 1400 → b ≤ 1200 → w < NMax ∧ w * 10 ^ a < NMax ∧ w * 10 ^ a * 2 ^ b < NMax ∧ w * 2 ^ b < NMax := fun {w a b} hw ha hb => by
    have t1 : 10 ^ a ≤ 10 ^ 1400 := Nat.pow_le_pow_right (by decide) ha
    have t2 : 2 ^ b ≤ 2 ^ 1200 := Nat.pow_le_pow_right (by decide) hb
    have p1 := ten_pos a
    have p2 : 0 < 2 ^ b := Nat.two_pow_pos _
    have b1 : w * 10 ^ a < 10 ^ 900 * 10 ^ 1400 := Nat.mul_lt_mul_of_lt_of_le hw t1 (ten_pos _)
    have b2 : w * 10 ^ a * 2 ^ b < 10 ^ 900 * 10 ^ 1400 * 2 ^ 1200 := Nat.mul_lt_mul_of_lt_of_le b1 t2 (Nat.two_pow_pos _)
    have b3 : w * 2 ^ b < 10 ^ 900 * 2 ^ 1200 := Nat.mul_lt_mul_of_lt_of_le hw t2 (Nat.two_pow_pos _)
    have c0 : 10 ^ 900 ≤ 2 ^ 12000 := by decide +kernel
    have c1 : 10 ^ 900 * 10 ^ 1400 ≤ 2 ^ 12000 := by decide +kernel
    have c2 : 10 ^ 900 * 10 ^ 1400 * 2 ^ 1200 ≤ 2 ^ 12000 := by decide +kernel
    have c3 : 10 ^ 900 * 2 ^ 1200 ≤ 2 ^ 12000 := by decide +kernel
    exact ⟨nmax_of (Nat.lt_of_lt_of_le hw c0) (by decide), nmax_of (Nat.lt_of_lt_of_le b1 c1) (by decide), nmax_of (Nat.lt_of_lt_of_le b2 c2) (by decide), nmax_of (Nat.lt_of_lt_of_le b3 c3) (by decide)⟩
  have hm9 : m < 10 ^ 900 := Nat.lt_of_lt_of_le hmb (Nat.pow_le_pow_right (by decide) (by decide))
  have hten : ∀ {a : Nat}, a ≤ 1400 → 10 ^ a < NMax := fun {a} ha => by
    have := (bound (w := 1) (a := a) (b := 0) (Nat.one_lt_pow (by decide) (by decide)) ha (by decide)).2.1
    rw [Nat.one_mul] at this
    exact this
  have hs := natL_single hm0 hm
  obtain ⟨a, ha⟩ : ∃ a : Nat, (if 0 ≤ x then x else -x) = (a : Int) := ⟨(if 0 ≤ x then x else -x).toNat, by split <;> omega⟩
  obtain ⟨b, hb⟩ : ∃ b : Nat, (if 0 ≤ k then k else -k) = (b : Int) := ⟨(if 0 ≤ k then k else -k).toNat, by split <;> omega⟩
  have ha4 : a ≤ 1400 := by split at ha <;> omega
  have hb2 : b ≤ 1200 := by split at hb <;> omega
  have hp := pow10_ok a (by omega) (hten ha4)
  have Bv := bound hv ha4 hb2
  have Bm := bound hm9 ha4 hb2
  unfold heldV
  by_cases h1 : 0 ≤ x
  · rw [if_pos h1] at ha
    have z1 : (-x).toNat = 0 := by omega
    have z2 : x.toNat = a := by omega
    rw [z1, z2, Nat.pow_zero, Nat.mul_one]
    have g1 := mul_nat0 Bv.1 (hten ha4) Bv.2.1
    by_cases h2 : 0 ≤ k
    · rw [if_pos h2] at hb
      have y1 : (-k).toNat = 0 := by omega
      have y2 : k.toNat = b := by omega
      rw [y1, y2, Nat.pow_zero, Nat.mul_one]
      have g2 := shl_nat (n := b) Bm.1 (by omega) Bm.2.2.2
      have g3 := cmp_nat Bm.2.2.2 Bv.2.1
      rw [hs, ← hb] at g2
      rw [← ha] at hp
      exact held_walk m k x 0 _ _ _ _ x _ _ (.inl ⟨h1, rfl⟩) hp rfl (.inl ⟨h1, g1, .inl ⟨h2, g2, g3⟩⟩)
    · rw [if_neg h2] at hb
      have y1 : (-k).toNat = b := by omega
      have y2 : k.toNat = 0 := by omega
      rw [y1, y2, Nat.pow_zero, Nat.mul_one]
      have g2 := shl_nat (n := b) Bv.2.1 (by omega) Bv.2.2.1
      have g3 := cmp_nat Bm.1 Bv.2.2.1
      rw [hs] at g3
      rw [← ha] at hp
      exact held_walk m k x 0 _ _ _ _ x (b : Int) _ (.inl ⟨h1, rfl⟩) hp (by rw [show (0 : Int) - k = b by omega]; exact wrap_i64 (by omega)) (.inl ⟨h1, g1, .inr ⟨by omega, g2, g3⟩⟩)
  · rw [if_neg h1] at ha
    have z1 : (-x).toNat = a := by omega
    have z2 : x.toNat = 0 := by omega
    rw [z1, z2, Nat.pow_zero, Nat.mul_one]
    have g1 := mul_nat0 Bm.1 (hten ha4) Bm.2.1
    rw [hs] at g1
    by_cases h2 : 0 ≤ k
    · rw [if_pos h2] at hb
      have y1 : (-k).toNat = 0 := by omega
      have y2 : k.toNat = b := by omega
      rw [y1, y2, Nat.pow_zero, Nat.mul_one]
      have g2 := shl_nat (n := b) Bm.2.1 (by omega) Bm.2.2.1
      have g3 := cmp_nat Bm.2.2.1 Bv.1
      rw [← hb] at g2
      exact held_walk m k x 0 _ _ _ _ (a : Int) _ _ (.inr ⟨by omega, by rw [show (0 : Int) - x = a by omega]; exact wrap_i64 (by omega)⟩) hp rfl (.inr ⟨by omega, g1, .inl ⟨h2, g2, g3⟩⟩)
    · rw [if_neg h2] at hb
      have y1 : (-k).toNat = b := by omega
      have y2 : k.toNat = 0 := by omega
      rw [y1, y2, Nat.pow_zero, Nat.mul_one]
      have g2 := shl_nat (n := b) Bv.1 (by omega) Bv.2.2.2
      have g3 := cmp_nat Bm.2.1 Bv.2.2.2
      exact held_walk m k x 0 _ _ _ _ (a : Int) (b : Int) _ (.inr ⟨by omega, by rw [show (0 : Int) - x = a by omega]; exact wrap_i64 (by omega)⟩) hp (by rw [show (0 : Int) - k = b by omega]; exact wrap_i64 (by omega)) (.inr ⟨by omega, g1, .inr ⟨by omega, g2, g3⟩⟩)

-- the middles to both sides of a double
theorem pos_parts {A : Nat} (hA : A < infB) : absD A = A ∧ A = mantD A + (expD A + 1074).toNat * 4503599627370496 ∧ mantD A < 9007199254740992 ∧ -1074 ≤ expD A ∧ expD A ≤ 971 ∧ ((expD A + 1074).toNat = 0 ∨ 4503599627370496 ≤ mantD A) := by
  have hA' : A < 9218868437227405312 := hA
  have h0 : absD A = A := Nat.mod_eq_of_lt (by omega)
  have h1 := abs_parts A
  have h2 := frac_lt A
  rw [h0] at h1
  unfold mantD expD
  by_cases h : fieldD A = 0
  · rw [if_pos h, if_pos h]
    omega
  · rw [if_neg h, if_neg h]
    omega
theorem dv_self {A : Nat} (hA : A < infB) : dv A = mantD A * 2 ^ (expD A + 1074).toNat := by
  have h := dv_parts A
  rw [(pos_parts hA).1] at h
  exact h
theorem dv_next {A : Nat} (hA : A < infB) : dv (A + 1) = (mantD A + 1) * 2 ^ (expD A + 1074).toNat := by
  obtain ⟨_, h1, h2, _, _, h3⟩ := pos_parts hA
  have h := dv_at (m := mantD A + 1) (k := (expD A + 1074).toNat) (by omega) (by omega)
  rw [show mantD A + 1 + (expD A + 1074).toNat * 4503599627370496 = A + 1 by omega] at h
  exact h
theorem held_half {m S : Nat} {k : Int} {v : Nat} {x : Int} (hk : -1075 ≤ k) (hS : S = m * 2 ^ (k + 1075).toNat) : (heldV m k v x = -1 ∧ S * 10 ^ (-x).toNat < 2 * (v * 10 ^ x.toNat * 2 ^ 1074)) ∨ (heldV m k v x = 1 ∧ 2 * (v * 10 ^ x.toNat * 2 ^ 1074) < S * 10 ^ (-x).toNat) ∨ (heldV m k v x = 0 ∧ 2 * (v * 10 ^ x.toNat * 2 ^ 1074) = S * 10 ^ (-x).toNat) := by
  unfold heldV cmpLR
  generalize v * 10 ^ x.toNat = P
  have e1 : S * 10 ^ (-x).toNat = m * 10 ^ (-x).toNat * 2 ^ (k + 1075).toNat := by
    rw [hS, Nat.mul_assoc, Nat.mul_comm (2 ^ _), Nat.mul_assoc]
  have e2 : 2 * (P * 2 ^ 1074) = P * 2 ^ 1075 := by
    have h2 : (2 : Nat) ^ 1075 = 2 ^ 1074 * 2 := Nat.pow_succ ..
    rw [h2]
    generalize (2 : Nat) ^ 1074 = U
    ac_rfl
  rw [e1, e2]
  generalize m * 10 ^ (-x).toNat = M
  have c1 := cut_pow (P := M) (M := P) (a := (k + 1075).toNat) (b := 1075) (a' := k.toNat) (b' := (-k).toNat) (by omega)
  have c2 := cut_pow (P := P) (M := M) (a := 1075) (b := (k + 1075).toNat) (a' := (-k).toNat) (b' := k.toNat) (by omega)
  by_cases h1 : M * 2 ^ k.toNat < P * 2 ^ (-k).toNat
  · rw [if_pos h1]
    exact .inl ⟨rfl, c1.1.2 h1⟩
  · rw [if_neg h1]
    by_cases h2 : P * 2 ^ (-k).toNat < M * 2 ^ k.toNat
    · rw [if_pos h2]
      exact .inr (.inl ⟨rfl, c2.1.2 h2⟩)
    · rw [if_neg h2]
      exact .inr (.inr ⟨rfl, c2.2.2 (by omega)⟩)
end Go.Proofs.YtbmhnjghpjkjpaaGreatDoor
set_option maxHeartbeats 4000000
set_option maxRecDepth 4000
set_option exponentiation.threshold 300000
set_option linter.unusedVariables false
set_option linter.unusedSimpArgs false
namespace Go.Proofs.YtbmhnjghpjkjpaaGreatDoor
open Go Go.PV

theorem nearest_bad (neg : Bool) (s : List Int) (x : Int) (h1 : Meets Tryz.prog 21 [.agg [.bool neg, .str s, .int .i64 x]] (.tup [.int .u64 0, .int .i64 80])) (h2 : Meets Tryz.prog 25 [.agg [.bool neg, .str s, .int .i64 x]] (.tup [.agg [.bool false, .str [], .int .i64 0], .int .i64 80])) :
    Meets Tryz.prog 10 [.agg [.bool neg, .str s, .int .i64 x]] (.bool true) := by
  have r0 := law10_awake _ rfl
  refine meets_by ttOk Tryz.func10 Tryz.ntmps10 Tryz.results10 (by kernel_rfl) (c := _) rfl rfl rfl fun E => ?_
  simp only [argsFrame]
  repeat' first
    | (with_reducible first | refine PW.seq ?_ | refine PW.block ?_ | refine PW.fork ?_ | refine PW.skip ?_ | refine PW.exit ?_ | refine PW.ret ?_ | refine PW.scope ?_ | refine PW.label ?_ | refine PW.goto ?_)
    | (with_reducible refine PW.region ttOk ?_ ?_
       · rfl)
    | (with_reducible refine PW.regionD ttOk mixed ?_ ?_ ?_
       · rfl
       · rfl)
    | (with_reducible refine ifW_dec (fun g => ?_) (fun g => ?_) <;> first | (exfalso; omega) | (simp -dsimp only [g, wkI]))
    | (with_reducible refine condE_dec (fun g => ?_) (fun g => ?_) <;> try (exfalso; omega))
    | (with_reducible refine condE_not (fun g => ?_) (fun g => ?_) <;> try (exfalso; omega))
    | (simp -dsimp only [↓wkA, ↓wkE, ↓wkJ, wkB, ↓tt, Nat.reduceBEq, Nat.reduceEqDiff, ↓reduceIte, Nat.reduceLT, Array.toList, Nat.reduceAdd, Nat.reduceMul, Int.reduceToNat, Int.reducePow, UInt8.reduceToNat])
    | (refine call_by (r0) (views_data rfl) trivial rfl ?_)
    | (refine call_by (h1) (views_data rfl) (by simp only [okViews, okView, okViews0, okView0, and_self]) rfl ?_)
    | (refine call_by (h2) (views_data rfl) (by simp only [okViews, okView, okViews0, okView0, and_self]) rfl ?_)
    | (simp -dsimp (disch := first | assumption | omega) only [dec_t, dec_f])
    | (refine And.intro ?_ ?_
       · first | omega | decide | (simp (disch := omega) only [wkW, Int.reduceToNat, Int.reducePow] <;> omega) | (simp <;> omega))
    | (simp (disch := omega) only [wkW, Int.reduceToNat, Int.reducePow])
    | fail

theorem nearest_walk (neg : Bool) (s : List Int) (x : Int) (t : List Int) (y D A top : Int) (hD : Int.tmod D 9223372036854775808 = A) (htop : IntKind.wrap .i64 ((t.length : Int) + y) = top) (h1 : Meets Tryz.prog 21 [.agg [.bool neg, .str s, .int .i64 x]] (.tup [.int .u64 D, .int .i64 0])) (h2 : Meets Tryz.prog 25 [.agg [.bool neg, .str s, .int .i64 x]] (.tup [.agg [.bool neg, .str t, .int .i64 y], .int .i64 0]))
    (h : (t = [48] ∧ A = 0) ∨ (t ≠ [48] ∧ top < -400 ∧ A = 0) ∨ (t ≠ [48] ∧ ¬ top < -400 ∧ 400 < top ∧ A = 9218868437227405312) ∨ (t ≠ [48] ∧ ¬ top < -400 ∧ ¬ 400 < top ∧ 900 < t.length ∧ A ≤ 9218868437227405312)) :
    Meets Tryz.prog 10 [.agg [.bool neg, .str s, .int .i64 x]] (.bool true) := by
  have r0 := law10_awake _ rfl
  rcases h with ⟨h3, rfl⟩ | ⟨h3, h4, rfl⟩ | ⟨h3, h4, h5, rfl⟩ | ⟨h3, h4, h5, h6, h7⟩
  all_goals first
    | (have d1 : decide (t = [48]) = true := decide_eq_true h3)
    | (have d1 : decide (t = [48]) = false := decide_eq_false h3)
  all_goals first
    | (have d2 : decide (top < -400) = true := decide_eq_true h4)
    | (have d2 : decide (top < -400) = false := decide_eq_false h4)
    | (have d2 := d1)
  all_goals first
    | (have d3 : decide (400 < top) = true := decide_eq_true h5)
    | (have d3 : decide (400 < top) = false := decide_eq_false h5)
    | (have d3 := d1)
  all_goals first
    | (have d4 : decide (900 < (t.length : Int)) = true := decide_eq_true (by omega); have d5 : decide (A ≤ 9218868437227405312) = true := decide_eq_true h7)
    | (have d4 := d1; have d5 := d1)
  all_goals (refine meets_by ttOk Tryz.func10 Tryz.ntmps10 Tryz.results10 (by kernel_rfl) (c := _) rfl rfl rfl fun E => ?_; simp only [argsFrame])
  all_goals
    repeat' first
      | (with_reducible first | refine PW.seq ?_ | refine PW.block ?_ | refine PW.fork ?_ | refine PW.skip ?_ | refine PW.exit ?_ | refine PW.ret ?_ | refine PW.scope ?_ | refine PW.label ?_ | refine PW.goto ?_)
      | (simp only [d1, d2, d3, d4, d5, hD, htop])
      | (with_reducible refine PW.region ttOk ?_ ?_
         · rfl)
      | (with_reducible refine PW.regionD ttOk mixed ?_ ?_ ?_
         · rfl
         · rfl)
      | (with_reducible refine ifW_dec (fun g => ?_) (fun g => ?_) <;> first | (exfalso; omega) | (simp -dsimp only [g, wkI]))
      | (with_reducible refine condE_dec (fun g => ?_) (fun g => ?_) <;> try (exfalso; omega))
      | (with_reducible refine condE_not (fun g => ?_) (fun g => ?_) <;> try (exfalso; omega))
      | (simp -dsimp only [↓wkA, ↓wkE, ↓wkJ, wkB, ↓tt, Nat.reduceBEq, Nat.reduceEqDiff, ↓reduceIte, Nat.reduceLT, Array.toList, Nat.reduceAdd, Nat.reduceMul, Int.reduceToNat, Int.reducePow, UInt8.reduceToNat])
      | (refine call_by (r0) (views_data rfl) trivial rfl ?_)
      | (refine call_by (h1) (views_data rfl) (by simp only [okViews, okView, okViews0, okView0, and_self]) rfl ?_)
      | (refine call_by (h2) (views_data rfl) (by simp only [okViews, okView, okViews0, okView0, and_self]) rfl ?_)
      | (simp -dsimp (disch := first | assumption | omega) only [dec_t, dec_f])
      | (refine And.intro ?_ ?_
         · first | omega | decide | (simp (disch := omega) only [wkW, Int.reduceToNat, Int.reducePow] <;> omega) | (simp <;> omega))
      | (simp (disch := omega) only [wkW, Int.reduceToNat, Int.reducePow])
      | fail

theorem middle_walk (neg : Bool) (s : List Int) (x : Int) (t : List Int) (y D A top p : Int) (hD : Int.tmod D 9223372036854775808 = A) (htop : IntKind.wrap .i64 ((t.length : Int) + y) = top) (h1 : Meets Tryz.prog 21 [.agg [.bool neg, .str s, .int .i64 x]] (.tup [.int .u64 D, .int .i64 0])) (h2 : Meets Tryz.prog 25 [.agg [.bool neg, .str s, .int .i64 x]] (.tup [.agg [.bool neg, .str t, .int .i64 y], .int .i64 0]))
    (g1 : t ≠ [48]) (g2 : ¬ top < -400) (g3 : ¬ 400 < top) (g4 : ¬ 900 < t.length) (v : List Int) (h3 : Meets Tryz.prog 28 [.str t] (.tup [.ints .u64 v, .int .i64 0, .int .i64 0])) (hp : Int.tmod A 2 = p) (cl mt ex m2 m3 m4 k1 k2 k3 c1 c2 : Int) (ng : Bool)
    (h : (A = 9218868437227405312 ∧ (c1 = 0 ∨ c1 = -1) ∧ Meets Tryz.prog 29 [.int .u64 18014398509481983, .int .i64 970, .ints .u64 v, .int .i64 y] (.tup [.int .i64 c1, .bool true])) ∨
      (A < 9218868437227405312 ∧ Meets Tryz.prog 30 [.int .u64 A] (.agg [.bool ng, .int .i64 cl, .int .u64 mt, .int .i64 ex]) ∧ IntKind.wrap .u64 (2 * mt) = m2 ∧ IntKind.wrap .i64 (ex - 1) = k1 ∧ IntKind.wrap .u64 (m2 + 1) = m3 ∧ (c1 = 1 ∨ (c1 = 0 ∧ p = 0)) ∧
        ((A = 0 ∧ Meets Tryz.prog 29 [.int .u64 m3, .int .i64 (-1075), .ints .u64 v, .int .i64 y] (.tup [.int .i64 c1, .bool true])) ∨
          (A ≠ 0 ∧ Meets Tryz.prog 29 [.int .u64 m3, .int .i64 k1, .ints .u64 v, .int .i64 y] (.tup [.int .i64 c1, .bool true]) ∧ (c2 = -1 ∨ (c2 = 0 ∧ p = 0)) ∧ Meets Tryz.prog 29 [.int .u64 m4, .int .i64 k2, .ints .u64 v, .int .i64 y] (.tup [.int .i64 c2, .bool true]) ∧
            ((mt = 4503599627370496 ∧ -1074 < ex ∧ IntKind.wrap .u64 (2 * m2) = k3 ∧ IntKind.wrap .i64 (k1 - 1) = k2 ∧ IntKind.wrap .u64 (k3 - 1) = m4) ∨ (¬ (mt = 4503599627370496 ∧ -1074 < ex) ∧ k1 = k2 ∧ IntKind.wrap .u64 (m2 - 1) = m4)))))) :
    Meets Tryz.prog 10 [.agg [.bool neg, .str s, .int .i64 x]] (.bool true) := by
  have r0 := law10_awake _ rfl
  have d1 : decide (t = [48]) = false := decide_eq_false g1
  have d2 : decide (top < -400) = false := decide_eq_false g2
  have d3 : decide (400 < top) = false := decide_eq_false g3
  have d4 : decide (900 < (t.length : Int)) = false := decide_eq_false (by omega)
  have q1 : decide ((0 : Int) = 1) = false := rfl
  have q2 : decide ((0 : Int) < 0) = false := rfl
  have q3 : decide ((1 : Int) < 0) = false := rfl
  have q4 : decide ((1 : Int) = 0) = false := rfl
  have q5 : decide ((0 : Int) = 0) = true := rfl
  have q6 : decide ((-1 : Int) < 0) = true := rfl
  have q7 : decide ((-1 : Int) ≤ 0) = true := rfl
  have q8 : decide ((0 : Int) ≤ 0) = true := rfl
  have q9 : Int.tmod 0 2 = 0 := rfl
  clear g1 g2 g3 g4
  rcases h with ⟨rfl, hc, h4⟩ | ⟨hA, h4, w1, w2, w3, hc, hz⟩
  · have d5 : decide ((9218868437227405312 : Int) < 9218868437227405312) = false := by decide
    rcases hc with rfl | rfl
    all_goals (refine meets_by ttOk Tryz.func10 Tryz.ntmps10 Tryz.results10 (by kernel_rfl) (c := _) rfl rfl rfl fun E => ?_; simp only [argsFrame])
    all_goals
      repeat' first
        | (with_reducible first | refine PW.seq ?_ | refine PW.block ?_ | refine PW.fork ?_ | refine PW.skip ?_ | refine PW.exit ?_ | refine PW.ret ?_ | refine PW.scope ?_ | refine PW.label ?_ | refine PW.goto ?_)
        | (simp only [d1, d2, d3, d4, d5, q7, q8, hD, htop])
        | (with_reducible refine PW.region ttOk ?_ ?_
           · rfl)
        | (with_reducible refine PW.regionD ttOk mixed ?_ ?_ ?_
           · rfl
           · rfl)
        | (with_reducible refine ifW_dec (fun g => ?_) (fun g => ?_) <;> first | (exfalso; omega) | (simp -dsimp only [g, wkI]))
        | (with_reducible refine condE_dec (fun g => ?_) (fun g => ?_) <;> try (exfalso; omega))
        | (with_reducible refine condE_not (fun g => ?_) (fun g => ?_) <;> try (exfalso; omega))
        | (simp -dsimp only [↓wkA, ↓wkE, ↓wkJ, wkB, ↓tt, Nat.reduceBEq, Nat.reduceEqDiff, ↓reduceIte, Nat.reduceLT, Array.toList, Nat.reduceAdd, Nat.reduceMul, Int.reduceToNat, Int.reducePow, UInt8.reduceToNat])
        | (refine call_by (r0) (views_data rfl) trivial rfl ?_)
        | (refine call_by (h1) (views_data rfl) (by simp only [okViews, okView, okViews0, okView0, and_self]) rfl ?_)
        | (refine call_by (h2) (views_data rfl) (by simp only [okViews, okView, okViews0, okView0, and_self]) rfl ?_)
        | (refine call_by (h3) (views_data rfl) ⟨trivial, trivial⟩ rfl ?_)
        | (refine call_by (h4) (views_data rfl) ⟨trivial, trivial, trivial, trivial, trivial⟩ rfl ?_)
        | (simp -dsimp (disch := first | assumption | omega) only [dec_t, dec_f])
        | (refine And.intro ?_ ?_
           · first | omega | decide | (simp (disch := omega) only [wkW, Int.reduceToNat, Int.reducePow] <;> omega) | (simp <;> omega))
        | (simp (disch := omega) only [wkW, Int.reduceToNat, Int.reducePow])
        | fail
  · have d5 : decide (9218868437227405312 < A) = false := decide_eq_false (by omega)
    have d6 : decide (A = 9218868437227405312) = false := decide_eq_false (by omega)
    rcases hz with ⟨rfl, h5⟩ | ⟨hA0, h5, hc2, h6, hs⟩
    · rcases hc with rfl | ⟨rfl, rfl⟩
      all_goals (refine meets_by ttOk Tryz.func10 Tryz.ntmps10 Tryz.results10 (by kernel_rfl) (c := _) rfl rfl rfl fun E => ?_; simp only [argsFrame])
      all_goals
        repeat' first
          | (with_reducible first | refine PW.seq ?_ | refine PW.block ?_ | refine PW.fork ?_ | refine PW.skip ?_ | refine PW.exit ?_ | refine PW.ret ?_ | refine PW.scope ?_ | refine PW.label ?_ | refine PW.goto ?_)
          | (simp only [d1, d2, d3, d4, d5, d6, q1, q2, q3, q4, q5, q9, w1, w2, w3, hD, htop])
          | (with_reducible refine PW.region ttOk ?_ ?_
             · rfl)
          | (with_reducible refine PW.regionD ttOk mixed ?_ ?_ ?_
             · rfl
             · rfl)
          | (with_reducible refine ifW_dec (fun g => ?_) (fun g => ?_) <;> first | (exfalso; omega) | (simp -dsimp only [g, wkI]))
          | (with_reducible refine condE_dec (fun g => ?_) (fun g => ?_) <;> try (exfalso; omega))
          | (with_reducible refine condE_not (fun g => ?_) (fun g => ?_) <;> try (exfalso; omega))
          | (simp -dsimp only [↓wkA, ↓wkE, ↓wkJ, wkB, ↓tt, Nat.reduceBEq, Nat.reduceEqDiff, ↓reduceIte, Nat.reduceLT, Array.toList, Nat.reduceAdd, Nat.reduceMul, Int.reduceToNat, Int.reducePow, UInt8.reduceToNat])
          | (refine call_by (r0) (views_data rfl) trivial rfl ?_)
          | (refine call_by (h1) (views_data rfl) (by simp only [okViews, okView, okViews0, okView0, and_self]) rfl ?_)
          | (refine call_by (h2) (views_data rfl) (by simp only [okViews, okView, okViews0, okView0, and_self]) rfl ?_)
          | (refine call_by (h3) (views_data rfl) ⟨trivial, trivial⟩ rfl ?_)
          | (refine call_by (h4) (views_data rfl) ⟨trivial, trivial⟩ rfl ?_)
          | (refine call_by (h5) (views_data rfl) ⟨trivial, trivial, trivial, trivial, trivial⟩ rfl ?_)
          | (simp -dsimp (disch := first | assumption | omega) only [dec_t, dec_f])
          | (refine And.intro ?_ ?_
             · first | omega | decide | (simp (disch := omega) only [wkW, Int.reduceToNat, Int.reducePow] <;> omega) | (simp <;> omega))
          | (simp (disch := omega) only [wkW, Int.reduceToNat, Int.reducePow])
          | fail
    · have d7 : decide (A = 0) = false := decide_eq_false hA0
      clear hA hA0
      rcases hs with ⟨rfl, e1, w4, w5, w6⟩ | ⟨e1, rfl, w6⟩
      case' inl => have d8 : decide (-1074 < ex) = true := decide_eq_true e1; have d9 := d8
      case' inr => have w4 := w6; have w5 := w6; have hd : (decide (mt = 4503599627370496) = false ∧ decide (mt = 4503599627370496) = false) ∨ (decide (mt = 4503599627370496) = true ∧ decide (-1074 < ex) = false) := (by
          by_cases h7 : mt = 4503599627370496
          · exact .inr ⟨decide_eq_true h7, decide_eq_false fun h8 => e1 ⟨h7, h8⟩⟩
          · exact .inl ⟨decide_eq_false h7, decide_eq_false h7⟩); rcases hd with ⟨d8, d9⟩ | ⟨d8, d9⟩
      all_goals rcases hc with rfl | ⟨rfl, rfl⟩
      all_goals rcases hc2 with rfl | ⟨rfl, e2⟩
      all_goals try rw [e2] at hp
      all_goals (refine meets_by ttOk Tryz.func10 Tryz.ntmps10 Tryz.results10 (by kernel_rfl) (c := _) rfl rfl rfl fun E => ?_; simp only [argsFrame])
      all_goals
        repeat' first
          | (with_reducible first | refine PW.seq ?_ | refine PW.block ?_ | refine PW.fork ?_ | refine PW.skip ?_ | refine PW.exit ?_ | refine PW.ret ?_ | refine PW.scope ?_ | refine PW.label ?_ | refine PW.goto ?_)
          | (simp only [d1, d2, d3, d4, d5, d6, d7, d8, d9, q1, q2, q3, q4, q5, q6, w1, w2, w3, w4, w5, w6, hp, hD, htop])
          | (with_reducible refine PW.region ttOk ?_ ?_
             · rfl)
          | (with_reducible refine PW.regionD ttOk mixed ?_ ?_ ?_
             · rfl
             · rfl)
          | (with_reducible refine ifW_dec (fun g => ?_) (fun g => ?_) <;> first | (exfalso; omega) | (simp -dsimp only [g, wkI]))
          | (with_reducible refine condE_dec (fun g => ?_) (fun g => ?_) <;> try (exfalso; omega))
          | (with_reducible refine condE_not (fun g => ?_) (fun g => ?_) <;> try (exfalso; omega))
          | (simp -dsimp only [↓wkA, ↓wkE, ↓wkJ, wkB, ↓tt, Nat.reduceBEq, Nat.reduceEqDiff, ↓reduceIte, Nat.reduceLT, Array.toList, Nat.reduceAdd, Nat.reduceMul, Int.reduceToNat, Int.reducePow, UInt8.reduceToNat])
          | (refine call_by (r0) (views_data rfl) trivial rfl ?_)
          | (refine call_by (h1) (views_data rfl) (by simp only [okViews, okView, okViews0, okView0, and_self]) rfl ?_)
          | (refine call_by (h2) (views_data rfl) (by simp only [okViews, okView, okViews0, okView0, and_self]) rfl ?_)
          | (refine call_by (h3) (views_data rfl) ⟨trivial, trivial⟩ rfl ?_)
          | (refine call_by (h4) (views_data rfl) ⟨trivial, trivial⟩ rfl ?_)
          | (refine call_by (h5) (views_data rfl) ⟨trivial, trivial, trivial, trivial, trivial⟩ rfl ?_)
          | (refine call_by (h6) (views_data rfl) ⟨trivial, trivial, trivial, trivial, trivial⟩ rfl ?_)
          | (simp -dsimp (disch := first | assumption | omega) only [dec_t, dec_f])
          | (refine And.intro ?_ ?_
             · first | omega | decide | (simp (disch := omega) only [wkW, Int.reduceToNat, Int.reducePow] <;> omega) | (simp <;> omega))
          | (simp (disch := omega) only [wkW, Int.reduceToNat, Int.reducePow])
          | fail

theorem tmod_signed {n : Bool} {A : Nat} (hA : A ≤ 9218868437227405312) : Int.tmod (signed n A : Int) 9223372036854775808 = (A : Int) := by
  rw [tmod_pos (by omega)]
  cases n
  · rw [signed_f]; omega
  · rw [signed_t]; omega

theorem strtod_nearest (neg : Bool) (s : List Int) (x : Int) (hsl : s.length ≤ 281474976710656) : Meets Tryz.prog 10 [.agg [.bool neg, .str s, .int .i64 x]] (.bool true) := by
  by_cases h : NormOk s x
  · obtain ⟨hs, hx, hd, hx2⟩ := h
    have hN := norm_normal hd hx.1 hx2
    have hl := norm_len hs
    obtain ⟨td, tn, ty, -, tends⟩ := normal_iff.1 hN
    have h1 := strtod_double neg ⟨hs, hx, hd, hx2⟩ hsl
    have h2 := scan_norm_ok neg ⟨hs, hx, hd, hx2⟩ hsl
    unfold dblV at h1
    rw [← norm_rdec hd] at h1
    generalize normS s = t at *
    generalize normX s x = y at *
    have hA : rdec (num 10 t) y ≤ 9218868437227405312 := rdec_le _ _
    have hty := ty.1
    have hty2 := ty.2
    have htop : IntKind.wrap .i64 ((t.length : Int) + y) = (t.length : Int) + y := wrap_i64 (by omega)
    have W := fun h => nearest_walk neg s x t y _ _ _ (tmod_signed hA) htop h1 h2 h
    by_cases h3 : t = [48]
    · exact W (.inl ⟨h3, by rw [h3, num_zero, rdec_zero]; rfl⟩)
    by_cases h4 : (t.length : Int) + y < -400
    · exact W (.inr (.inl ⟨h3, h4, by rw [rdec_small td (by omega)]; rfl⟩))
    by_cases h5 : 400 < (t.length : Int) + y
    · exact W (.inr (.inr (.inl ⟨h3, h4, h5, by rw [rdec_great td tn (tends h3).1 (by omega)]; rfl⟩)))
    by_cases h6 : 900 < t.length
    · exact W (.inr (.inr (.inr ⟨h3, h4, h5, h6, by omega⟩)))
    clear W
    have hln := List.length_pos_iff.2 tn
    have hread := read_nat (digs_all td) tn (by omega)
    have hv : num 10 t < 10 ^ 900 := Nat.lt_of_lt_of_le (num_digs_lt (digs_all td)) (Nat.pow_le_pow_right (by decide) (by omega))
    have hr : IsRnd (num 10 t * 10 ^ y.toNat * 2 ^ 1074) (10 ^ (-y).toNat) (rdec (num 10 t) y) := rndU_is (ten_pos _)
    have hyb : -1400 ≤ y ∧ y ≤ 500 := by omega
    generalize hAe : rdec (num 10 t) y = A at *
    have par : ∀ c : Bool, (A % 2 = 0) → Int.tmod (A : Int) 2 = 0 := fun _ h => by rw [tmod_pos (by omega)]; omega
    by_cases hinf : A = 9218868437227405312
    · have hc := held_half (m := 18014398509481983) (k := 970) (v := num 10 t) (x := y) (S := dv (A - 1) + dv A) (by decide) (by
        rw [hinf]
        have e1 := dv_at (m := 9007199254740991) (k := 2045) (by decide) (by decide)
        have e2 := dv_at (m := 9007199254740992) (k := 2045) (by decide) (by decide)
        rw [show 9218868437227405312 - 1 = 9007199254740991 + 2045 * 4503599627370496 by decide, e1, show 9218868437227405312 = 9007199254740992 + 2045 * 4503599627370496 by decide, e2, ← Nat.add_mul]
        rfl)
      have hdn := (hr.dn (by omega)).1
      have g := law_held (m := 18014398509481983) (by decide) (by decide) (k := 970) (by decide) hv hyb
      refine middle_walk neg s x t y _ _ _ _ (tmod_signed hA) htop h1 h2 h3 h4 h5 h6 _ hread rfl 0 0 0 0 0 0 0 0 0 (heldV 18014398509481983 970 (num 10 t) y) 0 false (.inl ⟨by rw [hinf]; rfl, ?_, g⟩)
      rcases hc with ⟨e, _⟩ | ⟨e, hh⟩ | ⟨e, _⟩
      · exact .inr e
      · omega
      · exact .inl e
    · have hlt : A < infB := by show A < 9218868437227405312; omega
      have hup := hr.up hlt
      obtain ⟨p0, p1, p2, p3, p4, p5⟩ := pos_parts hlt
      have hdec := ieee_decode A (by omega)
      have hcl : A ≠ 0 → classD A = 1 ∨ classD A = 2 := fun h0 => by
        unfold classD
        rw [p0, if_neg h0]
        have := abs_parts A
        have := frac_lt A
        by_cases hf : fieldD A = 0
        · rw [if_pos hf]; exact .inl rfl
        · rw [if_neg hf, if_pos (by omega)]; exact .inr rfl
      unfold partsP partsM partsE at hdec
      by_cases h0 : A = 0
      · have hc := held_half (m := 1) (k := -1075) (v := num 10 t) (x := y) (S := dv A + dv (A + 1)) (by decide) (by rw [h0]; decide)
        have g := law_held (m := 1) (by decide) (by decide) (k := -1075) (by decide) hv hyb
        have e0 : classD A = 0 := by unfold classD; rw [p0, if_pos h0]
        rw [e0, if_neg (by decide), if_neg (by decide), show fracD A = 0 by rw [h0]; rfl] at hdec
        refine middle_walk neg s x t y _ _ _ _ (tmod_signed hA) htop h1 h2 h3 h4 h5 h6 _ hread rfl 0 0 0 0 1 0 (-1) 0 0 (heldV 1 (-1075) (num 10 t) y) 0 _ (.inr ⟨by omega, hdec, by decide, by decide, by decide, ?_, .inl ⟨by omega, g⟩⟩)
        rcases hc with ⟨e, hh⟩ | ⟨e, hh⟩ | ⟨e, hh⟩
        · omega
        · exact .inl e
        · exact .inr ⟨e, par true (hup.2 hh)⟩
      · have hdn := hr.dn (by omega)
        rw [if_pos (hcl h0), if_pos (hcl h0)] at hdec
        have hm0 : mantD A ≠ 0 := fun e => h0 (p0 ▸ mantD_zero.1 e)
        have en := dv_next hlt
        have es := dv_self hlt
        generalize mantD A = mt at *
        generalize expD A = ex at *
        have hc := held_half (m := 2 * mt + 1) (k := ex - 1) (v := num 10 t) (x := y) (S := dv A + dv (A + 1)) (by omega) (by
          rw [en, es, ← Nat.add_mul, show ex - 1 + 1075 = ex + 1074 by omega]
          congr 1
          omega)
        have g := law_held (m := 2 * mt + 1) (by omega) (by omega) (k := ex - 1) (by omega) hv hyb
        have cc : (heldV (2 * mt + 1) (ex - 1) (num 10 t) y = 1 ∨ heldV (2 * mt + 1) (ex - 1) (num 10 t) y = 0 ∧ Int.tmod (A : Int) 2 = 0) := by
          rcases hc with ⟨e, hh⟩ | ⟨e, hh⟩ | ⟨e, hh⟩
          · omega
          · exact .inl e
          · exact .inr ⟨e, par true (hup.2 hh)⟩
        have w1 : IntKind.wrap .u64 (2 * (mt : Int)) = ((2 * mt : Nat) : Int) := by rw [show 2 * (mt : Int) = ((2 * mt : Nat) : Int) by omega]; exact wrap_u64 (by omega)
        have w2 : IntKind.wrap .i64 (ex - 1) = ex - 1 := wrap_i64 (by omega)
        have w3 : IntKind.wrap .u64 (((2 * mt : Nat) : Int) + 1) = ((2 * mt + 1 : Nat) : Int) := wrap_u64 (by omega)
        by_cases hsp : mt = 4503599627370496 ∧ -1074 < ex
        · have ep : dv (A - 1) = 9007199254740991 * 2 ^ (ex + 1073).toNat := by
            have h7 := dv_at (m := 9007199254740991) (k := (ex + 1073).toNat) (by omega) (by omega)
            rw [show 9007199254740991 + (ex + 1073).toNat * 4503599627370496 = A - 1 by omega] at h7
            exact h7
          have hc2 := held_half (m := 18014398509481983) (k := ex - 2) (v := num 10 t) (x := y) (S := dv (A - 1) + dv A) (by omega) (by
            rw [ep, es, hsp.1, show (ex + 1074).toNat = (ex + 1073).toNat + 1 by omega, Nat.pow_succ, show ex - 2 + 1075 = ex + 1073 by omega]
            omega)
          have g2 := law_held (m := 18014398509481983) (by decide) (by decide) (k := ex - 2) (by omega) hv hyb
          refine middle_walk neg s x t y _ _ _ _ (tmod_signed hA) htop h1 h2 h3 h4 h5 h6 _ hread rfl _ mt ex ((2 * mt : Nat) : Int) ((2 * mt + 1 : Nat) : Int) 18014398509481983 (ex - 1) (ex - 2) 18014398509481984 _ (heldV 18014398509481983 (ex - 2) (num 10 t) y) _ (.inr ⟨by omega, hdec, w1, w2, w3, cc, .inr ⟨by omega, g, ?_, g2, .inl ⟨by omega, hsp.2, by rw [hsp.1]; decide, by rw [show ex - 1 - 1 = ex - 2 by omega]; exact wrap_i64 (by omega), by decide⟩⟩⟩)
          rcases hc2 with ⟨e, hh⟩ | ⟨e, hh⟩ | ⟨e, hh⟩
          · exact .inl e
          · omega
          · exact .inr ⟨e, par true (hdn.2 hh.symm)⟩
        · have ep : dv (A - 1) = (mt - 1) * 2 ^ (ex + 1074).toNat := by
            have h7 := dv_at (m := mt - 1) (k := (ex + 1074).toNat) (by omega) (by omega)
            rw [show mt - 1 + (ex + 1074).toNat * 4503599627370496 = A - 1 by omega] at h7
            exact h7
          have hc2 := held_half (m := 2 * mt - 1) (k := ex - 1) (v := num 10 t) (x := y) (S := dv (A - 1) + dv A) (by omega) (by
            rw [ep, es, ← Nat.add_mul, show ex - 1 + 1075 = ex + 1074 by omega]
            congr 1
            omega)
          have g2 := law_held (m := 2 * mt - 1) (by omega) (by omega) (k := ex - 1) (by omega) hv hyb
          refine middle_walk neg s x t y _ _ _ _ (tmod_signed hA) htop h1 h2 h3 h4 h5 h6 _ hread rfl _ mt ex ((2 * mt : Nat) : Int) ((2 * mt + 1 : Nat) : Int) ((2 * mt - 1 : Nat) : Int) (ex - 1) (ex - 1) 0 _ (heldV (2 * mt - 1) (ex - 1) (num 10 t) y) _ (.inr ⟨by omega, hdec, w1, w2, w3, cc, .inr ⟨by omega, g, ?_, g2, .inr ⟨by omega, rfl, by rw [show ((2 * mt : Nat) : Int) - 1 = ((2 * mt - 1 : Nat) : Int) by omega]; exact wrap_u64 (by omega)⟩⟩⟩)
          rcases hc2 with ⟨e, hh⟩ | ⟨e, hh⟩ | ⟨e, hh⟩
          · exact .inl e
          · omega
          · exact .inr ⟨e, par true (hdn.2 hh.symm)⟩
  · exact nearest_bad neg s x (strtod_double_bad neg h hsl) (scan_norm_bad neg h hsl)
end Go.Proofs.YtbmhnjghpjkjpaaGreatDoor
set_option maxHeartbeats 4000000
set_option maxRecDepth 4000
set_option exponentiation.threshold 300000
set_option linter.unusedVariables false
set_option linter.unusedSimpArgs false
namespace Go.PV
open Go Go.RowKit

theorem opened_agg {P : Program} {w : World} {H : Type} {enc : TypeId × Value → H} {held : Bool} {t : TypeId} {ss : List Shape} (h : Typed P t ss) {cs : Array Value} {d : DataW H} {pl : List MemPlace} (hd : DataW.Trod enc P w 0 (fun _ => true) held t (.agg cs) d pl) (hn : ∀ n ∈ d.weights P t, n ≤ reachBytes) :
    ∃ ps : List PV, ps.length = ss.length ∧ (∀ j, j < ss.length → Fits (ss.getD j .bool) (ps.getD j .undef)) ∧ RD w (fun _ => False) (.agg ps) (.agg cs) := by
  obtain ⟨fuel, hf⟩ := hd
  have e : (Value.agg cs).cells.toList = cs.toList := rfl
  rw [e] at hf
  obtain ⟨ps, h1, h2, h3, h4⟩ := opened h hf hn
  have hsz : cs.size = ss.length := by rw [← h2, Array.length_toList]
  refine ⟨ps, h1, h3, .agg ps cs (by omega) (fun u hu => ?_) (fun i hi => ?_)⟩
  · obtain ⟨i, hi, rfl⟩ := List.getElem_of_mem hu
    have := (h4 i (by omega)).1
    rw [List.getD_eq_getElem?_getD, List.getElem?_eq_getElem hi] at this
    exact this
  · have := (h4 i (by omega)).2
    rw [List.getD_eq_getElem?_getD (l := cs.toList), Array.getElem?_toList] at this
    rw [Array.getD_eq_getD_getElem?]
    exact this
end Go.PV
namespace Go.Proofs.YtbmhnjghpjkjpaaGreatDoor
open Go Go.PV

abbrev decS : List Shape := [.bool, .str, .int .i64]
theorem typed_dec : Typed Tryz.prog 35 decS :=
  .struct [[.bool], [.str], [.int .i64]] Tryz.underlying35 rfl (by kernel_rfl)
    (fun i f h => by
      match i, h with
      | 0, h => cases h; exact .bool (by kernel_rfl)
      | 1, h => cases h; exact .str (by kernel_rfl)
      | 2, h => cases h; exact .int (by kernel_rfl)
      | i + 3, h => simp at h)
    (fun i f h => by
      match i, h with
      | 0, h => cases h; exact ⟨rfl, by kernel_rfl⟩
      | 1, h => cases h; exact ⟨rfl, by kernel_rfl⟩
      | 2, h => cases h; exact ⟨rfl, by kernel_rfl⟩
      | i + 3, h => simp at h)
theorem fits_dec {ps : List PV} (hl : ps.length = decS.length) (hf : ∀ j, j < decS.length → Fits (decS.getD j .bool) (ps.getD j .undef)) : ∃ (neg : Bool) (s : List Int) (x : Int), PV.agg ps = .agg [.bool neg, .str s, .int .i64 x] ∧ s.length ≤ 140737488351232 ∧ (∀ c ∈ s, 0 ≤ c ∧ c < 256) ∧ (-9223372036854775808 ≤ x ∧ x ≤ 9223372036854775807) := by
  match ps, hl with
  | [p0, p1, p2], _ =>
    have h0 : Fits .bool p0 := hf 0 (by decide)
    have h1 : Fits .str p1 := hf 1 (by decide)
    have h2 : Fits (.int .i64) p2 := hf 2 (by decide)
    cases h0 with | bool neg =>
    cases h1 with | str t ht hb =>
    cases h2 with | int _ v hv =>
    exact ⟨neg, t, v, rfl, ht, hb, wf_i64 hv⟩
end Go.Proofs.YtbmhnjghpjkjpaaGreatDoor

/- Contracts and laws that the row leans on, part 7: texts that were built one by one, laid together. -/
import Derived.Laws.Externs
import Derived.Lib.Builder
import Derived.Lib.UnsafeStr
import Derived.ChangeSlices
import Derived.SizedLaws
import Derived.Test.YtbmhnjghpjkjpaaDoorPart1
import Derived.Test.YtbmhnjghpjkjpaaDoorPart2
import Derived.Test.YtbmhnjghpjkjpaaDoorPart3
import Derived.Test.YtbmhnjghpjkjpaaDoorPart4
import Derived.Test.YtbmhnjghpjkjpaaDoorPart5
import Derived.Test.YtbmhnjghpjkjpaaDoorPart6
set_option linter.unusedVariables false
set_option linter.unusedSimpArgs false
namespace Go.PV
open Go Go.RowKit

section
variable {P : Program} {w w' : World} {ow ow' : Nat → Prop} {loc loc' : Locs} {n nt : Nat} {E : Entry P} {H : Heap} {F : Frame} {a : Act} {tt : Tab} {rows : Nat → Option Row}

end
end Go.PV
set_option linter.unusedVariables false
set_option linter.unusedSimpArgs false
namespace Go.PV
open Go Go.RowKit

section
variable {P : Program} {w w' : World} {ow ow' : Nat → Prop} {loc loc' : Locs} {n nt : Nat} {E : Entry P} {H : Heap} {F : Frame} {a : Act} {tt : Tab} {rows : Nat → Option Row}

end
end Go.PV
set_option linter.unusedVariables false
set_option linter.unusedSimpArgs false
namespace Go.PV
open Go Go.RowKit

section
variable {P : Program} {w w' : World} {ow ow' : Nat → Prop} {loc loc' : Locs} {n nt : Nat} {E : Entry P} {H : Heap} {F : Frame} {a : Act} {tt : Tab} {rows : Nat → Option Row}

end
end Go.PV
set_option linter.unusedVariables false
set_option linter.unusedSimpArgs false
namespace Go.PV
open Go Go.RowKit

section
variable {P : Program} {w w' : World} {ow ow' : Nat → Prop} {loc loc' : Locs} {n nt : Nat} {E : Entry P} {H : Heap} {F : Frame} {a : Act} {tt : Tab} {rows : Nat → Option Row}

end
end Go.PV
set_option linter.unusedVariables false
set_option linter.unusedSimpArgs false
namespace Go.PV
open Go Go.RowKit

section
variable {P : Program} {w w' : World} {ow ow' : Nat → Prop} {loc loc' : Locs} {n nt : Nat} {E : Entry P} {H : Heap} {F : Frame} {a : Act} {tt : Tab} {rows : Nat → Option Row}

end
end Go.PV
set_option linter.unusedVariables false
set_option linter.unusedSimpArgs false
namespace Go.PV
open Go Go.RowKit

theorem bytesI_bytes (s : ByteArray) : ∀ c ∈ bytesI s, 0 ≤ c ∧ c < 256 := by
  intro c hc
  unfold bytesI at hc
  obtain ⟨b, _, rfl⟩ := List.mem_map.1 hc
  have := b.toNat_lt
  omega

end Go.PV
set_option linter.unusedVariables false
set_option linter.unusedSimpArgs false
namespace Go.PV
open Go Go.RowKit

end Go.PV
set_option linter.unusedVariables false
set_option linter.unusedSimpArgs false
namespace Go.PV
open Go Go.RowKit

end Go.PV
set_option linter.unusedVariables false
set_option linter.unusedSimpArgs false
namespace Go.PV
open Go Go.RowKit

section
variable {P : Program} {w w' : World} {ow ow' : Nat → Prop} {loc loc' : Locs} {n nt : Nat} {E : Entry P} {H : Heap} {F : Frame} {a : Act} {tt : Tab} {rows : Nat → Option Row}

theorem HS.nilRow (h : HS E H ow loc w) (e : TypeId) {row : Row} (hrow : RowAt w ow (locNew loc H.nx none) none row) (hnv : ∀ l, row ≠ .var l) : HS E (H.newT e row) ow (locNew loc H.nx none) w := by
  have := (h.newNil (row := row) hrow hnv).typed (r := H.nx) (t := e) (Nat.lt_succ_self _) (fun L hL => by simp [locNew] at hL)
  exact this

theorem Sub.nilVar (t : Nat) (e : TypeId) (k : IntKind) (ht : F.get t = .nil) : Sub E nt F H ((t, .sl H.nx 0 0 true) :: F) (H.newT e (.ints k [])) := by
  rintro a w ⟨ow, loc, hs, hf, hsz⟩
  have hs' := hs.nilRow e (row := .ints k []) rfl (fun l h => by cases h)
  have hf' := hf.new (L := none) (Stable.refl ow w) (fun _ _ h => h)
  refine ⟨ow, _, hs', ⟨fun t' => ?_, fun t' => ?_, hf.defers⟩, hsz⟩
  · rw [show Frame.get ((t, .sl H.nx 0 0 true) :: F) t' = bif t == t' then .sl H.nx 0 0 true else F.get t' from rfl]
    cases hk : t == t' with
    | true =>
      have : t = t' := by simpa using hk
      subst this
      have hv := hf.vals t
      rw [ht] at hv
      rw [cond_true, rv_nil hv]
      exact .slnil _ _ (by simp [locNew])
    | false => exact hf'.vals t'
  · rw [show Frame.get ((t, .sl H.nx 0 0 true) :: F) t' = bif t == t' then .sl H.nx 0 0 true else F.get t' from rfl]
    cases hk : t == t' with
    | true => exact .sl _ _ _ _ (Nat.lt_succ_self _)
    | false => exact hf'.refs t'

end
end Go.PV
set_option linter.unusedVariables false
set_option linter.unusedSimpArgs false
namespace Go.PV
open Go Go.RowKit

section
variable {P : Program} {w w' : World} {ow ow' : Nat → Prop} {loc loc' : Locs} {n nt : Nat} {E : Entry P} {H : Heap} {F : Frame} {a : Act} {tt : Tab} {rows : Nat → Option Row}

end
end Go.PV
set_option linter.unusedVariables false
set_option linter.unusedSimpArgs false
namespace Go.PV
open Go Go.RowKit

section
variable {P : Program} {nt : Nat} {E : Entry P} {H : Heap} {F : Frame}

end
end Go.PV
namespace Go.PV
end Go.PV
namespace Go.PV
open Go Go.RowKit

theorem wf_u64 {n : Int} (h : (Lit.int .u64 n).wf = true) : 0 ≤ n ∧ n < 18446744073709551616 := by
  simp only [Lit.wf, Bool.and_eq_true, decide_eq_true_eq, IntKind.min, IntKind.max, IntKind.signed, IntKind.bits] at h
  simp at h
  omega
theorem args2 {w : World} {ow : Nat → Prop} {p q : PV} {v u : Value} (h : RD w ow p v) (h2 : RD w ow q u) : ∀ i, i < [p, q].length → RD w ow ([p, q].getD i .undef) (#[v, u].getD i undef) := by
  intro i hi
  match i, hi with
  | 0, _ => exact h
  | 1, _ => exact h2
end Go.PV
set_option linter.unusedVariables false
set_option linter.unusedSimpArgs false
namespace Go.PV
open Go Go.RowKit
variable {P : Program}
end Go.PV
set_option linter.unusedVariables false
set_option linter.unusedSimpArgs false
namespace Go.PV
open Go Go.RowKit Go.ChangeShapes Go.WideShapes

inductive Shape where
  | int (k : IntKind)
  | bool
  | str
  | ints (k : IntKind) (B : Nat)
  | rows (st : Bool) (B : Nat) (ss : List Shape)

def elemPV (st : Bool) (ps : List PV) : PV := bif st then .agg ps else ps.getD 0 .undef

inductive Fits : Shape → PV → Prop
  | int (k : IntKind) (n : Int) (h : (Lit.int k n).wf = true) : Fits (.int k) (.int k n)
  | bool (b : Bool) : Fits .bool (.bool b)
  | str (l : List Int) (h : l.length ≤ 140737488351232) (hb : ∀ c ∈ l, 0 ≤ c ∧ c < 256) : Fits .str (.str l)
  | ints (k : IntKind) (B : Nat) (l : List Int) (h : l.length * B ≤ 140737488351232) (hw : ∀ n ∈ l, (Lit.int k n).wf = true) : Fits (.ints k B) (.ints k l)
  | rows (st : Bool) (B : Nat) (ss : List Shape) (l : List (List PV)) (h : l.length * B ≤ 140737488351232) (hl : ∀ ps ∈ l, ps.length = ss.length)
      (hf : ∀ ps ∈ l, ∀ j, j < ss.length → Fits (ss.getD j .bool) (ps.getD j .undef)) : Fits (.rows st B ss) (.list ss.length (l.map (elemPV st)))

inductive Typed (P : Program) : TypeId → List Shape → Prop
  | int {t : TypeId} {k : IntKind} (h : P.underlying t = some (.int k)) : Typed P t [.int k]
  | bool {t : TypeId} (h : P.underlying t = some .bool) : Typed P t [.bool]
  | str {t : TypeId} (h : P.underlying t = some .string) : Typed P t [.str]
  | ints {t e : TypeId} {k : IntKind} {B : Nat} (h : P.underlying t = some (.slice e)) (he : P.underlying e = some (.int k)) (hc : P.cellsOf e = 1) (hB : P.bytesOf e = B) : Typed P t [.ints k B]
  | rows {t e : TypeId} {ss : List Shape} {B : Nat} (st : Bool) (h : P.underlying t = some (.slice e)) (he : Typed P e ss) (hc : P.cellsOf e = ss.length) (hB : P.bytesOf e = B) (h0 : 0 < ss.length) (hst : st = false → ss.length = 1) : Typed P t [.rows st B ss]
  | struct {t : TypeId} {fs : Array Field} (parts : List (List Shape)) (h : P.underlying t = some (.struct fs)) (hl : parts.length = fs.size) (ht : P.cellsOf t = parts.flatten.length)
      (hp : ∀ (i : Nat) (f : Field), fs[i]? = some f → Typed P f.type (parts.getD i []))
      (ho : ∀ (i : Nat) (f : Field), fs[i]? = some f → f.offset = (parts.take i).flatten.length ∧ P.cellsOf f.type = (parts.getD i []).length) : Typed P t parts.flatten

theorem choose_list {α : Type} {Q : Nat → α → Prop} (d : α) : ∀ n, (∀ i, i < n → ∃ a, Q i a) → ∃ l : List α, l.length = n ∧ ∀ i, i < n → Q i (l.getD i d)
  | 0, _ => ⟨[], rfl, fun i hi => absurd hi (Nat.not_lt_zero i)⟩
  | n + 1, h => by
    obtain ⟨l, hl, hq⟩ := choose_list d n fun i hi => h i (by omega)
    obtain ⟨a, ha⟩ := h n (by omega)
    refine ⟨l ++ [a], by simp [hl], fun i hi => ?_⟩
    by_cases hin : i < n
    · have e : (l ++ [a]).getD i d = l.getD i d := by
        rw [List.getD_eq_getElem?_getD, List.getD_eq_getElem?_getD, List.getElem?_append_left (by omega)]
      rw [e]; exact hq i hin
    · have : i = n := by omega
      subst this
      have e : (l ++ [a]).getD i d = a := by
        rw [List.getD_eq_getElem?_getD, List.getElem?_append_right (by omega), hl]; simp
      rw [e]; exact ha

theorem flat_get {α β : Type} (da : α) (db : β) : ∀ (parts : List (List α)) (pss : List (List β)), pss.length = parts.length → (∀ i, i < parts.length → (pss.getD i []).length = (parts.getD i []).length) →
    pss.flatten.length = parts.flatten.length ∧ ∀ j, j < parts.flatten.length → ∃ i m, i < parts.length ∧ m < (parts.getD i []).length ∧ j = (parts.take i).flatten.length + m ∧ parts.flatten.getD j da = (parts.getD i []).getD m da ∧ pss.flatten.getD j db = (pss.getD i []).getD m db
  | [], [], _, _ => ⟨rfl, fun j hj => by simp at hj⟩
  | [], _ :: _, h, _ => by simp at h
  | _ :: _, [], h, _ => by simp at h
  | a :: parts, p :: pss, hl, h => by
    obtain ⟨h1, h2⟩ := flat_get da db parts pss (by simpa using hl) fun i hi => by simpa using h (i + 1) (by simpa using hi)
    have h0 : p.length = a.length := by simpa using h 0 (by simp)
    refine ⟨by simp only [List.flatten_cons, List.length_append]; omega, fun j hj => ?_⟩
    simp only [List.flatten_cons, List.length_append] at hj
    by_cases hja : j < a.length
    · refine ⟨0, j, by simp, by simpa using hja, by simp, ?_, ?_⟩
      · simp only [List.flatten_cons, List.getD_eq_getElem?_getD, List.getElem?_append_left hja]; rfl
      · simp only [List.flatten_cons, List.getD_eq_getElem?_getD, List.getElem?_append_left (show j < p.length by omega)]; rfl
    · obtain ⟨i, m, hi, hm, e, e1, e2⟩ := h2 (j - a.length) (by omega)
      refine ⟨i + 1, m, by simpa using hi, by simpa using hm, ?_, ?_, ?_⟩
      · simp only [List.take_succ_cons, List.flatten_cons, List.length_append]; omega
      · rw [List.getD_cons_succ, ← e1]
        simp only [List.flatten_cons, List.getD_eq_getElem?_getD, List.getElem?_append_right (show a.length ≤ j by omega)]
      · rw [List.getD_cons_succ, ← e2]
        simp only [List.flatten_cons, List.getD_eq_getElem?_getD, List.getElem?_append_right (show p.length ≤ j by omega), h0]

theorem weights_all {H : Type} {P : Program} {e : TypeId} : ∀ {l : List (DataW H)} {d : DataW H}, d ∈ l → ∀ n ∈ d.weights P e, n ∈ DataW.weightsAll P e l
  | x :: l, d, hd, n, hn => by
    simp only [DataW.weightsAll, List.mem_append]
    rcases List.mem_cons.1 hd with rfl | hd
    · exact .inl hn
    · exact .inr (weights_all hd n hn)


section
variable {H : Type} {enc : TypeId × Value → H} {P : Program} {w : World} {held : Bool}

theorem fits_cells {st : Bool} {ss : List Shape} {ps : List PV} (hst : st = false → ss.length = 1) (hl : ps.length = ss.length) (hf : ∀ j, j < ss.length → Fits (ss.getD j .bool) (ps.getD j .undef)) : cellsOf (elemPV st ps) = ps := by
  cases st with
  | true => rfl
  | false =>
    have h1 := hst rfl
    have hf0 := hf 0 (by omega)
    match ps, hl with
    | [p], _ =>
      simp only [elemPV, cond_false, List.getD_cons_zero] at hf0 ⊢
      generalize ss.getD 0 Shape.bool = s at hf0
      cases hf0 <;> rfl
    | [], hl => simp at hl; omega
    | _ :: _ :: _, hl => simp at hl; omega

theorem opened {t : TypeId} {ss : List Shape} (h : Typed P t ss) : ∀ {fuel : Nat} {cs : List Value} {x : DataW H × List MemPlace}, DataW.trod enc P w 0 (fun _ => true) held fuel t cs = some x → (∀ n ∈ x.1.weights P t, n ≤ reachBytes) →
    ∃ ps : List PV, ps.length = ss.length ∧ cs.length = ss.length ∧ (∀ j, j < ss.length → Fits (ss.getD j .bool) (ps.getD j .undef)) ∧ ∀ j, j < ss.length → (cs.getD j undef).oneCell' = true ∧ RD w (fun _ => False) (ps.getD j .undef) (cs.getD j undef) := by
  have one : ∀ {s : Shape} {p : PV} {v : Value}, Fits s p → v.oneCell' = true → RD w (fun _ => False) p v → ∃ ps : List PV, ps.length = [s].length ∧ [v].length = [s].length ∧ (∀ j, j < [s].length → Fits ([s].getD j .bool) (ps.getD j .undef)) ∧ ∀ j, j < [s].length → (([v] : List Value).getD j undef).oneCell' = true ∧ RD w (fun _ => False) (ps.getD j .undef) (([v] : List Value).getD j undef) := fun {s p v} h1 h2 h3 => ⟨[p], rfl, rfl, fun j hj => by
      have : j = 0 := by simpa using hj
      subst this; exact h1, fun j hj => by
      have : j = 0 := by simpa using hj
      subst this; exact ⟨h2, h3⟩⟩
  induction h with
  | int h =>
    intro fuel cs x hx hn
    obtain ⟨n, rfl, rfl, hw⟩ := DataW.trod_int h hx
    exact one (.int _ _ hw) rfl (.int _ _)
  | bool h =>
    intro fuel cs x hx hn
    obtain ⟨b, rfl, rfl⟩ := DataW.trod_bool h hx
    exact one (.bool _) rfl (.bool _)
  | str h =>
    intro fuel cs x hx hn
    obtain ⟨s, rfl, rfl, _⟩ := DataW.trod_string h hx
    have h1 := hn s.data.toList.length (by simp [DataW.weights])
    refine one (.str (bytesI s) (by rw [bytesI_length]; simpa [reachBytes] using h1) (bytesI_bytes s)) rfl (.str _ _ rfl)
  | @ints t e k B h he hc hB =>
    intro fuel cs x hx hn
    rcases open_ints h he hc hx with ⟨rfl, rfl⟩ | ⟨a, len, cap, zs, rfl, _, hl, hm, hz, rfl, hcell, hw⟩
    · exact one (.ints k B [] (by simp) (by simp)) rfl (.intsNil k)
    · have hz' : zs.length = cap := by simpa using hz
      obtain ⟨hrd, hlen, hw'⟩ := IsRow.rd (.inr ⟨a, rfl, hl, hm, hz', hcell, hw⟩)
      have h1 := hn ((lits (H := H) k (zs.take len)).length * B + (lits (H := H) k (zs.drop len)).length * B) (by simp [DataW.weights, h, hB, Nat.add_mul])
      refine one (.ints k B _ ?_ hw') rfl hrd
      simp only [lits, List.length_map, reachBytes] at h1
      omega
  | @rows t e ss B st h he hc hB h0 hst ih =>
    intro fuel cs x hx hn
    rcases DataW.trod_slice h hx with ⟨rfl, rfl⟩ | ⟨a, len, cap, elems, rest, n, _, rfl, rfl, _, hl, hm, hlen, hel, _, _⟩
    · have := one (s := .rows st B ss) (p := .list ss.length (([] : List (List PV)).map (elemPV st))) (v := .slice none 0 0) (.rows st B ss [] (by simp) (by simp) (by simp)) rfl (.listNil _)
      exact this
    · have hwall : ∀ y ∈ elems, ∀ m ∈ y.1.weights P e, m ≤ reachBytes := fun y hy m hm => hn m (by
        simp only [DataW.weights, h, List.mem_cons, List.mem_append]
        exact .inr (.inl (weights_all (List.mem_map_of_mem hy) m hm)))
      have each : ∀ i, i < len → ∃ pv : List PV × List Value, pv.1.length = ss.length ∧ (∀ j, j < ss.length → Fits (ss.getD j .bool) (pv.1.getD j .undef)) ∧ ∀ j, j < ss.length → w.cell? (a.add (i * ss.length) |>.add j) = some (pv.2.getD j undef) ∧ (pv.2.getD j undef).oneCell' = true ∧ RD w (fun _ => False) (pv.1.getD j .undef) (pv.2.getD j undef) := by
        intro i hi
        have hi' : i < elems.length := by omega
        have h1 := hel i hi
        rw [List.getElem?_eq_getElem hi'] at h1
        obtain ⟨cs, hcs, ht⟩ := Option.bind_eq_some_iff.1 h1
        obtain ⟨ps, hp1, hp2, hp3, hp4⟩ := ih ht (hwall _ (List.getElem_mem hi'))
        obtain ⟨_, _, hc3⟩ := World.cells?_some hcs
        rw [hc] at hc3
        refine ⟨(ps, cs), hp1, hp3, fun j hj => ⟨?_, hp4 j hj⟩⟩
        rw [hc3 j hj, List.getD_eq_getElem?_getD, List.getElem?_eq_getElem (by omega)]
        rfl
      obtain ⟨l, hll, hlq⟩ := choose_list ([], []) len each
      have hsize : len * B ≤ 140737488351232 := by
        have h1 := hn ((elems.length + rest.length) * B) (by simp [DataW.weights, h, hB])
        rw [Nat.add_mul, hlen] at h1
        simp only [reachBytes] at h1
        omega
      have hin : ∀ ps ∈ l.map (·.1), ps.length = ss.length ∧ ∀ j, j < ss.length → Fits (ss.getD j .bool) (ps.getD j .undef) := by
        intro ps hps
        obtain ⟨pv, hpv, rfl⟩ := List.mem_map.1 hps
        obtain ⟨i, hi, rfl⟩ := List.getElem_of_mem hpv
        have := hlq i (by omega)
        rw [List.getD_eq_getElem?_getD, List.getElem?_eq_getElem hi] at this
        exact ⟨this.1, this.2.1⟩
      refine one (.rows st B ss (l.map (·.1)) (by simp only [List.length_map]; rw [hll]; exact hsize) (fun ps h => (hin ps h).1) (fun ps h => (hin ps h).2)) rfl ?_
      cases len with
      | zero =>
        have : l = [] := List.length_eq_zero_iff.1 hll
        subst this
        exact .listE _ a cap
      | succ m =>
        obtain ⟨b, o, spot⟩ := a
        have hs : spot = none := by
          have h1 := ((hlq 0 (by omega)).2.2 0 h0).1
          cases spot with
          | none => rfl
          | some s =>
            simp only [World.cell?, Addr.add] at h1
            split at h1
            · simp at h1
            · cases h1
        subst hs
        have hadd : ∀ i j : Nat, ((⟨b, o, none⟩ : Addr).add i).add j = ⟨b, o + (i + j), none⟩ := by
          intro i j
          unfold Addr.add
          by_cases hi0 : i = 0 <;> by_cases hj0 : j = 0 <;> simp [hi0, hj0, Nat.add_assoc]
        have hgl : ∀ i, i < (l.map (·.1)).length → ((l.map (·.1)).map (elemPV st)).getD i .undef = elemPV st ((l.getD i ([], [])).1) := by
          intro i hi
          have hi' : i < l.length := by simpa using hi
          simp [List.getD_eq_getElem?_getD, hi']
        have hcl : ∀ i, i < m + 1 → cellsOf (((l.map (·.1)).map (elemPV st)).getD i .undef) = (l.getD i ([], [])).1 := by
          intro i hi
          rw [hgl i (by simp; omega)]
          exact fits_cells hst (hlq i hi).1 (hlq i hi).2.1
        refine .list ss.length _ (m + 1) b o cap (fun i j => (l.getD i ([], [])).2.getD j undef) (by simp [hll]) hl (fun h => h) h0 ?_ ?_ ?_ ?_
        · intro i hi
          have hi' : i < m + 1 := by simpa [hll] using hi
          rw [hcl i hi']
          exact (hlq i hi').1
        · intro i j hi hj
          have hi' : i < m + 1 := by simpa [hll] using hi
          have := ((hlq i hi').2.2 j hj).1
          rw [hadd] at this
          exact this
        · intro i j hi hj
          have hi' : i < m + 1 := by simpa [hll] using hi
          exact ((hlq i hi').2.2 j hj).2.1
        · intro i j hi hj
          have hi' : i < m + 1 := by simpa [hll] using hi
          rw [hcl i hi']
          exact ((hlq i hi').2.2 j hj).2.2
  | @struct t fs parts h hl ht hp ho ih =>
    intro fuel cs x hx hn
    obtain ⟨xs, n, _, rfl, hcl, hxl, hxs⟩ := DataW.trod_struct h hx
    rw [ht] at hcl
    have each : ∀ i, i < fs.size → ∃ ps : List PV, ps.length = (parts.getD i []).length ∧ (∀ j, j < (parts.getD i []).length → Fits ((parts.getD i []).getD j .bool) (ps.getD j .undef)) ∧ ∀ j, j < (parts.getD i []).length → (cs.getD ((parts.take i).flatten.length + j) undef).oneCell' = true ∧ RD w (fun _ => False) (ps.getD j .undef) (cs.getD ((parts.take i).flatten.length + j) undef) := by
      intro i hi
      have hfi : fs[i]? = some fs[i] := by simp [hi]
      have hxi : i < xs.length := by omega
      have h1 := hxs i _ hfi
      rw [List.getElem?_eq_getElem hxi] at h1
      obtain ⟨ps, hp1, hp2, hp3, hp4⟩ := ih i _ hfi h1 fun m hm => hn m (by
        simp only [DataW.weights, h]
        refine DataW.weights_mem_each (j := i) (t := fs[i].type) (d := xs[i].1) ?_ ?_ m hm
        · simp [hi]
        · simp [hxi])
      obtain ⟨hof, hce⟩ := ho i _ hfi
      refine ⟨ps, hp1, hp3, fun j hj => ?_⟩
      have e : ((cs.drop fs[i].offset).take (P.cellsOf fs[i].type)).getD j undef = cs.getD ((parts.take i).flatten.length + j) undef := by
        rw [hof, hce]
        generalize (parts.getD i []).length = k at hj
        simp only [List.getD_eq_getElem?_getD]
        rw [List.getElem?_take_of_lt hj, List.getElem?_drop]
      rw [← e]
      exact hp4 j hj
    obtain ⟨pss, hpl, hpq⟩ := choose_list [] fs.size each
    obtain ⟨hfl, hfj⟩ := flat_get Shape.bool PV.undef parts pss (by omega) fun i hi => (hpq i (by omega)).1
    refine ⟨pss.flatten, hfl, hcl, fun j hj => ?_, fun j hj => ?_⟩
    · obtain ⟨i, m, hi, hm, _, e1, e2⟩ := hfj j hj
      rw [e1, e2]
      exact (hpq i (by omega)).2.1 m hm
    · obtain ⟨i, m, hi, hm, e0, e1, e2⟩ := hfj j hj
      rw [e2, e0]
      exact (hpq i (by omega)).2.2 m hm

theorem weighs {ts : List TypeId} {ds : List (DataW H)} (h : (DataW.weightsEach P ts ds).all (· ≤ reachBytes) = true) {j : Nat} {t : TypeId} {d : DataW H} (ht : ts[j]? = some t) (hd : ds[j]? = some d) : ∀ n ∈ d.weights P t, n ≤ reachBytes := fun n hn => by
  have := List.all_eq_true.1 h n (DataW.weights_mem_each ht hd n hn)
  simpa using this
end
end Go.PV
set_option linter.unusedVariables false
set_option linter.unusedSimpArgs false
namespace Go.PV
open Go Go.RowKit
section
variable {P : Program}

end
end Go.PV
set_option linter.unusedVariables false
set_option linter.unusedSimpArgs false
namespace Go.PV
open Go Go.RowKit

section
variable {P : Program} {w w' : World} {ow ow' : Nat → Prop} {loc loc' : Locs} {n nt : Nat} {E : Entry P} {H : Heap} {F : Frame} {a : Act} {tt : Tab} {rows : Nat → Option Row}

end
end Go.PV
set_option maxHeartbeats 4000000
set_option maxRecDepth 4000
set_option exponentiation.threshold 300000
set_option linter.unusedVariables false
set_option linter.unusedSimpArgs false
namespace Go.Proofs.YtbmhnjghpjkjpaaDoor
open Go Go.PV

theorem least_of (p : Nat → Prop) : ∀ N, p N → ∃ n, p n ∧ ∀ m, m < n → ¬ p m := by
  intro N
  induction N using Nat.strongRecOn with
  | _ N ih =>
    intro h
    by_cases he : ∃ m, m < N ∧ p m
    · obtain ⟨m, hm, hp⟩ := he; exact ih m hm hp
    · exact ⟨N, h, fun m hm hp => he ⟨m, hm, hp⟩⟩

theorem chunk_ex (b : Nat) (hb : 2 ≤ b ∧ b ≤ 36) : ∃ k, 1 ≤ k ∧ k ≤ 64 ∧ b ^ k < 18446744073709551616 ∧ 18446744073709551616 ≤ b ^ (k + 1) ∧ ∀ m, 1 ≤ m → m < k → b ^ (m + 1) < 18446744073709551616 := by
  have h64 : 18446744073709551616 ≤ b ^ (63 + 1) := Nat.le_trans (by decide : 18446744073709551616 ≤ 2 ^ 64) (Nat.pow_le_pow_left hb.1 64)
  obtain ⟨k, hk, hmin⟩ := least_of (fun n => 18446744073709551616 ≤ b ^ (n + 1)) 63 h64
  have hk63 : k ≤ 63 := by
    rcases Nat.lt_or_ge 63 k with h | h
    · exact absurd h64 (hmin 63 h)
    · exact h
  have hk0 : k ≠ 0 := by
    rintro rfl
    rw [Nat.zero_add, Nat.pow_one] at hk; omega
  refine ⟨k, by omega, by omega, ?_, hk, fun m _ hm => by have := hmin m hm; omega⟩
  have := hmin (k - 1) (by omega)
  rw [show k - 1 + 1 = k by omega] at this
  omega

def ChI (b k : Nat) (n : Nat) (F : PV.Frame) (H : PV.Heap) : Prop :=
  ∃ i : Nat, 1 ≤ i ∧ i + n = k ∧ F = [(5, .int .u64 ((b ^ i : Nat) : Int)), (6, .int .i64 (i : Int)), (4, .int .u64 (b : Int))] ∧ H = ⟨0, [], [], []⟩

theorem numeral_chunk (b k : Nat) (hb : 2 ≤ b ∧ b ≤ 36) (h1 : 1 ≤ k) (h2 : k ≤ 64) (h3 : b ^ k < 18446744073709551616) (h4 : 18446744073709551616 ≤ b ^ (k + 1)) (h5 : ∀ m, 1 ≤ m → m < k → b ^ (m + 1) < 18446744073709551616) :
    Meets Tryd.prog 58 [.int .i64 (b : Int)] (.tup [.int .u64 ((b ^ k : Nat) : Int), .int .i64 (k : Int)]) := by
  refine meets_by ttOk Tryd.func58 Tryd.ntmps58 Tryd.results58 (by kernel_rfl) (c := _) rfl rfl rfl fun E => ?_
  simp only [argsFrame]
  repeat' first
    | (with_reducible first | refine PW.seq ?_ | refine PW.block ?_ | refine PW.fork ?_ | refine PW.skip ?_ | refine PW.exit ?_ | refine PW.ret ?_)
    | (with_reducible refine PW.region ttOk ?_ ?_
       · rfl)
    | (with_reducible refine PW.regionD ttOk mixed ?_ ?_ ?_
       · rfl
       · rfl)
    | (with_reducible refine ifW_dec (fun g => ?_) (fun g => ?_) <;> first | (exfalso; omega) | (simp -dsimp only [g, wkI]))
    | (with_reducible refine condE_dec (fun g => ?_) (fun g => ?_) <;> try (exfalso; omega))
    | (with_reducible refine condE_not (fun g => ?_) (fun g => ?_) <;> try (exfalso; omega))
    | (simp -dsimp only [↓wkA, ↓wkE, wkB, ↓tt, Nat.reduceBEq, Nat.reduceEqDiff, ↓reduceIte, Nat.reduceLT, Array.toList, Nat.reduceAdd, Nat.reduceMul, Int.reduceToNat, Int.reducePow, UInt8.reduceToNat])
    | (simp -dsimp (disch := first | assumption | omega) only [dec_t, dec_f])
    | (refine And.intro ?_ ?_
       · first | omega | decide | (simp (disch := omega) only [wkW, Int.reduceToNat, Int.reducePow] <;> omega) | (simp <;> omega))
    | (simp (disch := omega) only [wkW, Int.reduceToNat, Int.reducePow])
    | fail
  refine PW.loopA (ChI b k) (k - 1) [(5, .int .u64 ((b ^ 1 : Nat) : Int)), (6, .int .i64 ((1 : Nat) : Int)), (4, .int .u64 (b : Int))] ⟨0, [], [], []⟩ (Sub.norm ⟨?_, rfl, ?_, trivial⟩ trivial (by simp) rfl rfl rfl rfl) ⟨1, by omega, by omega, rfl, rfl⟩ ?_
  · rw [Nat.pow_one]; simp (disch := omega) only [↓wkA, ↓wkE, wkB, ↓tt, Nat.reduceBEq, Nat.reduceEqDiff, ↓reduceIte, Nat.reduceLT, Array.toList, Nat.reduceAdd, Nat.reduceMul, Int.reduceToNat, Int.reducePow, UInt8.reduceToNat, wkW, Int.reduceToNat, Int.reducePow]
  · simp (disch := omega) only [↓wkA, ↓wkE, wkB, ↓tt, Nat.reduceBEq, Nat.reduceEqDiff, ↓reduceIte, Nat.reduceLT, Array.toList, Nat.reduceAdd, Nat.reduceMul, Int.reduceToNat, Int.reducePow, UInt8.reduceToNat, wkW, Int.reduceToNat, Int.reducePow]
  rintro n F H ⟨i, hi, hn, rfl, rfl⟩
  have hlt : b ^ i < 18446744073709551616 := by
    by_cases e : i = k
    · subst e; exact h3
    · have := h5 i hi (by omega)
      refine Nat.lt_of_le_of_lt (Nat.pow_le_pow_right (by omega) (by omega : i ≤ i + 1)) this
  have hmul : ((b ^ i : Nat) : Int) * (b : Int) = ((b ^ (i + 1) : Nat) : Int) := by rw [Nat.pow_succ]; simp
  have hm := mul64 ((b ^ i : Nat) : Int) (b : Int) (by simp only [B64]; omega) (by simp only [B64]; omega)
  rw [hmul] at hm
  simp only [B64] at hm
  by_cases hk : i = k
  · subst hk
    repeat' first
      | (with_reducible first | refine PW.seq ?_ | refine PW.block ?_ | refine PW.fork ?_ | refine PW.skip ?_ | refine PW.exit ?_ | refine PW.ret ?_)
      | (with_reducible refine PW.region ttOk ?_ ?_
         · rfl)
      | (with_reducible refine PW.regionD ttOk mixed ?_ ?_ ?_
         · rfl
         · rfl)
      | (with_reducible refine ifW_dec (fun g => ?_) (fun g => ?_) <;> first | (exfalso; omega) | (simp -dsimp only [g, wkI]))
      | (with_reducible refine condE_dec (fun g => ?_) (fun g => ?_) <;> try (exfalso; omega))
      | (with_reducible refine condE_not (fun g => ?_) (fun g => ?_) <;> try (exfalso; omega))
      | (simp -dsimp only [↓wkA, ↓wkE, wkB, ↓tt, Nat.reduceBEq, Nat.reduceEqDiff, ↓reduceIte, Nat.reduceLT, Array.toList, Nat.reduceAdd, Nat.reduceMul, Int.reduceToNat, Int.reducePow, UInt8.reduceToNat])
      | (refine call_by hm (views_data rfl) ⟨trivial, trivial, trivial⟩ rfl ?_)
      | (simp -dsimp (disch := first | assumption | omega) only [dec_t, dec_f])
      | (refine And.intro ?_ ?_
         · first | omega | decide | (simp (disch := omega) only [wkW, Int.reduceToNat, Int.reducePow] <;> omega) | (simp <;> omega))
      | (simp (disch := omega) only [wkW, Int.reduceToNat, Int.reducePow])
      | fail
  · have := h5 i hi (by omega)
    repeat' first
      | (with_reducible first | refine PW.seq ?_ | refine PW.block ?_ | refine PW.fork ?_ | refine PW.skip ?_ | refine PW.exit ?_ | refine PW.ret ?_)
      | (with_reducible refine PW.region ttOk ?_ ?_
         · rfl)
      | (with_reducible refine PW.regionD ttOk mixed ?_ ?_ ?_
         · rfl
         · rfl)
      | (with_reducible refine ifW_dec (fun g => ?_) (fun g => ?_) <;> first | (exfalso; omega) | (simp -dsimp only [g, wkI]))
      | (with_reducible refine condE_dec (fun g => ?_) (fun g => ?_) <;> try (exfalso; omega))
      | (with_reducible refine condE_not (fun g => ?_) (fun g => ?_) <;> try (exfalso; omega))
      | (simp -dsimp only [↓wkA, ↓wkE, wkB, ↓tt, Nat.reduceBEq, Nat.reduceEqDiff, ↓reduceIte, Nat.reduceLT, Array.toList, Nat.reduceAdd, Nat.reduceMul, Int.reduceToNat, Int.reducePow, UInt8.reduceToNat])
      | (refine call_by hm (views_data rfl) ⟨trivial, trivial, trivial⟩ rfl ?_)
      | (simp -dsimp (disch := first | assumption | omega) only [dec_t, dec_f])
      | (refine And.intro ?_ ?_
         · first | omega | decide | (simp (disch := omega) only [wkW, Int.reduceToNat, Int.reducePow] <;> omega) | (simp <;> omega))
      | (simp (disch := omega) only [wkW, Int.reduceToNat, Int.reducePow])
      | fail
    refine Again.mk (n - 1) [(5, .int .u64 ((b ^ (i + 1) : Nat) : Int)), (6, .int .i64 ((i + 1 : Nat) : Int)), (4, .int .u64 (b : Int))] ⟨0, [], [], []⟩ (by omega) (Sub.norm ⟨?_, rfl, rfl, trivial⟩ trivial (by simp) rfl rfl rfl rfl) ⟨i + 1, by omega, by omega, rfl, rfl⟩
    simp -dsimp only [↓wkA, ↓wkE, wkB, ↓tt, Nat.reduceBEq, Nat.reduceEqDiff, ↓reduceIte, Nat.reduceLT, Array.toList, Nat.reduceAdd, Nat.reduceMul, Int.reduceToNat, Int.reducePow, UInt8.reduceToNat]
    refine congrArg _ ?_
    omega
end Go.Proofs.YtbmhnjghpjkjpaaDoor
set_option maxHeartbeats 4000000
set_option maxRecDepth 4000
set_option exponentiation.threshold 300000
set_option linter.unusedVariables false
set_option linter.unusedSimpArgs false
namespace Go.Proofs.YtbmhnjghpjkjpaaDoor
open Go Go.PV

theorem numeral_worth (c : Int) (hc : 0 ≤ c ∧ c < 256) : Meets Tryd.prog 57 [.int .u8 c] (.int .i64 (worth c)) := by
  refine meets_by ttOk Tryd.func57 Tryd.ntmps57 Tryd.results57 (by kernel_rfl) (c := _) rfl rfl rfl fun E => ?_
  simp only [argsFrame]
  repeat' first
    | (simp (disch := omega) only [wkW, Int.reduceToNat, Int.reducePow])
    | (with_reducible first | refine PW.seq ?_ | refine PW.block ?_ | refine PW.fork ?_ | refine PW.skip ?_ | refine PW.exit ?_ | refine PW.ret ?_)
    | (with_reducible refine PW.region ttOk ?_ ?_
       · rfl)
    | (with_reducible refine PW.regionD ttOk mixed ?_ ?_ ?_
       · rfl
       · rfl)
    | (with_reducible refine ifW_dec (fun g => ?_) (fun g => ?_) <;> first | (exfalso; omega) | (simp -dsimp only [g, wkI]))
    | (with_reducible refine condE_dec (fun g => ?_) (fun g => ?_) <;> try (exfalso; omega))
    | (with_reducible refine condE_not (fun g => ?_) (fun g => ?_) <;> try (exfalso; omega))
    | (simp -dsimp only [↓wkA, ↓wkE, wkB, ↓tt, Nat.reduceBEq, Nat.reduceEqDiff, ↓reduceIte, Nat.reduceLT, Array.toList, Nat.reduceAdd, Nat.reduceMul, Int.reduceToNat, Int.reducePow, UInt8.reduceToNat])
    | (simp -dsimp (disch := first | assumption | omega) only [dec_t, dec_f])
    | (refine And.intro ?_ ?_
       · first | omega | decide | (simp (disch := omega) only [wkW, Int.reduceToNat, Int.reducePow] <;> omega) | (simp <;> omega))
    | (simp (disch := omega) only [wkW, Int.reduceToNat, Int.reducePow])
    | fail
  all_goals
    refine congrArg _ ?_
    unfold worth
    repeat' split
    all_goals omega

theorem worth_nonneg (c : Int) : 0 ≤ worth c := by
  unfold worth
  repeat' split
  all_goals omega
theorem numN_mono (b : Nat) (hb : 1 ≤ b) (s : List Int) (i : Nat) : ∀ d, numN b s i ≤ numN b s (i + d)
  | 0 => Nat.le_refl _
  | d + 1 => by
    have := numN_mono b hb s i d
    rw [show i + (d + 1) = (i + d) + 1 by omega]
    simp only [numN]
    have h2 : numN b s (i + d) * 1 ≤ numN b s (i + d) * b := Nat.mul_le_mul_left _ hb
    omega

def Bytes' (l : List Int) : Prop := ∀ c ∈ l, 0 ≤ c ∧ c < 256
theorem getD_byte' {l : List Int} (hb : Bytes' l) {i : Nat} (h : i < l.length) : 0 ≤ l.getD i 0 ∧ l.getD i 0 < 256 := by
  rw [List.getD_eq_getElem?_getD, List.getElem?_eq_getElem h]; exact hb _ (List.getElem_mem h)
end Go.Proofs.YtbmhnjghpjkjpaaDoor
set_option maxHeartbeats 4000000
set_option maxRecDepth 4000
set_option exponentiation.threshold 300000
set_option linter.unusedVariables false
set_option linter.unusedSimpArgs false
namespace Go.Proofs.YtbmhnjghpjkjpaaDoor
open Go Go.PV

abbrev ff1 (s : List Int) (base : Int) (i : Nat) : PV.Frame := [(7, .int .i64 (i : Int)), (0, .str s), (1, .int .i64 base)]
def IFaul (s : List Int) (base : Int) (i0 m : Nat) (F : PV.Frame) (H : PV.Heap) : Prop :=
  ∃ i, i + m = i0 ∧ F = ff1 s base i ∧ H = ⟨0, [], [], []⟩

end Go.Proofs.YtbmhnjghpjkjpaaDoor
set_option maxHeartbeats 4000000
set_option maxRecDepth 4000
set_option exponentiation.threshold 300000
set_option linter.unusedVariables false
set_option linter.unusedSimpArgs false
namespace Go.Proofs.YtbmhnjghpjkjpaaDoor
open Go Go.PV

abbrev ffO (b k : Nat) (s : List Int) (i n : Nat) : PV.Frame := [(11, .int .i64 (i : Int)), (10, .sl 0 0 n true), (9, .int .i64 (k : Int)), (0, .str s), (1, .int .i64 (b : Int))]
abbrev fhO (a : List Int) : PV.Heap := ⟨1, [(0, .ints .u64 a)], [], []⟩
def FOut (b k : Nat) (s : List Int) (m : Nat) (F : PV.Frame) (H : PV.Heap) : Prop :=
  ∃ i a, i + m = s.length ∧ Limbs a ∧ Nrm a ∧ val a = (numN b s i : Int) ∧ a.length ≤ 4096 ∧ F = ffO b k s i a.length ∧ H = fhO a
def FDig (b k : Nat) (s a : List Int) (i0 m : Nat) (F : PV.Frame) (H : PV.Heap) : Prop :=
  ∃ j part : Nat, j + m = k ∧ i0 + j ≤ s.length ∧ part < b ^ j ∧ numN b s i0 * b ^ j + part = numN b s (i0 + j) ∧
    F = (14, .int .i64 (j : Int)) :: (12, .int .u64 (part : Int)) :: (13, .int .u64 ((b ^ j : Nat) : Int)) :: ffO b k s (i0 + j) a.length ∧ H = fhO a
def FMul (b k : Nat) (s a : List Int) (i : Nat) (f p0 : Int) (m : Nat) (F : PV.Frame) (H : PV.Heap) : Prop :=
  ∃ j t p, j + m = a.length ∧ MulA a t f p0 j p ∧ F = (79, .int .i64 (j : Int)) :: (78, .int .i64 (a.length : Int)) :: (12, .int .u64 p) :: (13, .int .u64 f) :: ffO b k s i a.length ∧ H = fhO t

set_option maxHeartbeats 1000000 in
theorem from_base_main (s : List Int) (hs : Bytes' s) (hsl : s.length ≤ 1000000000000000) (b : Nat) (hb : 2 ≤ b ∧ b ≤ 36) (hne : s ≠ []) (hok : ∀ j, j < s.length → worth (s.getD j 0) < b)
    (R : PV) (hR1 : ((num b s : Nat) : Int) < B64 ^ 4096 → R = .tup [.ints .u64 (natL (num b s)), .int .i64 0, .int .i64 0]) (hR2 : ¬ ((num b s : Nat) : Int) < B64 ^ 4096 → R = .tup [.nil, .int .i64 0, .int .i64 2]) :
    Meets Tryd.prog 41 [.str s, .int .i64 (b : Int)] R := by
  refine meets_by ttOk Tryd.func41 Tryd.ntmps41 Tryd.results41 (by kernel_rfl) (c := _) rfl rfl rfl fun E => ?_
  simp only [argsFrame]
  have hd : decide (s = []) = false := by simp [hne]
  obtain ⟨k, hk1, hk2, hk3, hk4, hk5⟩ := chunk_ex b hb
  have hchunk := numeral_chunk b k hb hk1 hk2 hk3 hk4 hk5
  repeat' first
    | (simp only [bytesI_mk, List.map_nil, hd, condE_f])
    | (with_reducible first | refine PW.seq ?_ | refine PW.block ?_ | refine PW.fork ?_ | refine PW.skip ?_ | refine PW.exit ?_ | refine PW.ret ?_)
    | (with_reducible refine PW.region ttOk ?_ ?_
       · rfl)
    | (with_reducible refine PW.regionD ttOk mixed ?_ ?_ ?_
       · rfl
       · rfl)
    | (with_reducible refine ifW_dec (fun g => ?_) (fun g => ?_) <;> first | (exfalso; omega) | (simp -dsimp only [g, wkI]))
    | (with_reducible refine condE_dec (fun g => ?_) (fun g => ?_) <;> try (exfalso; omega))
    | (with_reducible refine condE_not (fun g => ?_) (fun g => ?_) <;> try (exfalso; omega))
    | (simp -dsimp only [↓wkA, ↓wkE, wkB, ↓tt, Nat.reduceBEq, Nat.reduceEqDiff, ↓reduceIte, Nat.reduceLT, Array.toList, Nat.reduceAdd, Nat.reduceMul, Int.reduceToNat, Int.reducePow, UInt8.reduceToNat])
    | (simp -dsimp (disch := first | assumption | omega) only [dec_t, dec_f])
    | (refine And.intro ?_ ?_
       · first | omega | decide | (simp (disch := omega) only [wkW, Int.reduceToNat, Int.reducePow] <;> omega) | (simp <;> omega))
    | (simp (disch := omega) only [wkW, Int.reduceToNat, Int.reducePow])
    | fail
  refine PW.meetB (fun F H => F = [(0, .str s), (1, .int .i64 (b : Int))] ∧ H = ⟨0, [], [], []⟩) ?_ ?_
  · refine PW.loopA (IFaul s b s.length) s.length (ff1 s b 0) ⟨0, [], [], []⟩ (Sub.norm ⟨rfl, rfl, rfl, trivial⟩ trivial (Nat.le_refl _) rfl rfl rfl rfl) ⟨0, by omega, rfl, rfl⟩ ?_
    rintro m F H ⟨i, hi, rfl, rfl⟩
    by_cases hlast : i = s.length
    · skip
      repeat' first
        | (with_reducible first | refine PW.seq ?_ | refine PW.block ?_ | refine PW.fork ?_ | refine PW.skip ?_ | refine PW.exit ?_ | refine PW.ret ?_)
        | (with_reducible refine PW.region ttOk ?_ ?_
           · rfl)
        | (with_reducible refine PW.regionD ttOk mixed ?_ ?_ ?_
           · rfl
           · rfl)
        | (with_reducible refine ifW_dec (fun g => ?_) (fun g => ?_) <;> first | (exfalso; omega) | (simp -dsimp only [g, wkI]))
        | (with_reducible refine condE_dec (fun g => ?_) (fun g => ?_) <;> try (exfalso; omega))
        | (with_reducible refine condE_not (fun g => ?_) (fun g => ?_) <;> try (exfalso; omega))
        | (simp -dsimp only [↓wkA, ↓wkE, wkB, ↓tt, Nat.reduceBEq, Nat.reduceEqDiff, ↓reduceIte, Nat.reduceLT, Array.toList, Nat.reduceAdd, Nat.reduceMul, Int.reduceToNat, Int.reducePow, UInt8.reduceToNat])
        | (simp -dsimp (disch := first | assumption | omega) only [dec_t, dec_f])
        | (refine And.intro ?_ ?_
           · first | omega | decide | (simp (disch := omega) only [wkW, Int.reduceToNat, Int.reducePow] <;> omega) | (simp <;> omega))
        | (simp (disch := omega) only [wkW, Int.reduceToNat, Int.reducePow])
        | fail
      exact Meet.mk [(0, .str s), (1, .int .i64 (b : Int))] ⟨0, [], [], []⟩ (Sub.norm ⟨rfl, rfl, trivial⟩ trivial (Nat.le_refl _) rfl rfl rfl rfl) ⟨rfl, rfl⟩
    · have := hok i (by omega)
      have hw := numeral_worth (s.getD i 0) (getD_byte' hs (by omega))
      repeat' first
        | (with_reducible first | refine PW.seq ?_ | refine PW.block ?_ | refine PW.fork ?_ | refine PW.skip ?_ | refine PW.exit ?_ | refine PW.ret ?_)
        | (with_reducible refine PW.region ttOk ?_ ?_
           · rfl)
        | (with_reducible refine PW.regionD ttOk mixed ?_ ?_ ?_
           · rfl
           · rfl)
        | (with_reducible refine ifW_dec (fun g => ?_) (fun g => ?_) <;> first | (exfalso; omega) | (simp -dsimp only [g, wkI]))
        | (with_reducible refine condE_dec (fun g => ?_) (fun g => ?_) <;> try (exfalso; omega))
        | (with_reducible refine condE_not (fun g => ?_) (fun g => ?_) <;> try (exfalso; omega))
        | (simp -dsimp only [↓wkA, ↓wkE, wkB, ↓tt, Nat.reduceBEq, Nat.reduceEqDiff, ↓reduceIte, Nat.reduceLT, Array.toList, Nat.reduceAdd, Nat.reduceMul, Int.reduceToNat, Int.reducePow, UInt8.reduceToNat])
        | (refine call_by hw (views_data rfl) ⟨trivial, trivial⟩ rfl ?_)
        | (simp -dsimp (disch := first | assumption | omega) only [dec_t, dec_f])
        | (refine And.intro ?_ ?_
           · first | omega | decide | (simp (disch := omega) only [wkW, Int.reduceToNat, Int.reducePow] <;> omega) | (simp <;> omega))
        | (simp (disch := omega) only [wkW, Int.reduceToNat, Int.reducePow])
        | fail
      exact Again.mk (m - 1) (ff1 s b (i + 1)) ⟨0, [], [], []⟩ (by omega) (Sub.norm ⟨rfl, rfl, rfl, trivial⟩ trivial (Nat.le_refl _) rfl rfl rfl rfl) ⟨i + 1, by omega, rfl, rfl⟩
  rintro F H ⟨rfl, rfl⟩
  repeat' first
    | (with_reducible first | refine PW.seq ?_ | refine PW.block ?_ | refine PW.fork ?_ | refine PW.skip ?_ | refine PW.exit ?_ | refine PW.ret ?_)
    | (with_reducible refine PW.region ttOk ?_ ?_
       · rfl)
    | (with_reducible refine PW.regionD ttOk mixed ?_ ?_ ?_
       · rfl
       · rfl)
    | (with_reducible refine ifW_dec (fun g => ?_) (fun g => ?_) <;> first | (exfalso; omega) | (simp -dsimp only [g, wkI]))
    | (with_reducible refine condE_dec (fun g => ?_) (fun g => ?_) <;> try (exfalso; omega))
    | (with_reducible refine condE_not (fun g => ?_) (fun g => ?_) <;> try (exfalso; omega))
    | (simp -dsimp only [↓wkA, ↓wkE, wkB, ↓tt, Nat.reduceBEq, Nat.reduceEqDiff, ↓reduceIte, Nat.reduceLT, Array.toList, Nat.reduceAdd, Nat.reduceMul, Int.reduceToNat, Int.reducePow, UInt8.reduceToNat])
    | (refine call_by hchunk (views_data rfl) ⟨trivial, trivial⟩ rfl ?_)
    | (simp -dsimp (disch := first | assumption | omega) only [dec_t, dec_f])
    | (refine And.intro ?_ ?_
       · first | omega | decide | (simp (disch := omega) only [wkW, Int.reduceToNat, Int.reducePow] <;> omega) | (simp <;> omega))
    | (simp (disch := omega) only [wkW, Int.reduceToNat, Int.reducePow])
    | fail
  refine PW.meetB (fun F H => ∃ a, Limbs a ∧ Nrm a ∧ val a = (num b s : Int) ∧ a.length ≤ 4096 ∧ F = [(10, .sl 0 0 a.length true)] ∧ H = fhO a) ?_ ?_
  · refine PW.loopA (FOut b k s) s.length (ffO b k s 0 0) (fhO []) (Sub.trans (Sub.nilVar 10 23 .u64 rfl) (Sub.norm ⟨rfl, rfl, rfl, rfl, rfl, trivial⟩ ⟨rfl, trivial⟩ (Nat.le_refl _) rfl rfl rfl rfl)) ⟨0, [], by omega, (fun x hx => by cases hx), (fun h => absurd rfl h), rfl, by simp, rfl, rfl⟩ ?_
    rintro m F H ⟨i, a, hi, haL, haN, hav, hal, rfl, rfl⟩
    by_cases hlast : i = s.length
    · subst hlast
      repeat' first
        | (with_reducible first | refine PW.seq ?_ | refine PW.block ?_ | refine PW.fork ?_ | refine PW.skip ?_ | refine PW.exit ?_ | refine PW.ret ?_)
        | (with_reducible refine PW.region ttOk ?_ ?_
           · rfl)
        | (with_reducible refine PW.regionD ttOk mixed ?_ ?_ ?_
           · rfl
           · rfl)
        | (with_reducible refine ifW_dec (fun g => ?_) (fun g => ?_) <;> first | (exfalso; omega) | (simp -dsimp only [g, wkI]))
        | (with_reducible refine condE_dec (fun g => ?_) (fun g => ?_) <;> try (exfalso; omega))
        | (with_reducible refine condE_not (fun g => ?_) (fun g => ?_) <;> try (exfalso; omega))
        | (simp -dsimp only [↓wkA, ↓wkE, wkB, ↓tt, Nat.reduceBEq, Nat.reduceEqDiff, ↓reduceIte, Nat.reduceLT, Array.toList, Nat.reduceAdd, Nat.reduceMul, Int.reduceToNat, Int.reducePow, UInt8.reduceToNat])
        | (simp -dsimp (disch := first | assumption | omega) only [dec_t, dec_f])
        | (refine And.intro ?_ ?_
           · first | omega | decide | (simp (disch := omega) only [wkW, Int.reduceToNat, Int.reducePow] <;> omega) | (simp <;> omega))
        | (simp (disch := omega) only [wkW, Int.reduceToNat, Int.reducePow])
        | fail
      exact Meet.mk [(10, .sl 0 0 a.length true)] (fhO a) (Sub.norm ⟨rfl, trivial⟩ ⟨rfl, trivial⟩ (Nat.le_refl _) rfl rfl rfl rfl) ⟨a, haL, haN, hav, hal, rfl, rfl⟩
    repeat' first
      | (with_reducible first | refine PW.seq ?_ | refine PW.block ?_ | refine PW.fork ?_ | refine PW.skip ?_ | refine PW.exit ?_ | refine PW.ret ?_)
      | (with_reducible refine PW.region ttOk ?_ ?_
         · rfl)
      | (with_reducible refine PW.regionD ttOk mixed ?_ ?_ ?_
         · rfl
         · rfl)
      | (with_reducible refine ifW_dec (fun g => ?_) (fun g => ?_) <;> first | (exfalso; omega) | (simp -dsimp only [g, wkI]))
      | (with_reducible refine condE_dec (fun g => ?_) (fun g => ?_) <;> try (exfalso; omega))
      | (with_reducible refine condE_not (fun g => ?_) (fun g => ?_) <;> try (exfalso; omega))
      | (simp -dsimp only [↓wkA, ↓wkE, wkB, ↓tt, Nat.reduceBEq, Nat.reduceEqDiff, ↓reduceIte, Nat.reduceLT, Array.toList, Nat.reduceAdd, Nat.reduceMul, Int.reduceToNat, Int.reducePow, UInt8.reduceToNat])
      | (simp -dsimp (disch := first | assumption | omega) only [dec_t, dec_f])
      | (refine And.intro ?_ ?_
         · first | omega | decide | (simp (disch := omega) only [wkW, Int.reduceToNat, Int.reducePow] <;> omega) | (simp <;> omega))
      | (simp (disch := omega) only [wkW, Int.reduceToNat, Int.reducePow])
      | fail
    -- a chunk of digits
    refine PW.meetB (fun F H => ∃ j part : Nat, j ≠ 0 ∧ j ≤ k ∧ i + j ≤ s.length ∧ part < b ^ j ∧ numN b s i * b ^ j + part = numN b s (i + j) ∧ F = (12, .int .u64 (part : Int)) :: (13, .int .u64 ((b ^ j : Nat) : Int)) :: ffO b k s (i + j) a.length ∧ H = fhO a) ?_ ?_
    · refine PW.loopA (FDig b k s a i) k ((14, .int .i64 ((0 : Nat) : Int)) :: (12, .int .u64 ((0 : Nat) : Int)) :: (13, .int .u64 ((b ^ 0 : Nat) : Int)) :: ffO b k s (i + 0) a.length) (fhO a) (Sub.norm ⟨rfl, rfl, rfl, rfl, rfl, rfl, rfl, rfl, trivial⟩ ⟨rfl, trivial⟩ (Nat.le_refl _) rfl rfl rfl rfl) ⟨0, 0, by omega, by omega, by simp, by simp, rfl, rfl⟩ ?_
      rintro m2 F H ⟨j, part, hjm, hjs, hpl, hpe, rfl, rfl⟩
      by_cases hgo : j < k ∧ i + j < s.length
      · have hwj := hok (i + j) (by omega)
        have hw0 := worth_nonneg (s.getD (i + j) 0)
        have hw := numeral_worth (s.getD (i + j) 0) (getD_byte' hs (by omega))
        obtain ⟨d, hd2⟩ := Int.eq_ofNat_of_zero_le hw0
        rw [hd2] at hw hwj
        have hpow : b ^ (j + 1) ≤ b ^ k := Nat.pow_le_pow_right (by omega) (by omega)
        have hps : b ^ (j + 1) = b ^ j * b := Nat.pow_succ b j
        have hpb : part * b + d < b ^ (j + 1) := by
          have : (part + 1) * b ≤ b ^ j * b := Nat.mul_le_mul_right _ (by omega)
          rw [Nat.add_mul] at this
          omega
        have hb64 : IntKind.wrap .u64 (b : Int) = (b : Int) := wrap_u64 (by omega)
        have e1 : ((part : Nat) : Int) * (b : Int) = ((part * b : Nat) : Int) := by simp
        have e2 : ((b ^ j : Nat) : Int) * (b : Int) = ((b ^ (j + 1) : Nat) : Int) := by rw [hps]; simp
        have e3 : ((part * b : Nat) : Int) + (d : Int) = ((part * b + d : Nat) : Int) := by simp
        have w1 : IntKind.wrap .u64 ((part * b : Nat) : Int) = ((part * b : Nat) : Int) := wrap_u64 (by omega)
        have w2 : IntKind.wrap .u64 ((b ^ (j + 1) : Nat) : Int) = ((b ^ (j + 1) : Nat) : Int) := wrap_u64 (by omega)
        have w3 : IntKind.wrap .u64 ((part * b + d : Nat) : Int) = ((part * b + d : Nat) : Int) := wrap_u64 (by omega)
        have w4 : IntKind.wrap .u64 (d : Int) = (d : Int) := wrap_u64 (by omega)
        have e5 : ((i + j : Nat) : Int).toNat = i + j := Int.toNat_natCast _
        repeat' first
          | (simp only [hb64, e1, e2, e3, w1, w2, w3, w4, e5])
          | (with_reducible first | refine PW.seq ?_ | refine PW.block ?_ | refine PW.fork ?_ | refine PW.skip ?_ | refine PW.exit ?_ | refine PW.ret ?_)
          | (with_reducible refine PW.region ttOk ?_ ?_
             · rfl)
          | (with_reducible refine PW.regionD ttOk mixed ?_ ?_ ?_
             · rfl
             · rfl)
          | (with_reducible refine ifW_dec (fun g => ?_) (fun g => ?_) <;> first | (exfalso; omega) | (simp -dsimp only [g, wkI]))
          | (with_reducible refine condE_dec (fun g => ?_) (fun g => ?_) <;> try (exfalso; omega))
          | (with_reducible refine condE_not (fun g => ?_) (fun g => ?_) <;> try (exfalso; omega))
          | (simp -dsimp only [↓wkA, ↓wkE, wkB, ↓tt, Nat.reduceBEq, Nat.reduceEqDiff, ↓reduceIte, Nat.reduceLT, Array.toList, Nat.reduceAdd, Nat.reduceMul, Int.reduceToNat, Int.reducePow, UInt8.reduceToNat])
          | (refine call_by hw (views_data rfl) ⟨trivial, trivial⟩ rfl ?_)
          | (simp -dsimp (disch := first | assumption | omega) only [dec_t, dec_f])
          | (refine And.intro ?_ ?_
             · first | omega | decide | (simp (disch := omega) only [wkW, Int.reduceToNat, Int.reducePow] <;> omega) | (simp <;> omega))
          | (simp (disch := omega) only [wkW, Int.reduceToNat, Int.reducePow])
          | fail
        refine Again.mk (m2 - 1) ((14, .int .i64 ((j + 1 : Nat) : Int)) :: (12, .int .u64 ((part * b + d : Nat) : Int)) :: (13, .int .u64 ((b ^ (j + 1) : Nat) : Int)) :: ffO b k s (i + (j + 1)) a.length) (fhO a) (by omega) (Sub.norm ⟨rfl, rfl, rfl, rfl, rfl, rfl, rfl, rfl, trivial⟩ ⟨rfl, trivial⟩ (Nat.le_refl _) rfl rfl rfl rfl) ⟨j + 1, part * b + d, by omega, by omega, hpb, ?_, rfl, rfl⟩
        rw [show i + (j + 1) = (i + j) + 1 by omega]
        simp only [numN]
        rw [hd2, Int.toNat_natCast, ← hpe, hps]
        grind
      · skip
        repeat' first
          | (with_reducible first | refine PW.seq ?_ | refine PW.block ?_ | refine PW.fork ?_ | refine PW.skip ?_ | refine PW.exit ?_ | refine PW.ret ?_)
          | (with_reducible refine PW.region ttOk ?_ ?_
             · rfl)
          | (with_reducible refine PW.regionD ttOk mixed ?_ ?_ ?_
             · rfl
             · rfl)
          | (with_reducible refine ifW_dec (fun g => ?_) (fun g => ?_) <;> first | (exfalso; omega) | (simp -dsimp only [g, wkI]))
          | (with_reducible refine condE_dec (fun g => ?_) (fun g => ?_) <;> try (exfalso; omega))
          | (with_reducible refine condE_not (fun g => ?_) (fun g => ?_) <;> try (exfalso; omega))
          | (simp -dsimp only [↓wkA, ↓wkE, wkB, ↓tt, Nat.reduceBEq, Nat.reduceEqDiff, ↓reduceIte, Nat.reduceLT, Array.toList, Nat.reduceAdd, Nat.reduceMul, Int.reduceToNat, Int.reducePow, UInt8.reduceToNat])
          | (simp -dsimp (disch := first | assumption | omega) only [dec_t, dec_f])
          | (refine And.intro ?_ ?_
             · first | omega | decide | (simp (disch := omega) only [wkW, Int.reduceToNat, Int.reducePow] <;> omega) | (simp <;> omega))
          | (simp (disch := omega) only [wkW, Int.reduceToNat, Int.reducePow])
          | fail
        all_goals exact Meet.mk ((12, .int .u64 (part : Int)) :: (13, .int .u64 ((b ^ j : Nat) : Int)) :: ffO b k s (i + j) a.length) (fhO a) (Sub.norm ⟨rfl, rfl, rfl, rfl, rfl, rfl, rfl, trivial⟩ ⟨rfl, trivial⟩ (Nat.le_refl _) rfl rfl rfl rfl) ⟨j, part, by omega, by omega, hjs, hpl, hpe, rfl, rfl⟩
    rintro F H ⟨j, part, hj0, hjk, hjs, hpl, hpe, rfl, rfl⟩
    have hf1 : 1 ≤ b ^ j := Nat.pow_pos (by omega)
    have hf2 : b ^ j < 18446744073709551616 := Nat.lt_of_le_of_lt (Nat.pow_le_pow_right (by omega) hjk) hk3
    obtain ⟨f, hf⟩ : ∃ f : Int, ((b ^ j : Nat) : Int) = f := ⟨_, rfl⟩
    have hf0 : 0 < f ∧ f < B64 := by simp only [B64]; omega
    have hf64 := hf0
    simp only [B64] at hf64
    simp only [hf]
    repeat' first
      | (with_reducible first | refine PW.seq ?_ | refine PW.block ?_ | refine PW.fork ?_ | refine PW.skip ?_ | refine PW.exit ?_ | refine PW.ret ?_)
      | (with_reducible refine PW.region ttOk ?_ ?_
         · rfl)
      | (with_reducible refine PW.regionD ttOk mixed ?_ ?_ ?_
         · rfl
         · rfl)
      | (with_reducible refine ifW_dec (fun g => ?_) (fun g => ?_) <;> first | (exfalso; omega) | (simp -dsimp only [g, wkI]))
      | (with_reducible refine condE_dec (fun g => ?_) (fun g => ?_) <;> try (exfalso; omega))
      | (with_reducible refine condE_not (fun g => ?_) (fun g => ?_) <;> try (exfalso; omega))
      | (simp -dsimp only [↓wkA, ↓wkE, wkB, ↓tt, Nat.reduceBEq, Nat.reduceEqDiff, ↓reduceIte, Nat.reduceLT, Array.toList, Nat.reduceAdd, Nat.reduceMul, Int.reduceToNat, Int.reducePow, UInt8.reduceToNat])
      | (simp -dsimp (disch := first | assumption | omega) only [dec_t, dec_f])
      | (refine And.intro ?_ ?_
         · first | omega | decide | (simp (disch := omega) only [wkW, Int.reduceToNat, Int.reducePow] <;> omega) | (simp <;> omega))
      | (simp (disch := omega) only [wkW, Int.reduceToNat, Int.reducePow])
      | fail
    refine PW.meetB (fun F H => ∃ t p, MulA a t f part a.length p ∧ F = (12, .int .u64 p) :: ffO b k s (i + j) a.length ∧ H = fhO t) ?_ ?_
    · refine PW.loopA (FMul b k s a (i + j) f part) a.length ((79, .int .i64 ((0 : Nat) : Int)) :: (78, .int .i64 (a.length : Int)) :: (12, .int .u64 (part : Int)) :: (13, .int .u64 f) :: ffO b k s (i + j) a.length) (fhO a) (Sub.norm ⟨rfl, rfl, rfl, rfl, rfl, rfl, rfl, rfl, rfl, trivial⟩ ⟨rfl, trivial⟩ (Nat.le_refl _) rfl rfl rfl rfl) ⟨0, a, part, by omega, MulA.start haL (by simp only [B64]; omega), rfl, rfl⟩ ?_
      rintro m2 F H ⟨jj, t, p, hjm, hmul, rfl, rfl⟩
      have htl := hmul.len
      have hcar := hmul.car
      by_cases hend : jj = a.length
      · subst hend
        repeat' first
          | (with_reducible first | refine PW.seq ?_ | refine PW.block ?_ | refine PW.fork ?_ | refine PW.skip ?_ | refine PW.exit ?_ | refine PW.ret ?_)
          | (with_reducible refine PW.region ttOk ?_ ?_
             · rfl)
          | (with_reducible refine PW.regionD ttOk mixed ?_ ?_ ?_
             · rfl
             · rfl)
          | (with_reducible refine ifW_dec (fun g => ?_) (fun g => ?_) <;> first | (exfalso; omega) | (simp -dsimp only [g, wkI]))
          | (with_reducible refine condE_dec (fun g => ?_) (fun g => ?_) <;> try (exfalso; omega))
          | (with_reducible refine condE_not (fun g => ?_) (fun g => ?_) <;> try (exfalso; omega))
          | (simp -dsimp only [↓wkA, ↓wkE, wkB, ↓tt, Nat.reduceBEq, Nat.reduceEqDiff, ↓reduceIte, Nat.reduceLT, Array.toList, Nat.reduceAdd, Nat.reduceMul, Int.reduceToNat, Int.reducePow, UInt8.reduceToNat])
          | (simp -dsimp (disch := first | assumption | omega) only [dec_t, dec_f])
          | (refine And.intro ?_ ?_
             · first | omega | decide | (simp (disch := omega) only [wkW, Int.reduceToNat, Int.reducePow] <;> omega) | (simp <;> omega))
          | (simp (disch := omega) only [wkW, Int.reduceToNat, Int.reducePow])
          | fail
        exact Meet.mk ((12, .int .u64 p) :: ffO b k s (i + j) a.length) (fhO t) (Sub.norm ⟨rfl, rfl, rfl, rfl, rfl, rfl, trivial⟩ ⟨rfl, trivial⟩ (Nat.le_refl _) rfl rfl rfl rfl) ⟨t, p, hmul, rfl, rfl⟩
      · have hx := getD_limb haL jj
        have hxt := hmul.high jj (Nat.le_refl _)
        have hstep := hmul.step haL (by omega) hf0
        have hm := mul64 (a.getD jj 0) f hx ⟨by omega, hf0.2⟩
        have hxf : 0 ≤ a.getD jj 0 * f := Int.mul_nonneg hx.1 (by omega)
        have hxf2 : a.getD jj 0 * f ≤ 340282366920938463426481119284349108225 := Int.le_trans (Int.mul_le_mul (show a.getD jj 0 ≤ 18446744073709551615 by simp only [B64] at hx; omega) (show f ≤ 18446744073709551615 by omega) (by omega) (by omega)) (by decide)
        simp only [B64] at hm hcar hx
        repeat' first
          | (simp only [hxt])
          | (with_reducible first | refine PW.seq ?_ | refine PW.block ?_ | refine PW.fork ?_ | refine PW.skip ?_ | refine PW.exit ?_ | refine PW.ret ?_)
          | (with_reducible refine PW.region ttOk ?_ ?_
             · rfl)
          | (with_reducible refine PW.regionD ttOk mixed ?_ ?_ ?_
             · rfl
             · rfl)
          | (with_reducible refine ifW_dec (fun g => ?_) (fun g => ?_) <;> first | (exfalso; omega) | (simp -dsimp only [g, wkI]))
          | (with_reducible refine condE_dec (fun g => ?_) (fun g => ?_) <;> try (exfalso; omega))
          | (with_reducible refine condE_not (fun g => ?_) (fun g => ?_) <;> try (exfalso; omega))
          | (simp -dsimp only [↓wkA, ↓wkE, wkB, ↓tt, Nat.reduceBEq, Nat.reduceEqDiff, ↓reduceIte, Nat.reduceLT, Array.toList, Nat.reduceAdd, Nat.reduceMul, Int.reduceToNat, Int.reducePow, UInt8.reduceToNat])
          | (refine call_by hm (views_data rfl) ⟨trivial, trivial, trivial⟩ rfl ?_)
          | (refine call_by (add64 (by omega) (by omega) (by omega)) (views_data rfl) ⟨trivial, trivial, trivial, trivial⟩ rfl ?_)
          | (simp -dsimp (disch := first | assumption | omega) only [dec_t, dec_f])
          | (refine And.intro ?_ ?_
             · first | omega | decide | (simp (disch := omega) only [wkW, Int.reduceToNat, Int.reducePow] <;> omega) | (simp <;> omega))
          | (simp (disch := omega) only [wkW, Int.reduceToNat, Int.reducePow])
          | fail
        have hs1 : a.getD jj 0 * f / 18446744073709551616 + (a.getD jj 0 * f % 18446744073709551616 + p + 0) / 18446744073709551616 = (a.getD jj 0 * f + p) / B64 := by
          simp only [B64]; omega
        have hs2 : (a.getD jj 0 * f % 18446744073709551616 + p + 0) % 18446744073709551616 = (a.getD jj 0 * f + p) % B64 := by
          simp only [B64]; omega
        rw [hs1, hs2]
        exact Again.mk (m2 - 1) ((79, .int .i64 ((jj + 1 : Nat) : Int)) :: (78, .int .i64 (a.length : Int)) :: (12, .int .u64 ((a.getD jj 0 * f + p) / B64)) :: (13, .int .u64 f) :: ffO b k s (i + j) a.length) (fhO (t.set jj ((a.getD jj 0 * f + p) % B64))) (by omega) (Sub.norm ⟨rfl, rfl, rfl, rfl, rfl, rfl, rfl, rfl, rfl, trivial⟩ ⟨rfl, trivial⟩ (Nat.le_refl _) rfl rfl rfl rfl) ⟨jj + 1, _, _, by omega, hstep, rfl, rfl⟩
    rintro F H ⟨t, p, hmul, rfl, rfl⟩
    have htl := hmul.len
    have hcar := hmul.car
    have heq := hmul.eq
    have hva : vt a a.length = val a := rfl
    have hvt : vt t a.length = val t := by unfold val; rw [htl]
    rw [hva, hvt, hav] at heq
    have hN : (numN b s i : Int) * f + part = (numN b s (i + j) : Int) := by
      rw [← hf, ← hpe]; simp
    rw [hN] at heq
    have hval0 : val a ≤ val a * f := by
      have h1 : 0 ≤ val a := by rw [hav]; omega
      have := Int.mul_le_mul_of_nonneg_left (show 1 ≤ f by omega) h1
      omega
    have hmono := numN_mono b (by omega) s (i + j) (s.length - (i + j))
    rw [show i + j + (s.length - (i + j)) = s.length by omega] at hmono
    have toobig : ∀ l : List Int, Nrm l → val l = (numN b s (i + j) : Int) → 4096 < l.length → R = .tup [.nil, .int .i64 0, .int .i64 2] := by
      intro l hln hlv hll
      refine hR2 fun hsm => ?_
      have h1 := hln (by omega)
      have h2 := pow_mono64 (show 4096 ≤ l.length - 1 by omega)
      unfold num at hsm
      omega
    by_cases hp0 : p = 0
    · subst hp0
      have hvt2 : val t = (numN b s (i + j) : Int) := by rw [← heq]; simp
      have htn : Nrm t := fun h0 => by
        rw [htl] at h0 ⊢
        have := haN h0
        rw [hvt2, ← hN, ← hav]; omega
      rw [← htl]
      repeat' first
        | (with_reducible first | refine PW.seq ?_ | refine PW.block ?_ | refine PW.fork ?_ | refine PW.skip ?_ | refine PW.exit ?_ | refine PW.ret ?_)
        | (with_reducible refine PW.region ttOk ?_ ?_
           · rfl)
        | (with_reducible refine PW.regionD ttOk mixed ?_ ?_ ?_
           · rfl
           · rfl)
        | (with_reducible refine ifW_dec (fun g => ?_) (fun g => ?_) <;> first | (exfalso; omega) | (simp -dsimp only [g, wkI]))
        | (with_reducible refine condE_dec (fun g => ?_) (fun g => ?_) <;> try (exfalso; omega))
        | (with_reducible refine condE_not (fun g => ?_) (fun g => ?_) <;> try (exfalso; omega))
        | (simp -dsimp only [↓wkA, ↓wkE, wkB, ↓tt, Nat.reduceBEq, Nat.reduceEqDiff, ↓reduceIte, Nat.reduceLT, Array.toList, Nat.reduceAdd, Nat.reduceMul, Int.reduceToNat, Int.reducePow, UInt8.reduceToNat])
        | (simp -dsimp (disch := first | assumption | omega) only [dec_t, dec_f])
        | (refine And.intro ?_ ?_
           · first | omega | decide | (simp (disch := omega) only [wkW, Int.reduceToNat, Int.reducePow] <;> omega) | (simp <;> omega))
        | (simp (disch := omega) only [wkW, Int.reduceToNat, Int.reducePow])
        | fail
      exact Again.mk (m - j) (ffO b k s (i + j) t.length) (fhO t) (by omega) (Sub.norm ⟨rfl, rfl, rfl, rfl, rfl, trivial⟩ ⟨rfl, trivial⟩ (Nat.le_refl _) rfl rfl rfl rfl) ⟨i + j, t, by omega, hmul.lim, htn, hvt2, by omega, rfl, rfl⟩
    · have hvt2 : val (t ++ [p]) = (numN b s (i + j) : Int) := by
        rw [← heq]
        unfold val
        rw [List.length_append, List.length_singleton]
        have e1 : vt (t ++ [p]) (t.length + 1) = vt (t ++ [p]) t.length + B64 ^ t.length * (t ++ [p]).getD t.length 0 := rfl
        have e2 : (t ++ [p]).getD t.length 0 = p := by simp [List.getD_eq_getElem?_getD]
        have e3 : vt (t ++ [p]) t.length = vt t t.length := vt_same _ fun j hj => by simp [List.getD_eq_getElem?_getD, List.getElem?_append_left hj]
        rw [e1, e2, e3, htl]
      have htn : Nrm (t ++ [p]) := fun h0 => by
        rw [hvt2, ← heq, List.length_append, List.length_singleton, Nat.add_sub_cancel, htl]
        have h1 := vt_bound hmul.lim t.length
        have h2 : 0 ≤ val t := h1.1
        have h3 : B64 ^ a.length * 1 ≤ B64 ^ a.length * p := Int.mul_le_mul_of_nonneg_left (by omega) (Int.le_of_lt (pow_pos64 _))
        omega
      have htL : Limbs (t ++ [p]) := fun x hx => by
        rcases List.mem_append.1 hx with h | h
        · exact hmul.lim x h
        · rw [List.mem_singleton] at h; subst h; exact hcar
      have htl2 : (t ++ [p]).length = a.length + 1 := by simp [htl]
      rw [← htl]
      have hcar2 := hcar
      simp only [B64] at hcar2
      repeat' first
        | (with_reducible first | refine PW.seq ?_ | refine PW.block ?_ | refine PW.fork ?_ | refine PW.skip ?_ | refine PW.exit ?_ | refine PW.ret ?_)
        | (with_reducible refine PW.region ttOk ?_ ?_
           · rfl)
        | (with_reducible refine PW.regionD ttOk mixed ?_ ?_ ?_
           · rfl
           · rfl)
        | (with_reducible refine ifW_dec (fun g => ?_) (fun g => ?_) <;> first | (exfalso; omega) | (simp -dsimp only [g, wkI]))
        | (with_reducible refine condE_dec (fun g => ?_) (fun g => ?_) <;> try (exfalso; omega))
        | (with_reducible refine condE_not (fun g => ?_) (fun g => ?_) <;> try (exfalso; omega))
        | (simp -dsimp only [↓wkA, ↓wkE, wkB, ↓tt, Nat.reduceBEq, Nat.reduceEqDiff, ↓reduceIte, Nat.reduceLT, Array.toList, Nat.reduceAdd, Nat.reduceMul, Int.reduceToNat, Int.reducePow, UInt8.reduceToNat])
        | (simp -dsimp (disch := first | assumption | omega) only [dec_t, dec_f])
        | (refine And.intro ?_ ?_
           · first | omega | decide | (simp (disch := omega) only [wkW, Int.reduceToNat, Int.reducePow] <;> omega) | (simp <;> omega))
        | (simp (disch := omega) only [wkW, Int.reduceToNat, Int.reducePow])
        | fail
      · exact toobig _ htn hvt2 (by rw [htl2]; omega)
      · exact Again.mk (m - j) (ffO b k s (i + j) (t ++ [p]).length) (fhO (t ++ [p])) (by omega) (Sub.norm ⟨rfl, by simp only [List.length_append, List.length_singleton]; rfl, rfl, rfl, rfl, trivial⟩ ⟨rfl, trivial⟩ (by show 1 ≤ 2; omega) rfl rfl rfl rfl) ⟨i + j, t ++ [p], by omega, htL, htn, hvt2, by omega, rfl, rfl⟩
  · rintro F H ⟨a, haL, haN, hav, hal, rfl, rfl⟩
    have hsm : ((num b s : Nat) : Int) < B64 ^ 4096 := by
      rw [← hav]
      have h1 := vt_bound haL a.length
      have h2 := pow_mono64 hal
      unfold val; omega
    have hnat := natL_val haL haN
    rw [hav, Int.toNat_natCast] at hnat
    rw [hR1 hsm, ← hnat]
    repeat' first
      | (with_reducible first | refine PW.seq ?_ | refine PW.block ?_ | refine PW.fork ?_ | refine PW.skip ?_ | refine PW.exit ?_ | refine PW.ret ?_)
      | (with_reducible refine PW.region ttOk ?_ ?_
         · rfl)
      | (with_reducible refine PW.regionD ttOk mixed ?_ ?_ ?_
         · rfl
         · rfl)
      | (with_reducible refine ifW_dec (fun g => ?_) (fun g => ?_) <;> first | (exfalso; omega) | (simp -dsimp only [g, wkI]))
      | (with_reducible refine condE_dec (fun g => ?_) (fun g => ?_) <;> try (exfalso; omega))
      | (with_reducible refine condE_not (fun g => ?_) (fun g => ?_) <;> try (exfalso; omega))
      | (simp -dsimp only [↓wkA, ↓wkE, wkB, ↓tt, Nat.reduceBEq, Nat.reduceEqDiff, ↓reduceIte, Nat.reduceLT, Array.toList, Nat.reduceAdd, Nat.reduceMul, Int.reduceToNat, Int.reducePow, UInt8.reduceToNat])
      | (exact Nat.le_refl _)
      | (simp -dsimp (disch := first | assumption | omega) only [dec_t, dec_f])
      | (refine And.intro ?_ ?_
         · first | omega | decide | (simp (disch := omega) only [wkW, Int.reduceToNat, Int.reducePow] <;> omega) | (simp <;> omega))
      | (simp (disch := omega) only [wkW, Int.reduceToNat, Int.reducePow])
      | fail
end Go.Proofs.YtbmhnjghpjkjpaaDoor
set_option maxHeartbeats 4000000
set_option maxRecDepth 4000
set_option exponentiation.threshold 300000
set_option linter.unusedVariables false
set_option linter.unusedSimpArgs false
namespace Go.Proofs.YtbmhnjghpjkjpaaDoor
open Go Go.PV

theorem from_base_ok {s : List Int} (hs : Bytes' s) (hsl : s.length ≤ 1000000000000000) {b : Nat} (hb : 2 ≤ b ∧ b ≤ 36) (hne : s ≠ []) (hok : ∀ j, j < s.length → worth (s.getD j 0) < b) (hv : ((num b s : Nat) : Int) < B64 ^ 4096) :
    Meets Tryd.prog 41 [.str s, .int .i64 (b : Int)] (.tup [.ints .u64 (natL (num b s)), .int .i64 0, .int .i64 0]) :=
  from_base_main s hs hsl b hb hne hok _ (fun _ => rfl) (fun h => absurd hv h)
end Go.Proofs.YtbmhnjghpjkjpaaDoor
set_option maxHeartbeats 4000000
set_option maxRecDepth 4000
set_option exponentiation.threshold 300000
set_option linter.unusedVariables false
set_option linter.unusedSimpArgs false
namespace Go.Proofs.YtbmhnjghpjkjpaaDoor
open Go Go.PV

def lower (c : Int) : Int := if 65 ≤ c ∧ c ≤ 90 then c - 65 + 97 else c

def pl (s : List Int) : Nat → List Int
  | 0 => []
  | i + 1 => if lower (s.getD i 0) ≠ 48 ∨ pl s i ≠ [] ∨ i + 1 = s.length then pl s i ++ [lower (s.getD i 0)] else pl s i

end Go.Proofs.YtbmhnjghpjkjpaaDoor
set_option maxHeartbeats 4000000
set_option maxRecDepth 4000
set_option exponentiation.threshold 300000
set_option linter.unusedVariables false
set_option linter.unusedSimpArgs false
namespace Go.Proofs.YtbmhnjghpjkjpaaDoor
open Go Go.PV

theorem size_ten : size [10] = 1 := by decide

theorem bitlen_ten : Meets Tryd.prog 42 [.ints .u64 [10]] (.int .i64 4) := by
  have hs := nat_size [10] (by simp)
  rw [size_ten] at hs
  have hl := len64 10 (by decide)
  have e : bitlen (10 : Int).toNat = 4 := by decide
  rw [e] at hl
  refine meets_by ttOk Tryd.func42 Tryd.ntmps42 Tryd.results42 (by kernel_rfl) (c := _) rfl rfl rfl fun E => ?_
  simp only [argsFrame]
  repeat' first
    | (with_reducible first | refine PW.seq ?_ | refine PW.block ?_ | refine PW.fork ?_ | refine PW.skip ?_ | refine PW.exit ?_ | refine PW.ret ?_)
    | (with_reducible refine PW.region ttOk ?_ ?_
       · rfl)
    | (with_reducible refine PW.regionD ttOk mixed ?_ ?_ ?_
       · rfl
       · rfl)
    | (with_reducible refine ifW_dec (fun g => ?_) (fun g => ?_) <;> first | (exfalso; omega) | (simp -dsimp only [g, wkI]))
    | (with_reducible refine condE_dec (fun g => ?_) (fun g => ?_) <;> try (exfalso; omega))
    | (with_reducible refine condE_not (fun g => ?_) (fun g => ?_) <;> try (exfalso; omega))
    | (simp -dsimp only [↓wkA, ↓wkE, wkB, ↓tt, Nat.reduceBEq, Nat.reduceEqDiff, ↓reduceIte, Nat.reduceLT, Array.toList, Nat.reduceAdd, Nat.reduceMul, Int.reduceToNat, Int.reducePow, UInt8.reduceToNat])
    | (refine call_by hs (views_data rfl) ⟨trivial, trivial⟩ rfl ?_)
    | (refine call_by hl (views_data rfl) ⟨trivial, trivial⟩ rfl ?_)
    | (simp -dsimp (disch := first | assumption | omega) only [dec_t, dec_f])
    | (refine And.intro ?_ ?_
       · first | omega | decide | (simp (disch := omega) only [wkW, Int.reduceToNat, Int.reducePow] <;> omega) | (simp <;> omega))
    | (simp (disch := omega) only [wkW, Int.reduceToNat, Int.reducePow])
    | fail
  all_goals (refine congrArg _ ?_; omega)

theorem small_ten : Meets Tryd.prog 46 [.ints .u64 [10], .int .i64 4096] (.tup [.ints .u64 [10], .bool true]) := by
  have h := nat_trim [10] (by simp)
  have e : trim [10] = [10] := by decide
  rw [e] at h
  refine meets_by ttOk Tryd.func46 Tryd.ntmps46 Tryd.results46 (by kernel_rfl) (c := _) rfl rfl rfl fun E => ?_
  simp only [argsFrame]
  repeat' first
    | (with_reducible first | refine PW.seq ?_ | refine PW.block ?_ | refine PW.fork ?_ | refine PW.skip ?_ | refine PW.exit ?_ | refine PW.ret ?_)
    | (with_reducible refine PW.region ttOk ?_ ?_
       · rfl)
    | (with_reducible refine PW.regionD ttOk mixed ?_ ?_ ?_
       · rfl
       · rfl)
    | (with_reducible refine ifW_dec (fun g => ?_) (fun g => ?_) <;> first | (exfalso; omega) | (simp -dsimp only [g, wkI]))
    | (with_reducible refine condE_dec (fun g => ?_) (fun g => ?_) <;> try (exfalso; omega))
    | (with_reducible refine condE_not (fun g => ?_) (fun g => ?_) <;> try (exfalso; omega))
    | (simp -dsimp only [↓wkA, ↓wkE, wkB, ↓tt, Nat.reduceBEq, Nat.reduceEqDiff, ↓reduceIte, Nat.reduceLT, Array.toList, Nat.reduceAdd, Nat.reduceMul, Int.reduceToNat, Int.reducePow, UInt8.reduceToNat])
    | (refine call_by h (views_data rfl) ⟨trivial, trivial⟩ rfl ?_)
    | (simp -dsimp (disch := first | assumption | omega) only [dec_t, dec_f])
    | (refine And.intro ?_ ?_
       · first | omega | decide | (simp (disch := omega) only [wkW, Int.reduceToNat, Int.reducePow] <;> omega) | (simp <;> omega))
    | (simp (disch := omega) only [wkW, Int.reduceToNat, Int.reducePow])
    | fail

theorem natL_ten : natL 10 = [10] := by simp [natL, digs]
set_option exponentiation.threshold 300000 in
theorem ten_big {n : Nat} (h : 262144 ≤ 3 * n) : ¬ 10 ^ n < NMax := by
  have h1 : 2 ^ (3 * n) ≤ 10 ^ n := by
    rw [Nat.pow_mul]; exact Nat.pow_le_pow_left (by decide) n
  have h2 : 2 ^ 262144 ≤ 2 ^ (3 * n) := Nat.pow_le_pow_right (by decide) h
  rw [nmax_two]; omega

abbrev pwF (n : Nat) (l : List Int) (i : Nat) : PV.Frame := [(10, .int .i64 ((i : Int) - 1)), (9, .ints .u64 l), (6, .ints .u64 [10]), (1, .int .i64 (n : Int))]

set_option exponentiation.threshold 300000 in
set_option maxHeartbeats 4000000 in
theorem pow_ten (n : Nat) (hn : n < 9223372036854775807) (R : PV) (hR1 : 10 ^ n < NMax → R = .tup [.ints .u64 (natL (10 ^ n)), .int .i64 0]) (hR2 : ¬ 10 ^ n < NMax → R = .tup [.nil, .int .i64 2]) :
    Meets Tryd.prog 28 [.ints .u64 [10], .int .i64 (n : Int)] R := by
  refine meets_by ttOk Tryd.func28 Tryd.ntmps28 Tryd.results28 (by kernel_rfl) (c := _) rfl rfl rfl fun E => ?_
  simp only [argsFrame]
  have hbl := bits_len (n : Int) (by simp only [B64]; omega)
  rw [Int.toNat_natCast] at hbl
  have hmul3 : IntKind.wrap .i64 (3 * (n : Int)) = 3 * (n : Int) ∨ ¬ (n : Int) < 262144 := by
    by_cases h : (n : Int) < 262144
    · left; exact wrap_i64 (by omega)
    · exact .inr h
  have hw : IntKind.wrap .u64 (n : Int) = (n : Int) := wrap_u64 (by omega)
  have h1 : 10 ^ 0 < NMax := Nat.lt_of_lt_of_le (by decide) (pow64_mono (show 1 ≤ 4096 by decide))
  by_cases h0 : n = 0
  · subst h0
    rw [hR1 h1, Nat.pow_zero, natL_oneL]
    repeat' first
      | (with_reducible first | refine PW.seq ?_ | refine PW.block ?_ | refine PW.fork ?_ | refine PW.skip ?_ | refine PW.exit ?_ | refine PW.ret ?_)
      | (with_reducible refine PW.region ttOk ?_ ?_
         · rfl)
      | (with_reducible refine PW.regionD ttOk mixed ?_ ?_ ?_
         · rfl
         · rfl)
      | (with_reducible refine ifW_dec (fun g => ?_) (fun g => ?_) <;> first | (exfalso; omega) | (simp -dsimp only [g, wkI]))
      | (with_reducible refine condE_dec (fun g => ?_) (fun g => ?_) <;> try (exfalso; omega))
      | (with_reducible refine condE_not (fun g => ?_) (fun g => ?_) <;> try (exfalso; omega))
      | (simp -dsimp only [↓wkA, ↓wkE, wkB, ↓tt, Nat.reduceBEq, Nat.reduceEqDiff, ↓reduceIte, Nat.reduceLT, Array.toList, Nat.reduceAdd, Nat.reduceMul, Int.reduceToNat, Int.reducePow, UInt8.reduceToNat])
      | (refine call_by small_ten (views_data rfl) ⟨trivial, trivial, trivial⟩ rfl ?_)
      | (refine call_by bitlen_ten (views_data rfl) ⟨trivial, trivial⟩ rfl ?_)
      | (exact Nat.le_refl _)
      | (simp -dsimp (disch := first | assumption | omega) only [dec_t, dec_f])
      | (refine And.intro ?_ ?_
         · first | omega | decide | (simp (disch := omega) only [wkW, Int.reduceToNat, Int.reducePow] <;> omega) | (simp <;> omega))
      | (simp (disch := omega) only [wkW, Int.reduceToNat, Int.reducePow])
      | fail
  by_cases hbig : 262144 ≤ 3 * n
  · rw [hR2 (ten_big hbig)]
    repeat' first
      | (simp (disch := omega) only [hw, show (4 : Int) - 1 = 3 from rfl, wkW, Int.reduceToNat, Int.reducePow])
      | (with_reducible first | refine PW.seq ?_ | refine PW.block ?_ | refine PW.fork ?_ | refine PW.skip ?_ | refine PW.exit ?_ | refine PW.ret ?_)
      | (with_reducible refine PW.region ttOk ?_ ?_
         · rfl)
      | (with_reducible refine PW.regionD ttOk mixed ?_ ?_ ?_
         · rfl
         · rfl)
      | (with_reducible refine ifW_dec (fun g => ?_) (fun g => ?_) <;> first | (exfalso; omega) | (simp -dsimp only [g, wkI]))
      | (with_reducible refine condE_dec (fun g => ?_) (fun g => ?_) <;> try (exfalso; omega))
      | (with_reducible refine condE_not (fun g => ?_) (fun g => ?_) <;> try (exfalso; omega))
      | (simp -dsimp only [↓wkA, ↓wkE, wkB, ↓tt, Nat.reduceBEq, Nat.reduceEqDiff, ↓reduceIte, Nat.reduceLT, Array.toList, Nat.reduceAdd, Nat.reduceMul, Int.reduceToNat, Int.reducePow, UInt8.reduceToNat])
      | (refine call_by small_ten (views_data rfl) ⟨trivial, trivial, trivial⟩ rfl ?_)
      | (refine call_by bitlen_ten (views_data rfl) ⟨trivial, trivial⟩ rfl ?_)
      | (simp -dsimp (disch := first | assumption | omega) only [dec_t, dec_f])
      | (refine And.intro ?_ ?_
         · first | omega | decide | (simp (disch := omega) only [wkW, Int.reduceToNat, Int.reducePow] <;> omega) | (simp <;> omega))
      | (simp (disch := omega) only [wkW, Int.reduceToNat, Int.reducePow])
      | fail
  obtain ⟨L, hL, hL1, hL2⟩ := bitlen_spec h0
  rw [hL] at hbl
  have hL63 : L < 64 := by
    have h3 : 2 ^ L < 2 ^ 64 := Nat.lt_of_le_of_lt hL1 (by simp only [Nat.reducePow]; omega)
    exact (Nat.pow_lt_pow_iff_right (by decide)).1 h3
  repeat' first
    | (simp (disch := omega) only [hw, show (4 : Int) - 1 = 3 from rfl, wkW, Int.reduceToNat, Int.reducePow])
    | (with_reducible first | refine PW.seq ?_ | refine PW.block ?_ | refine PW.fork ?_ | refine PW.skip ?_ | refine PW.exit ?_ | refine PW.ret ?_)
    | (with_reducible refine PW.region ttOk ?_ ?_
       · rfl)
    | (with_reducible refine PW.regionD ttOk mixed ?_ ?_ ?_
       · rfl
       · rfl)
    | (with_reducible refine ifW_dec (fun g => ?_) (fun g => ?_) <;> first | (exfalso; omega) | (simp -dsimp only [g, wkI]))
    | (with_reducible refine condE_dec (fun g => ?_) (fun g => ?_) <;> try (exfalso; omega))
    | (with_reducible refine condE_not (fun g => ?_) (fun g => ?_) <;> try (exfalso; omega))
    | (simp -dsimp only [↓wkA, ↓wkE, wkB, ↓tt, Nat.reduceBEq, Nat.reduceEqDiff, ↓reduceIte, Nat.reduceLT, Array.toList, Nat.reduceAdd, Nat.reduceMul, Int.reduceToNat, Int.reducePow, UInt8.reduceToNat])
    | (refine call_by small_ten (views_data rfl) ⟨trivial, trivial, trivial⟩ rfl ?_)
    | (refine call_by bitlen_ten (views_data rfl) ⟨trivial, trivial⟩ rfl ?_)
    | (refine call_by hbl (views_data rfl) ⟨trivial, trivial⟩ rfl ?_)
    | (simp -dsimp (disch := first | assumption | omega) only [dec_t, dec_f])
    | (refine And.intro ?_ ?_
       · first | omega | decide | (simp (disch := omega) only [wkW, Int.reduceToNat, Int.reducePow] <;> omega) | (simp <;> omega))
    | (simp (disch := omega) only [wkW, Int.reduceToNat, Int.reducePow])
    | fail
  have hten : natL (10 ^ 0) = [1] := natL_oneL
  refine PW.meetB (fun F H => 10 ^ n < NMax ∧ F = [(9, .ints .u64 (natL (10 ^ n)))] ∧ H = ⟨1, [], [], []⟩) ?_ ?_
  · refine PW.loopA (fun i F H => i ≤ L + 1 ∧ 10 ^ (n / 2 ^ i) < NMax ∧ F = pwF n (natL (10 ^ (n / 2 ^ i))) i ∧ H = ⟨1, [], [], []⟩) (L + 1) (pwF n (natL (10 ^ (n / 2 ^ (L + 1)))) (L + 1)) ⟨1, [], [], []⟩ (Sub.trans (toData 9 0 0 1 true rfl (Nat.le_refl _)) (Sub.norm ⟨?_, ?_, rfl, rfl, trivial⟩ trivial (Nat.le_refl _) rfl rfl rfl rfl)) ⟨Nat.le_refl _, ?_, rfl, rfl⟩ ?_
    · simp (disch := omega) only [↓wkA, ↓wkE, wkB, ↓tt, Nat.reduceBEq, Nat.reduceEqDiff, ↓reduceIte, Nat.reduceLT, Array.toList, Nat.reduceAdd, Nat.reduceMul, Int.reduceToNat, Int.reducePow, UInt8.reduceToNat, wkW, Int.reduceToNat, Int.reducePow]
    · rw [Nat.div_eq_of_lt hL2, hten]; rfl
    · rw [Nat.div_eq_of_lt hL2]; exact h1
    rintro i F H ⟨hi, hlt, rfl, rfl⟩
    cases i with
    | zero =>
      rw [Nat.pow_zero, Nat.div_one] at hlt ⊢
      repeat' first
        | (with_reducible first | refine PW.seq ?_ | refine PW.block ?_ | refine PW.fork ?_ | refine PW.skip ?_ | refine PW.exit ?_ | refine PW.ret ?_)
        | (with_reducible refine PW.region ttOk ?_ ?_
           · rfl)
        | (with_reducible refine PW.regionD ttOk mixed ?_ ?_ ?_
           · rfl
           · rfl)
        | (with_reducible refine ifW_dec (fun g => ?_) (fun g => ?_) <;> first | (exfalso; omega) | (simp -dsimp only [g, wkI]))
        | (with_reducible refine condE_dec (fun g => ?_) (fun g => ?_) <;> try (exfalso; omega))
        | (with_reducible refine condE_not (fun g => ?_) (fun g => ?_) <;> try (exfalso; omega))
        | (simp -dsimp only [↓wkA, ↓wkE, wkB, ↓tt, Nat.reduceBEq, Nat.reduceEqDiff, ↓reduceIte, Nat.reduceLT, Array.toList, Nat.reduceAdd, Nat.reduceMul, Int.reduceToNat, Int.reducePow, UInt8.reduceToNat])
        | (simp -dsimp (disch := first | assumption | omega) only [dec_t, dec_f])
        | (refine And.intro ?_ ?_
           · first | omega | decide | (simp (disch := omega) only [wkW, Int.reduceToNat, Int.reducePow] <;> omega) | (simp <;> omega))
        | (simp (disch := omega) only [wkW, Int.reduceToNat, Int.reducePow])
        | fail
      exact Meet.mk [(9, .ints .u64 (natL (10 ^ n)))] ⟨1, [], [], []⟩ (Sub.norm ⟨rfl, trivial⟩ trivial (Nat.le_refl _) rfl rfl rfl rfl) ⟨hlt, rfl, rfl⟩
    | succ i =>
      have e1 : (((i + 1 : Nat)) : Int) - 1 = (i : Int) := by omega
      simp only [pwF, e1]
      have hne : ∀ k, 10 ^ k ≠ 0 := fun k => Nat.ne_of_gt (Nat.pow_pos (by decide))
      have hstep : n / 2 ^ i = 2 * (n / 2 ^ (i + 1)) + n / 2 ^ i % 2 := by rw [Nat.pow_succ, ← Nat.div_div_eq_div_mul]; omega
      have hmono : ∀ k, k ≤ n / 2 ^ i → ¬ 10 ^ k < NMax → R = .tup [.nil, .int .i64 2] := fun k hk hb => hR2 fun h => hb (Nat.lt_of_le_of_lt (Nat.pow_le_pow_right (by decide) (Nat.le_trans hk (Nat.div_le_self _ _))) h)
      have hsq : 10 ^ (n / 2 ^ (i + 1)) * 10 ^ (n / 2 ^ (i + 1)) = 10 ^ (2 * (n / 2 ^ (i + 1))) := by rw [← Nat.pow_add]; congr 1; omega
      have hshr : ((n : Int)).fdiv (2 ^ min ((i : Int)).toNat 64) = ((n / 2 ^ i : Nat) : Int) := by
        rw [Int.toNat_natCast, Nat.min_eq_left (by omega), fdiv_pos (Int.le_of_lt (Int.pow_pos (by decide)))]
        simp
      have hwi : IntKind.wrap .u64 (i : Int) = (i : Int) := wrap_u64 (by omega)
      have hqn : n / 2 ^ i ≤ n := Nat.div_le_self _ _
      generalize n / 2 ^ (i + 1) = p at *
      generalize hqe : n / 2 ^ i = q at *
      have hand : ibits .and .i64 ((q : Nat) : Int) 1 = ((q % 2 : Nat) : Int) := by rw [and1_i64 (by omega)]; omega
      by_cases hs : 10 ^ (2 * p) < NMax
      · have hm1 := mul_nat (hne p) (hne p) hlt hlt (by rw [hsq]; exact hs)
        rw [hsq] at hm1
        by_cases hbit : q % 2 = 1
        · have hq : 10 ^ (2 * p) * 10 = 10 ^ q := by rw [← Nat.pow_succ]; congr 1; omega
          by_cases hs2 : 10 ^ q < NMax
          · have hm2 := mul_nat (hne (2 * p)) (show (10 : Nat) ≠ 0 by decide) hs (Nat.lt_of_lt_of_le (by decide) (pow64_mono (show 1 ≤ 4096 by decide))) (by rw [hq]; exact hs2)
            rw [hq, natL_ten] at hm2
            repeat' first
              | (simp only [hwi, hshr, hand])
              | (with_reducible first | refine PW.seq ?_ | refine PW.block ?_ | refine PW.fork ?_ | refine PW.skip ?_ | refine PW.exit ?_ | refine PW.ret ?_)
              | (with_reducible refine PW.region ttOk ?_ ?_
                 · rfl)
              | (with_reducible refine PW.regionD ttOk mixed ?_ ?_ ?_
                 · rfl
                 · rfl)
              | (with_reducible refine ifW_dec (fun g => ?_) (fun g => ?_) <;> first | (exfalso; omega) | (simp -dsimp only [g, wkI]))
              | (with_reducible refine condE_dec (fun g => ?_) (fun g => ?_) <;> try (exfalso; omega))
              | (with_reducible refine condE_not (fun g => ?_) (fun g => ?_) <;> try (exfalso; omega))
              | (simp -dsimp only [↓wkA, ↓wkE, wkB, ↓tt, Nat.reduceBEq, Nat.reduceEqDiff, ↓reduceIte, Nat.reduceLT, Array.toList, Nat.reduceAdd, Nat.reduceMul, Int.reduceToNat, Int.reducePow, UInt8.reduceToNat])
              | (refine call_by hm1 (views_data rfl) ⟨trivial, trivial, trivial⟩ rfl ?_)
              | (refine call_by hm2 (views_data rfl) ⟨trivial, trivial, trivial⟩ rfl ?_)
              | (simp -dsimp (disch := first | assumption | omega) only [dec_t, dec_f])
              | (refine And.intro ?_ ?_
                 · first | omega | decide | (simp (disch := omega) only [wkW, Int.reduceToNat, Int.reducePow] <;> omega) | (simp <;> omega))
              | (simp (disch := omega) only [wkW, Int.reduceToNat, Int.reducePow])
              | fail
            exact Again.mk i (pwF n (natL (10 ^ q)) i) ⟨1, [], [], []⟩ (by omega) (Sub.norm ⟨rfl, rfl, rfl, rfl, trivial⟩ trivial (Nat.le_refl _) rfl rfl rfl rfl) ⟨by omega, by rw [hqe]; exact hs2, by rw [hqe], rfl⟩
          · have hm2 := mul_over (hne (2 * p)) (show (10 : Nat) ≠ 0 by decide) hs (Nat.lt_of_lt_of_le (by decide) (pow64_mono (show 1 ≤ 4096 by decide))) (by rw [hq]; exact hs2)
            rw [natL_ten] at hm2
            rw [hmono q (Nat.le_refl _) hs2]
            repeat' first
              | (simp only [hwi, hshr, hand])
              | (with_reducible first | refine PW.seq ?_ | refine PW.block ?_ | refine PW.fork ?_ | refine PW.skip ?_ | refine PW.exit ?_ | refine PW.ret ?_)
              | (with_reducible refine PW.region ttOk ?_ ?_
                 · rfl)
              | (with_reducible refine PW.regionD ttOk mixed ?_ ?_ ?_
                 · rfl
                 · rfl)
              | (with_reducible refine ifW_dec (fun g => ?_) (fun g => ?_) <;> first | (exfalso; omega) | (simp -dsimp only [g, wkI]))
              | (with_reducible refine condE_dec (fun g => ?_) (fun g => ?_) <;> try (exfalso; omega))
              | (with_reducible refine condE_not (fun g => ?_) (fun g => ?_) <;> try (exfalso; omega))
              | (simp -dsimp only [↓wkA, ↓wkE, wkB, ↓tt, Nat.reduceBEq, Nat.reduceEqDiff, ↓reduceIte, Nat.reduceLT, Array.toList, Nat.reduceAdd, Nat.reduceMul, Int.reduceToNat, Int.reducePow, UInt8.reduceToNat])
              | (refine call_by hm1 (views_data rfl) ⟨trivial, trivial, trivial⟩ rfl ?_)
              | (refine call_by hm2 (views_data rfl) ⟨trivial, trivial, trivial⟩ rfl ?_)
              | (simp -dsimp (disch := first | assumption | omega) only [dec_t, dec_f])
              | (refine And.intro ?_ ?_
                 · first | omega | decide | (simp (disch := omega) only [wkW, Int.reduceToNat, Int.reducePow] <;> omega) | (simp <;> omega))
              | (simp (disch := omega) only [wkW, Int.reduceToNat, Int.reducePow])
              | fail
        · have hq : 2 * p = q := by omega
          rw [hq] at hm1 hs
          repeat' first
            | (simp only [hwi, hshr, hand])
            | (with_reducible first | refine PW.seq ?_ | refine PW.block ?_ | refine PW.fork ?_ | refine PW.skip ?_ | refine PW.exit ?_ | refine PW.ret ?_)
            | (with_reducible refine PW.region ttOk ?_ ?_
               · rfl)
            | (with_reducible refine PW.regionD ttOk mixed ?_ ?_ ?_
               · rfl
               · rfl)
            | (with_reducible refine ifW_dec (fun g => ?_) (fun g => ?_) <;> first | (exfalso; omega) | (simp -dsimp only [g, wkI]))
            | (with_reducible refine condE_dec (fun g => ?_) (fun g => ?_) <;> try (exfalso; omega))
            | (with_reducible refine condE_not (fun g => ?_) (fun g => ?_) <;> try (exfalso; omega))
            | (simp -dsimp only [↓wkA, ↓wkE, wkB, ↓tt, Nat.reduceBEq, Nat.reduceEqDiff, ↓reduceIte, Nat.reduceLT, Array.toList, Nat.reduceAdd, Nat.reduceMul, Int.reduceToNat, Int.reducePow, UInt8.reduceToNat])
            | (refine call_by hm1 (views_data rfl) ⟨trivial, trivial, trivial⟩ rfl ?_)
            | (simp -dsimp (disch := first | assumption | omega) only [dec_t, dec_f])
            | (refine And.intro ?_ ?_
               · first | omega | decide | (simp (disch := omega) only [wkW, Int.reduceToNat, Int.reducePow] <;> omega) | (simp <;> omega))
            | (simp (disch := omega) only [wkW, Int.reduceToNat, Int.reducePow])
            | fail
          exact Again.mk i (pwF n (natL (10 ^ q)) i) ⟨1, [], [], []⟩ (by omega) (Sub.norm ⟨rfl, rfl, rfl, rfl, trivial⟩ trivial (Nat.le_refl _) rfl rfl rfl rfl) ⟨by omega, by rw [hqe]; exact hs, by rw [hqe], rfl⟩
      · have hm1 := mul_over (hne p) (hne p) hlt hlt (by rw [hsq]; exact hs)
        rw [hmono (2 * p) (by omega) hs]
        repeat' first
          | (simp only [hwi, hshr, hand])
          | (with_reducible first | refine PW.seq ?_ | refine PW.block ?_ | refine PW.fork ?_ | refine PW.skip ?_ | refine PW.exit ?_ | refine PW.ret ?_)
          | (with_reducible refine PW.region ttOk ?_ ?_
             · rfl)
          | (with_reducible refine PW.regionD ttOk mixed ?_ ?_ ?_
             · rfl
             · rfl)
          | (with_reducible refine ifW_dec (fun g => ?_) (fun g => ?_) <;> first | (exfalso; omega) | (simp -dsimp only [g, wkI]))
          | (with_reducible refine condE_dec (fun g => ?_) (fun g => ?_) <;> try (exfalso; omega))
          | (with_reducible refine condE_not (fun g => ?_) (fun g => ?_) <;> try (exfalso; omega))
          | (simp -dsimp only [↓wkA, ↓wkE, wkB, ↓tt, Nat.reduceBEq, Nat.reduceEqDiff, ↓reduceIte, Nat.reduceLT, Array.toList, Nat.reduceAdd, Nat.reduceMul, Int.reduceToNat, Int.reducePow, UInt8.reduceToNat])
          | (refine call_by hm1 (views_data rfl) ⟨trivial, trivial, trivial⟩ rfl ?_)
          | (simp -dsimp (disch := first | assumption | omega) only [dec_t, dec_f])
          | (refine And.intro ?_ ?_
             · first | omega | decide | (simp (disch := omega) only [wkW, Int.reduceToNat, Int.reducePow] <;> omega) | (simp <;> omega))
          | (simp (disch := omega) only [wkW, Int.reduceToNat, Int.reducePow])
          | fail
  rintro F H ⟨hfin, rfl, rfl⟩
  rw [hR1 hfin]
  repeat' first
    | (with_reducible first | refine PW.seq ?_ | refine PW.block ?_ | refine PW.fork ?_ | refine PW.skip ?_ | refine PW.exit ?_ | refine PW.ret ?_)
    | (with_reducible refine PW.region ttOk ?_ ?_
       · rfl)
    | (with_reducible refine PW.regionD ttOk mixed ?_ ?_ ?_
       · rfl
       · rfl)
    | (with_reducible refine ifW_dec (fun g => ?_) (fun g => ?_) <;> first | (exfalso; omega) | (simp -dsimp only [g, wkI]))
    | (with_reducible refine condE_dec (fun g => ?_) (fun g => ?_) <;> try (exfalso; omega))
    | (with_reducible refine condE_not (fun g => ?_) (fun g => ?_) <;> try (exfalso; omega))
    | (simp -dsimp only [↓wkA, ↓wkE, wkB, ↓tt, Nat.reduceBEq, Nat.reduceEqDiff, ↓reduceIte, Nat.reduceLT, Array.toList, Nat.reduceAdd, Nat.reduceMul, Int.reduceToNat, Int.reducePow, UInt8.reduceToNat])
    | (simp -dsimp (disch := first | assumption | omega) only [dec_t, dec_f])
    | (refine And.intro ?_ ?_
       · first | omega | decide | (simp (disch := omega) only [wkW, Int.reduceToNat, Int.reducePow] <;> omega) | (simp <;> omega))
    | (simp (disch := omega) only [wkW, Int.reduceToNat, Int.reducePow])
    | fail
end Go.Proofs.YtbmhnjghpjkjpaaDoor
set_option maxHeartbeats 4000000
set_option maxRecDepth 4000
set_option exponentiation.threshold 300000
set_option linter.unusedVariables false
set_option linter.unusedSimpArgs false
namespace Go.Proofs.YtbmhnjghpjkjpaaDoor
open Go Go.PV

theorem endN_last {s : List Int} {c : Int} : ∀ n, endN s c n ≠ 0 → s.getD (endN s c n - 1) 0 ≠ c
  | 0, h => absurd rfl h
  | n + 1, h => by
    rw [endN] at h ⊢
    by_cases h2 : s.getD n 0 = c
    · rw [if_pos h2] at h ⊢; exact endN_last n h
    · rw [if_neg h2]; exact h2

end Go.Proofs.YtbmhnjghpjkjpaaDoor
set_option maxHeartbeats 4000000
set_option maxRecDepth 4000
set_option exponentiation.threshold 300000
set_option linter.unusedVariables false
set_option linter.unusedSimpArgs false
namespace Go.Proofs.YtbmhnjghpjkjpaaDoor
open Go Go.PV

theorem digs_bytes {s : List Int} (h : Digs s) : Bytes' s := fun x hx => by have := h x hx; omega
end Go.Proofs.YtbmhnjghpjkjpaaDoor
set_option maxHeartbeats 4000000
set_option maxRecDepth 4000
set_option exponentiation.threshold 300000
set_option linter.unusedVariables false
set_option linter.unusedSimpArgs false
namespace Go.Proofs.YtbmhnjghpjkjpaaDoor
open Go Go.PV

theorem numN_allz {s : List Int} (hs : Digs s) : ∀ n, n ≤ s.length → (numN 10 s n = 0 ↔ ∀ j, j < n → s.getD j 0 = 48)
  | 0, _ => ⟨fun _ j hj => absurd hj (by omega), fun _ => rfl⟩
  | n + 1, h => by
    have ih := numN_allz hs n (by omega)
    have hd := digs_get hs (show n < s.length by omega)
    rw [numN, worth_digit hd]
    constructor
    · intro h0 j hj
      by_cases e : j = n
      · subst e; omega
      · exact ih.1 (by omega) j (by omega)
    · intro h0
      rw [ih.2 fun j hj => h0 j (by omega), h0 n (by omega)]; rfl

end Go.Proofs.YtbmhnjghpjkjpaaDoor
set_option maxHeartbeats 4000000
set_option maxRecDepth 4000
set_option exponentiation.threshold 300000
set_option linter.unusedVariables false
set_option linter.unusedSimpArgs false
namespace Go.Proofs.YtbmhnjghpjkjpaaDoor
open Go Go.PV

set_option exponentiation.threshold 300000 in
theorem ten_small {n : Nat} (h : n ≤ 65000) : 10 ^ n < NMax := by
  rw [nmax_two]
  have h1 : 10 ^ n ≤ (2 ^ 4) ^ n := Nat.pow_le_pow_left (by decide) n
  rw [← Nat.pow_mul] at h1
  exact Nat.lt_of_le_of_lt h1 (Nat.pow_lt_pow_right (by decide) (by omega))
theorem read_nat {s : List Int} (hs : Digs s) (hne : s ≠ []) (hl : s.length ≤ 50000) : Meets Tryd.prog 21 [.str s] (.tup [.ints .u64 (natL (num 10 s)), .int .i64 0, .int .i64 0]) := by
  have hf := from_base_ok (digs_bytes hs) (by omega) (b := 10) (by omega) hne (fun j hj => by have := digs_get hs hj; rw [worth_digit this]; omega) (by
    rw [nmax_int]
    have h1 := num_digs_lt hs
    have h2 := ten_small (n := s.length) (by omega)
    omega)
  refine meets_by ttOk Tryd.func21 Tryd.ntmps21 Tryd.results21 (by kernel_rfl) (c := _) rfl rfl rfl fun E => ?_
  simp only [argsFrame]
  repeat' first
    | (with_reducible first | refine PW.seq ?_ | refine PW.block ?_ | refine PW.fork ?_ | refine PW.skip ?_ | refine PW.exit ?_ | refine PW.ret ?_ | refine PW.scope ?_ | refine PW.label ?_ | refine PW.goto ?_)
    | (with_reducible refine PW.region ttOk ?_ ?_
       · rfl)
    | (with_reducible refine PW.regionD ttOk mixed ?_ ?_ ?_
       · rfl
       · rfl)
    | (with_reducible refine ifW_dec (fun g => ?_) (fun g => ?_) <;> first | (exfalso; omega) | (simp -dsimp only [g, wkI]))
    | (with_reducible refine condE_dec (fun g => ?_) (fun g => ?_) <;> try (exfalso; omega))
    | (with_reducible refine condE_not (fun g => ?_) (fun g => ?_) <;> try (exfalso; omega))
    | (simp -dsimp only [↓wkA, ↓wkE, ↓wkJ, wkB, ↓tt, Nat.reduceBEq, Nat.reduceEqDiff, ↓reduceIte, Nat.reduceLT, Array.toList, Nat.reduceAdd, Nat.reduceMul, Int.reduceToNat, Int.reducePow, UInt8.reduceToNat])
    | (refine call_by hf (views_data rfl) ⟨trivial, trivial, trivial⟩ rfl ?_)
    | (simp -dsimp (disch := first | assumption | omega) only [dec_t, dec_f])
    | (refine And.intro ?_ ?_
       · first | omega | decide | (simp (disch := omega) only [wkW, Int.reduceToNat, Int.reducePow] <;> omega) | (simp <;> omega))
    | (simp (disch := omega) only [wkW, Int.reduceToNat, Int.reducePow])
    | fail
end Go.Proofs.YtbmhnjghpjkjpaaDoor
set_option maxHeartbeats 4000000
set_option maxRecDepth 4000
set_option exponentiation.threshold 300000
set_option linter.unusedVariables false
set_option linter.unusedSimpArgs false
namespace Go.Proofs.YtbmhnjghpjkjpaaDoor
open Go Go.PV

theorem pow10_ok (n : Nat) (hn : n < 9223372036854775807) (h : 10 ^ n < NMax) : Meets Tryd.prog 38 [.int .i64 (n : Int)] (.tup [.ints .u64 (natL (10 ^ n)), .int .i64 0]) := by
  have hp := pow_ten n hn _ (fun _ => rfl) (fun h2 => absurd h h2)
  refine meets_by ttOk Tryd.func38 Tryd.ntmps38 Tryd.results38 (by kernel_rfl) (c := _) rfl rfl rfl fun E => ?_
  simp only [argsFrame]
  repeat' first
    | (with_reducible first | refine PW.seq ?_ | refine PW.block ?_ | refine PW.fork ?_ | refine PW.skip ?_ | refine PW.exit ?_ | refine PW.ret ?_)
    | (with_reducible refine PW.region ttOk ?_ ?_
       · rfl)
    | (with_reducible refine PW.regionD ttOk mixed ?_ ?_ ?_
       · rfl
       · rfl)
    | (with_reducible refine ifW_dec (fun g => ?_) (fun g => ?_) <;> first | (exfalso; omega) | (simp -dsimp only [g, wkI]))
    | (with_reducible refine condE_dec (fun g => ?_) (fun g => ?_) <;> try (exfalso; omega))
    | (with_reducible refine condE_not (fun g => ?_) (fun g => ?_) <;> try (exfalso; omega))
    | (simp -dsimp only [↓wkA, ↓wkE, wkB, ↓tt, Nat.reduceBEq, Nat.reduceEqDiff, ↓reduceIte, Nat.reduceLT, Array.toList, Nat.reduceAdd, Nat.reduceMul, Int.reduceToNat, Int.reducePow, UInt8.reduceToNat])
    | (refine call_drop (args' := [.ints .u64 [10], .int .i64 (n : Int)]) rfl hp (by simp -dsimp only [okViews, ↓wkA, ↓wkE, wkB, ↓tt, Nat.reduceBEq, Nat.reduceEqDiff, ↓reduceIte, Nat.reduceLT, Array.toList, Nat.reduceAdd, Nat.reduceMul, Int.reduceToNat, Int.reducePow, UInt8.reduceToNat]; decide) rfl ?_)
    | (simp -dsimp (disch := first | assumption | omega) only [dec_t, dec_f])
    | (refine And.intro ?_ ?_
       · first | omega | decide | (simp (disch := omega) only [wkW, Int.reduceToNat, Int.reducePow] <;> omega) | (simp <;> omega))
    | (simp (disch := omega) only [wkW, Int.reduceToNat, Int.reducePow])
    | fail

end Go.Proofs.YtbmhnjghpjkjpaaDoor
set_option maxHeartbeats 4000000
set_option maxRecDepth 4000
set_option exponentiation.threshold 300000
set_option linter.unusedVariables false
set_option linter.unusedSimpArgs false
namespace Go.Proofs.YtbmhnjghpjkjpaaDoor
open Go Go.PV

def rnat (u : Nat) : Nat := rndU (u * 2 ^ 1074) 1

theorem ieee_from_uint (u : Nat) (hu : u < 18446744073709551616) : Meets Tryd.prog 34 [.int .u64 (u : Int)] (.int .u64 (rnat u : Int)) := by
  have h1 := from_uint u hu
  have h2 := ieee_round (n := u) (nmax_of (k := 64) (by simpa using hu) (by decide)) false 0 ⟨by decide, by decide⟩ false (N := u * 2 ^ 1074) (D := 1) (by decide) (.inl ⟨rfl, by rw [show (-(0 + 1074) : Int).toNat = 0 from rfl, show ((0 + 1074 : Int)).toNat = 1074 from rfl, Nat.pow_zero, Nat.mul_one, Nat.mul_one]⟩) (fun h => by cases h)
  rw [signed_f] at h2
  unfold rnat
  generalize rndU (u * 2 ^ 1074) 1 = R at *
  generalize natL u = a at *
  refine meets_by ttOk Tryd.func34 Tryd.ntmps34 Tryd.results34 (by kernel_rfl) (c := _) rfl rfl rfl fun E => ?_
  simp only [argsFrame]
  repeat' first
    | (with_reducible first | refine PW.seq ?_ | refine PW.block ?_ | refine PW.fork ?_ | refine PW.skip ?_ | refine PW.exit ?_ | refine PW.ret ?_ | refine PW.scope ?_ | refine PW.label ?_ | refine PW.goto ?_)
    | (with_reducible refine PW.region ttOk ?_ ?_
       · rfl)
    | (with_reducible refine PW.regionD ttOk mixed ?_ ?_ ?_
       · rfl
       · rfl)
    | (with_reducible refine ifW_dec (fun g => ?_) (fun g => ?_) <;> first | (exfalso; omega) | (simp -dsimp only [g, wkI]))
    | (with_reducible refine condE_dec (fun g => ?_) (fun g => ?_) <;> try (exfalso; omega))
    | (with_reducible refine condE_not (fun g => ?_) (fun g => ?_) <;> try (exfalso; omega))
    | (simp -dsimp only [↓wkA, ↓wkE, ↓wkJ, wkB, ↓tt, Nat.reduceBEq, Nat.reduceEqDiff, ↓reduceIte, Nat.reduceLT, Array.toList, Nat.reduceAdd, Nat.reduceMul, Int.reduceToNat, Int.reducePow, UInt8.reduceToNat])
    | (refine call_by (h1) (views_data rfl) ⟨trivial, trivial⟩ rfl ?_)
    | (refine call_by (h2) (views_data rfl) ⟨trivial, trivial, trivial, trivial, trivial⟩ rfl ?_)
    | (simp -dsimp (disch := first | assumption | omega) only [dec_t, dec_f])
    | (refine And.intro ?_ ?_
       · first | omega | decide | (simp (disch := omega) only [wkW, Int.reduceToNat, Int.reducePow] <;> omega) | (simp <;> omega))
    | (simp (disch := omega) only [wkW, Int.reduceToNat, Int.reducePow])
    | fail

theorem shl_small {z k : Nat} (hz : z < 2 ^ 20000) (hk : k ≤ 40000) : Meets Tryd.prog 12 [.ints .u64 (natL z), .int .i64 (k : Int)] (.tup [.ints .u64 (natL (z * 2 ^ k)), .int .i64 0]) := by
  have h1 : z * 2 ^ k < 2 ^ 60000 := by
    refine Nat.lt_of_lt_of_le (Nat.mul_lt_mul_of_pos_right hz (Nat.two_pow_pos k)) ?_
    rw [← Nat.pow_add]; exact Nat.pow_le_pow_right (by decide) (Nat.add_le_add_left hk 20000)
  exact shl_nat (nmax_of hz (by decide)) (Nat.le_trans hk (by decide)) (nmax_of h1 (by decide))

theorem soft_aligned {x y : Nat} {ex ey : Int} (hx : x < 2 ^ 20000) (hy : y < 2 ^ 20000) (hex : -20000 ≤ ex ∧ ex ≤ 20000) (hey : -20000 ≤ ey ∧ ey ≤ 20000) : Meets Tryd.prog 82 [.ints .u64 (natL x), .int .i64 ex, .ints .u64 (natL y), .int .i64 ey] (.tup [.ints .u64 (natL (x * 2 ^ (ex - ey).toNat)), .ints .u64 (natL (y * 2 ^ (ey - ex).toNat)), .int .i64 (min ex ey)]) := by
  have hsx := fun k hk => shl_small (k := k) hx hk
  have hsy := fun k hk => shl_small (k := k) hy hk
  clear hx hy
  by_cases h : ey < ex
  · obtain ⟨k, hk⟩ : ∃ k : Nat, (k : Int) = ex - ey := ⟨(ex - ey).toNat, by omega⟩
    have h1 := hsx k (by omega)
    have w1 : IntKind.wrap .i64 (ex - ey) = (k : Int) := by rw [hk]; exact wrap_i64 (by omega)
    have d1 : decide (ey < ex) = true := decide_eq_true h
    rw [show (ex - ey).toNat = k by omega, show (ey - ex).toNat = 0 by omega, Nat.pow_zero, Nat.mul_one, show min ex ey = ey by omega]
    clear hsx hsy
    generalize natL (x * 2 ^ k) = r at *
    generalize natL x = a at *
    generalize natL y = b at *
    refine meets_by ttOk Tryd.func82 Tryd.ntmps82 Tryd.results82 (by kernel_rfl) (c := _) rfl rfl rfl fun E => ?_
    simp only [argsFrame]
    repeat' first
      | (with_reducible first | refine PW.seq ?_ | refine PW.block ?_ | refine PW.fork ?_ | refine PW.skip ?_ | refine PW.exit ?_ | refine PW.ret ?_ | refine PW.scope ?_ | refine PW.label ?_ | refine PW.goto ?_)
      | (simp only [w1, d1])
      | (with_reducible refine PW.region ttOk ?_ ?_
         · rfl)
      | (with_reducible refine PW.regionD ttOk mixed ?_ ?_ ?_
         · rfl
         · rfl)
      | (with_reducible refine ifW_dec (fun g => ?_) (fun g => ?_) <;> first | (exfalso; omega) | (simp -dsimp only [g, wkI]))
      | (with_reducible refine condE_dec (fun g => ?_) (fun g => ?_) <;> try (exfalso; omega))
      | (with_reducible refine condE_not (fun g => ?_) (fun g => ?_) <;> try (exfalso; omega))
      | (simp -dsimp only [↓wkA, ↓wkE, ↓wkJ, wkB, ↓tt, Nat.reduceBEq, Nat.reduceEqDiff, ↓reduceIte, Nat.reduceLT, Array.toList, Nat.reduceAdd, Nat.reduceMul, Int.reduceToNat, Int.reducePow, UInt8.reduceToNat])
      | (refine call_by (h1) (views_data rfl) ⟨trivial, trivial, trivial⟩ rfl ?_)
      | (simp -dsimp (disch := first | assumption | omega) only [dec_t, dec_f])
      | (refine And.intro ?_ ?_
         · first | omega | decide | (simp (disch := omega) only [wkW, Int.reduceToNat, Int.reducePow] <;> omega) | (simp <;> omega))
      | (simp (disch := omega) only [wkW, Int.reduceToNat, Int.reducePow])
      | fail
  · obtain ⟨k, hk⟩ : ∃ k : Nat, (k : Int) = ey - ex := ⟨(ey - ex).toNat, by omega⟩
    have h1 := hsy k (by omega)
    have w1 : IntKind.wrap .i64 (ey - ex) = (k : Int) := by rw [hk]; exact wrap_i64 (by omega)
    have d1 : decide (ey < ex) = false := decide_eq_false h
    rw [show (ey - ex).toNat = k by omega, show (ex - ey).toNat = 0 by omega, Nat.pow_zero, Nat.mul_one, show min ex ey = ex by omega]
    clear hsx hsy
    generalize natL (y * 2 ^ k) = r at *
    generalize natL x = a at *
    generalize natL y = b at *
    refine meets_by ttOk Tryd.func82 Tryd.ntmps82 Tryd.results82 (by kernel_rfl) (c := _) rfl rfl rfl fun E => ?_
    simp only [argsFrame]
    repeat' first
      | (with_reducible first | refine PW.seq ?_ | refine PW.block ?_ | refine PW.fork ?_ | refine PW.skip ?_ | refine PW.exit ?_ | refine PW.ret ?_ | refine PW.scope ?_ | refine PW.label ?_ | refine PW.goto ?_)
      | (simp only [w1, d1])
      | (with_reducible refine PW.region ttOk ?_ ?_
         · rfl)
      | (with_reducible refine PW.regionD ttOk mixed ?_ ?_ ?_
         · rfl
         · rfl)
      | (with_reducible refine ifW_dec (fun g => ?_) (fun g => ?_) <;> first | (exfalso; omega) | (simp -dsimp only [g, wkI]))
      | (with_reducible refine condE_dec (fun g => ?_) (fun g => ?_) <;> try (exfalso; omega))
      | (with_reducible refine condE_not (fun g => ?_) (fun g => ?_) <;> try (exfalso; omega))
      | (simp -dsimp only [↓wkA, ↓wkE, ↓wkJ, wkB, ↓tt, Nat.reduceBEq, Nat.reduceEqDiff, ↓reduceIte, Nat.reduceLT, Array.toList, Nat.reduceAdd, Nat.reduceMul, Int.reduceToNat, Int.reducePow, UInt8.reduceToNat])
      | (refine call_by (h1) (views_data rfl) ⟨trivial, trivial, trivial⟩ rfl ?_)
      | (simp -dsimp (disch := first | assumption | omega) only [dec_t, dec_f])
      | (refine And.intro ?_ ?_
         · first | omega | decide | (simp (disch := omega) only [wkW, Int.reduceToNat, Int.reducePow] <;> omega) | (simp <;> omega))
      | (simp (disch := omega) only [wkW, Int.reduceToNat, Int.reducePow])
      | fail

theorem flags_walk (ng ng2 : Bool) (a b m mb x1 y1 x2 y2 : List Int) (d c pe fe : Int) (mi : Int) (e1 e2 c1 c2 fl : Int) (hdec : Meets Tryd.prog 65 [.int .u64 d] (.agg [.bool ng2, .int .i64 c, .int .u64 mi, .int .i64 pe]))
    (hfu : Meets Tryd.prog 51 [.int .u64 mi] (.ints .u64 m)) (hmul : Meets Tryd.prog 11 [.ints .u64 b, .ints .u64 m] (.tup [.ints .u64 mb, .int .i64 0]))
    (hal1 : Meets Tryd.prog 82 [.ints .u64 a, .int .i64 fe, .ints .u64 mb, .int .i64 pe] (.tup [.ints .u64 x1, .ints .u64 y1, .int .i64 e1])) (hc1 : Meets Tryd.prog 13 [.ints .u64 x1, .ints .u64 y1] (.int .i64 c1))
    (hal2 : Meets Tryd.prog 82 [.ints .u64 a, .int .i64 fe, .ints .u64 b, .int .i64 (-1022)] (.tup [.ints .u64 x2, .ints .u64 y2, .int .i64 e2])) (hc2 : Meets Tryd.prog 13 [.ints .u64 x2, .ints .u64 y2] (.int .i64 c2))
    (hfl : (c = 3 ∧ fl = 20) ∨ (c ≠ 3 ∧ c1 = 0 ∧ fl = 0) ∨ (c ≠ 3 ∧ c1 ≠ 0 ∧ c2 < 0 ∧ fl = 24) ∨ (c ≠ 3 ∧ c1 ≠ 0 ∧ ¬ c2 < 0 ∧ fl = 16)) :
    Meets Tryd.prog 70 [.agg [.bool ng, .ints .u64 a, .ints .u64 b, .int .i64 fe], .int .u64 d] (.int .i64 fl) := by
  refine meets_by ttOk Tryd.func70 Tryd.ntmps70 Tryd.results70 (by kernel_rfl) (c := _) rfl rfl rfl fun E => ?_
  simp only [argsFrame]
  repeat' first
    | (with_reducible first | refine PW.seq ?_ | refine PW.block ?_ | refine PW.fork ?_ | refine PW.skip ?_ | refine PW.exit ?_ | refine PW.ret ?_ | refine PW.scope ?_ | refine PW.label ?_ | refine PW.goto ?_)
    | (with_reducible refine PW.region ttOk ?_ ?_
       · rfl)
    | (with_reducible refine PW.regionD ttOk mixed ?_ ?_ ?_
       · rfl
       · rfl)
    | (with_reducible refine ifW_dec (fun g => ?_) (fun g => ?_) <;> first | (exfalso; omega) | (simp -dsimp only [g, wkI]))
    | (with_reducible refine condE_dec (fun g => ?_) (fun g => ?_) <;> try (exfalso; omega))
    | (with_reducible refine condE_not (fun g => ?_) (fun g => ?_) <;> try (exfalso; omega))
    | (simp -dsimp only [↓wkA, ↓wkE, ↓wkJ, wkB, ↓tt, Nat.reduceBEq, Nat.reduceEqDiff, ↓reduceIte, Nat.reduceLT, Array.toList, Nat.reduceAdd, Nat.reduceMul, Int.reduceToNat, Int.reducePow, UInt8.reduceToNat])
    | (refine call_by (hdec) (views_data rfl) ⟨trivial, trivial⟩ rfl ?_)
    | (refine callD_by (hfu) (views_data rfl) ⟨trivial, trivial⟩ rfl ?_)
    | (refine callD_by (hmul) (views_data rfl) ⟨trivial, trivial, trivial⟩ rfl ?_)
    | (refine call_by (hal1) (views_data rfl) ⟨trivial, trivial, trivial, trivial, trivial⟩ rfl ?_)
    | (refine call_by (hal2) (views_data rfl) ⟨trivial, trivial, trivial, trivial, trivial⟩ rfl ?_)
    | (refine call_by (hc1) (views_data rfl) ⟨trivial, trivial, trivial⟩ rfl ?_)
    | (refine call_by (hc2) (views_data rfl) ⟨trivial, trivial, trivial⟩ rfl ?_)
    | (simp -dsimp (disch := first | assumption | omega) only [dec_t, dec_f])
    | (refine And.intro ?_ ?_
       · first | omega | decide | (simp (disch := omega) only [wkW, Int.reduceToNat, Int.reducePow] <;> omega) | (simp <;> omega))
    | (simp (disch := omega) only [wkW, Int.reduceToNat, Int.reducePow])
    | fail
  all_goals (refine congrArg (PV.int _) ?_; omega)
end Go.Proofs.YtbmhnjghpjkjpaaDoor
set_option maxHeartbeats 4000000
set_option maxRecDepth 4000
set_option exponentiation.threshold 300000
set_option linter.unusedVariables false
set_option linter.unusedSimpArgs false
namespace Go.Proofs.YtbmhnjghpjkjpaaDoor
open Go Go.PV

theorem soft_flags (ng : Bool) {a b : Nat} (ha : a < 2 ^ 1000) (hb : b < 2 ^ 1000) (fe : Int) (hfe : -10000 ≤ fe ∧ fe ≤ 10000) (d : Nat) (hd : d < 18446744073709551616) : ∃ fl : Int, Meets Tryd.prog 70 [.agg [.bool ng, .ints .u64 (natL a), .ints .u64 (natL b), .int .i64 fe], .int .u64 (d : Int)] (.int .i64 fl) := by
  have hdec := ieee_decode d hd
  unfold partsP at hdec
  obtain ⟨m, hm, hmi⟩ : ∃ m : Nat, m < 2 ^ 53 ∧ partsM d = (m : Int) := by
    have h1 := mantD_lt d
    have h2 := frac_lt d
    unfold partsM
    split
    · exact ⟨_, h1, rfl⟩
    · exact ⟨_, Nat.lt_trans h2 (by decide), rfl⟩
  have hpe : -1074 ≤ partsE d ∧ partsE d ≤ 1100 := by
    have h1 := expD_ge d
    have h2 := field_lt d
    unfold partsE
    split
    · unfold expD at *; split <;> omega
    · omega
  rw [hmi] at hdec
  have hfu := from_uint m (Nat.lt_trans hm (by decide))
  have hbm : b * m < 2 ^ 2000 := by
    have := Nat.mul_lt_mul_of_lt_of_le hb (Nat.le_of_lt hm) (Nat.two_pow_pos 53)
    rw [← Nat.pow_add] at this
    exact Nat.lt_trans this (Nat.pow_lt_pow_right (by decide) (by decide))
  have hbig : ∀ {x k : Nat}, x < 2 ^ k → k ≤ 20000 → x < 2 ^ 20000 := fun h hk => Nat.lt_of_lt_of_le h (Nat.pow_le_pow_right (by decide) hk)
  have hmul := mul_nat0 (u := b) (v := m) (nmax_of hb (by decide)) (nmax_of hm (by decide)) (nmax_of hbm (by decide))
  have ha1 := soft_aligned (x := a) (y := b * m) (ex := fe) (ey := partsE d) (hbig ha (by decide)) (hbig hbm (by decide)) ⟨by omega, by omega⟩ ⟨by omega, by omega⟩
  have ha2 := soft_aligned (x := a) (y := b) (ex := fe) (ey := -1022) (hbig ha (by decide)) (hbig hb (by decide)) ⟨by omega, by omega⟩ ⟨by decide, by decide⟩
  have hsm : ∀ {x k : Nat}, x < 2 ^ 2000 → k ≤ 20000 → x * 2 ^ k < NMax := fun {x k} h hk => by
    have := Nat.mul_lt_mul_of_pos_right h (Nat.two_pow_pos k)
    rw [← Nat.pow_add] at this
    exact nmax_of this (Nat.le_trans (Nat.add_le_add_left hk 2000) (by decide))
  have hb2 : ∀ {x : Nat}, x < 2 ^ 1000 → x < 2 ^ 2000 := fun h => Nat.lt_trans h (Nat.pow_lt_pow_right (by decide) (by decide))
  have hc1 := cmp_nat (hsm (k := (fe - partsE d).toNat) (hb2 ha) (by omega)) (hsm (k := (partsE d - fe).toNat) hbm (by omega))
  have hc2 := cmp_nat (hsm (k := (fe - -1022).toNat) (hb2 ha) (by omega)) (hsm (k := (-1022 - fe).toNat) (hb2 hb) (by omega))
  generalize (if a * 2 ^ (fe - partsE d).toNat < b * m * 2 ^ (partsE d - fe).toNat then (-1 : Int) else if b * m * 2 ^ (partsE d - fe).toNat < a * 2 ^ (fe - partsE d).toNat then 1 else 0) = c1 at *
  generalize (if a * 2 ^ (fe - -1022).toNat < b * 2 ^ (-1022 - fe).toNat then (-1 : Int) else if b * 2 ^ (-1022 - fe).toNat < a * 2 ^ (fe - -1022).toNat then 1 else 0) = c2 at *
  have hw := fun fl h => flags_walk ng (negD d) _ _ _ _ _ _ _ _ (d : Int) (classD d) (partsE d) fe _ _ _ c1 c2 fl hdec hfu hmul ha1 hc1 ha2 hc2 h
  by_cases h3 : classD d = 3
  · exact ⟨20, hw 20 (.inl ⟨h3, rfl⟩)⟩
  · by_cases h4 : c1 = 0
    · exact ⟨0, hw 0 (.inr (.inl ⟨h3, h4, rfl⟩))⟩
    · by_cases h5 : c2 < 0
      · exact ⟨24, hw 24 (.inr (.inr (.inl ⟨h3, h4, h5, rfl⟩)))⟩
      · exact ⟨16, hw 16 (.inr (.inr (.inr ⟨h3, h4, h5, rfl⟩)))⟩

theorem with_sign_f (d : Int) : Meets Tryd.prog 67 [.bool false, .int .u64 d] (.int .u64 d) := by
  refine meets_by ttOk Tryd.func67 Tryd.ntmps67 Tryd.results67 (by kernel_rfl) (c := _) rfl rfl rfl fun E => ?_
  simp only [argsFrame]
  repeat' first
    | (with_reducible first | refine PW.seq ?_ | refine PW.block ?_ | refine PW.fork ?_ | refine PW.skip ?_ | refine PW.exit ?_ | refine PW.ret ?_ | refine PW.scope ?_ | refine PW.label ?_ | refine PW.goto ?_)
    | (with_reducible refine PW.region ttOk ?_ ?_
       · rfl)
    | (with_reducible refine PW.regionD ttOk mixed ?_ ?_ ?_
       · rfl
       · rfl)
    | (with_reducible refine ifW_dec (fun g => ?_) (fun g => ?_) <;> first | (exfalso; omega) | (simp -dsimp only [g, wkI]))
    | (with_reducible refine condE_dec (fun g => ?_) (fun g => ?_) <;> try (exfalso; omega))
    | (with_reducible refine condE_not (fun g => ?_) (fun g => ?_) <;> try (exfalso; omega))
    | (simp -dsimp only [↓wkA, ↓wkE, ↓wkJ, wkB, ↓tt, Nat.reduceBEq, Nat.reduceEqDiff, ↓reduceIte, Nat.reduceLT, Array.toList, Nat.reduceAdd, Nat.reduceMul, Int.reduceToNat, Int.reducePow, UInt8.reduceToNat])
    | (simp -dsimp (disch := first | assumption | omega) only [dec_t, dec_f])
    | (refine And.intro ?_ ?_
       · first | omega | decide | (simp (disch := omega) only [wkW, Int.reduceToNat, Int.reducePow] <;> omega) | (simp <;> omega))
    | (simp (disch := omega) only [wkW, Int.reduceToNat, Int.reducePow])
    | fail

theorem rounded_walk (ng : Bool) (a : List Int) (e R fl : Int) (h0 : decide ((a.length : Int) = 0) = false) (hr : Meets Tryd.prog 16 [.bool ng, .ints .u64 a, .int .i64 e, .bool false] (.tup [.int .u64 R, .int .i64 0]))
    (hf : Meets Tryd.prog 70 [.agg [.bool ng, .ints .u64 a, .ints .u64 [1], .int .i64 e], .int .u64 R] (.int .i64 fl)) :
    Meets Tryd.prog 69 [.agg [.bool ng, .ints .u64 a, .int .i64 e]] (.tup [.int .u64 R, .int .i64 fl]) := by
  refine meets_by ttOk Tryd.func69 Tryd.ntmps69 Tryd.results69 (by kernel_rfl) (c := _) rfl rfl rfl fun E => ?_
  simp only [argsFrame]
  repeat' first
    | (with_reducible first | refine PW.seq ?_ | refine PW.block ?_ | refine PW.fork ?_ | refine PW.skip ?_ | refine PW.exit ?_ | refine PW.ret ?_ | refine PW.scope ?_ | refine PW.label ?_ | refine PW.goto ?_)
    | (simp only [h0])
    | (with_reducible refine PW.region ttOk ?_ ?_
       · rfl)
    | (with_reducible refine PW.regionD ttOk mixed ?_ ?_ ?_
       · rfl
       · rfl)
    | (with_reducible refine ifW_dec (fun g => ?_) (fun g => ?_) <;> first | (exfalso; omega) | (simp -dsimp only [g, wkI]))
    | (with_reducible refine condE_dec (fun g => ?_) (fun g => ?_) <;> try (exfalso; omega))
    | (with_reducible refine condE_not (fun g => ?_) (fun g => ?_) <;> try (exfalso; omega))
    | (simp -dsimp only [↓wkA, ↓wkE, ↓wkJ, wkB, ↓tt, Nat.reduceBEq, Nat.reduceEqDiff, ↓reduceIte, Nat.reduceLT, Array.toList, Nat.reduceAdd, Nat.reduceMul, Int.reduceToNat, Int.reducePow, UInt8.reduceToNat])
    | (refine call_by (hr) (views_data rfl) ⟨trivial, trivial, trivial, trivial, trivial⟩ rfl ?_)
    | (refine call_by' (args' := [.agg [.bool ng, .ints .u64 a, .ints .u64 [1], .int .i64 e], .int .u64 R]) (by simp -dsimp only [↓wkA, ↓wkE, ↓wkJ, wkB, ↓tt, Nat.reduceBEq, Nat.reduceEqDiff, ↓reduceIte, Nat.reduceLT, Array.toList, Nat.reduceAdd, Nat.reduceMul, Int.reduceToNat, Int.reducePow, UInt8.reduceToNat]) hf (by simp -dsimp only [okViews, okView, okViews0, okView0, ↓wkA, ↓wkE, ↓wkJ, wkB, ↓tt, Nat.reduceBEq, Nat.reduceEqDiff, ↓reduceIte, Nat.reduceLT, Array.toList, Nat.reduceAdd, Nat.reduceMul, Int.reduceToNat, Int.reducePow, UInt8.reduceToNat] <;> decide) rfl ?_)
    | (simp -dsimp (disch := first | assumption | omega) only [dec_t, dec_f])
    | (refine And.intro ?_ ?_
       · first | omega | decide | (simp (disch := omega) only [wkW, Int.reduceToNat, Int.reducePow] <;> omega) | (simp <;> omega))
    | (simp (disch := omega) only [wkW, Int.reduceToNat, Int.reducePow])
    | fail

theorem rounded_zero (e : Int) : Meets Tryd.prog 69 [.agg [.bool false, .ints .u64 [], .int .i64 e]] (.tup [.int .u64 0, .int .i64 0]) := by
  have hw := with_sign_f 0
  refine meets_by ttOk Tryd.func69 Tryd.ntmps69 Tryd.results69 (by kernel_rfl) (c := _) rfl rfl rfl fun E => ?_
  simp only [argsFrame]
  repeat' first
    | (with_reducible first | refine PW.seq ?_ | refine PW.block ?_ | refine PW.fork ?_ | refine PW.skip ?_ | refine PW.exit ?_ | refine PW.ret ?_ | refine PW.scope ?_ | refine PW.label ?_ | refine PW.goto ?_)
    | (with_reducible refine PW.region ttOk ?_ ?_
       · rfl)
    | (with_reducible refine PW.regionD ttOk mixed ?_ ?_ ?_
       · rfl
       · rfl)
    | (with_reducible refine ifW_dec (fun g => ?_) (fun g => ?_) <;> first | (exfalso; omega) | (simp -dsimp only [g, wkI]))
    | (with_reducible refine condE_dec (fun g => ?_) (fun g => ?_) <;> try (exfalso; omega))
    | (with_reducible refine condE_not (fun g => ?_) (fun g => ?_) <;> try (exfalso; omega))
    | (simp -dsimp only [↓wkA, ↓wkE, ↓wkJ, wkB, ↓tt, Nat.reduceBEq, Nat.reduceEqDiff, ↓reduceIte, Nat.reduceLT, Array.toList, Nat.reduceAdd, Nat.reduceMul, Int.reduceToNat, Int.reducePow, UInt8.reduceToNat])
    | (refine call_by (hw) (views_data rfl) ⟨trivial, trivial, trivial⟩ rfl ?_)
    | (simp -dsimp (disch := first | assumption | omega) only [dec_t, dec_f])
    | (refine And.intro ?_ ?_
       · first | omega | decide | (simp (disch := omega) only [wkW, Int.reduceToNat, Int.reducePow] <;> omega) | (simp <;> omega))
    | (simp (disch := omega) only [wkW, Int.reduceToNat, Int.reducePow])
    | fail

theorem product_walk (n1 n2 : Bool) (c1 c2 e1 e2 e : Int) (m1 m2 : Int) (a b p : List Int) (h1 : Meets Tryd.prog 51 [.int .u64 m1] (.ints .u64 a)) (h2 : Meets Tryd.prog 51 [.int .u64 m2] (.ints .u64 b)) (h3 : Meets Tryd.prog 11 [.ints .u64 a, .ints .u64 b] (.tup [.ints .u64 p, .int .i64 0])) (he : IntKind.wrap .i64 (e1 + e2) = e) :
    Meets Tryd.prog 68 [.agg [.bool n1, .int .i64 c1, .int .u64 m1, .int .i64 e1], .agg [.bool n2, .int .i64 c2, .int .u64 m2, .int .i64 e2]] (.agg [.bool (!(n1 == n2)), .ints .u64 p, .int .i64 e]) := by
  refine meets_by ttOk Tryd.func68 Tryd.ntmps68 Tryd.results68 (by kernel_rfl) (c := _) rfl rfl rfl fun E => ?_
  simp only [argsFrame]
  repeat' first
    | (with_reducible first | refine PW.seq ?_ | refine PW.block ?_ | refine PW.fork ?_ | refine PW.skip ?_ | refine PW.exit ?_ | refine PW.ret ?_ | refine PW.scope ?_ | refine PW.label ?_ | refine PW.goto ?_)
    | (simp only [he])
    | (with_reducible refine PW.region ttOk ?_ ?_
       · rfl)
    | (with_reducible refine PW.regionD ttOk mixed ?_ ?_ ?_
       · rfl
       · rfl)
    | (with_reducible refine ifW_dec (fun g => ?_) (fun g => ?_) <;> first | (exfalso; omega) | (simp -dsimp only [g, wkI]))
    | (with_reducible refine condE_dec (fun g => ?_) (fun g => ?_) <;> try (exfalso; omega))
    | (with_reducible refine condE_not (fun g => ?_) (fun g => ?_) <;> try (exfalso; omega))
    | (simp -dsimp only [↓wkA, ↓wkE, ↓wkJ, wkB, ↓tt, Nat.reduceBEq, Nat.reduceEqDiff, ↓reduceIte, Nat.reduceLT, Array.toList, Nat.reduceAdd, Nat.reduceMul, Int.reduceToNat, Int.reducePow, UInt8.reduceToNat])
    | (refine callD_by (h1) (views_data rfl) ⟨trivial, trivial⟩ rfl ?_)
    | (refine callD_by (h2) (views_data rfl) ⟨trivial, trivial⟩ rfl ?_)
    | (refine callD_by (h3) (views_data rfl) ⟨trivial, trivial, trivial⟩ rfl ?_)
    | (simp -dsimp (disch := first | assumption | omega) only [dec_t, dec_f])
    | (refine And.intro ?_ ?_
       · first | omega | decide | (simp (disch := omega) only [wkW, Int.reduceToNat, Int.reducePow] <;> omega) | (simp <;> omega))
    | (simp (disch := omega) only [wkW, Int.reduceToNat, Int.reducePow])
    | fail
end Go.Proofs.YtbmhnjghpjkjpaaDoor
set_option maxHeartbeats 4000000
set_option maxRecDepth 4000
set_option exponentiation.threshold 300000
set_option linter.unusedVariables false
set_option linter.unusedSimpArgs false
namespace Go.Proofs.YtbmhnjghpjkjpaaDoor
open Go Go.PV

theorem mul_walk (x y z c1 c2 m1 m2 e1 e2 e R fl : Int) (p : List Int) (hc : (c1 ≠ 3 ∧ c1 ≠ 4) ∧ (c2 ≠ 3 ∧ c2 ≠ 4)) (h1 : Meets Tryd.prog 65 [.int .u64 x] (.agg [.bool false, .int .i64 c1, .int .u64 m1, .int .i64 e1])) (h2 : Meets Tryd.prog 65 [.int .u64 y] (.agg [.bool false, .int .i64 c2, .int .u64 m2, .int .i64 e2]))
    (h3 : Meets Tryd.prog 68 [.agg [.bool false, .int .i64 c1, .int .u64 m1, .int .i64 e1], .agg [.bool false, .int .i64 c2, .int .u64 m2, .int .i64 e2]] (.agg [.bool (!(false == false)), .ints .u64 p, .int .i64 e])) (h4 : Meets Tryd.prog 69 [.agg [.bool false, .ints .u64 p, .int .i64 e]] (.tup [.int .u64 R, .int .i64 fl])) :
    Meets Tryd.prog 52 [.int .u64 x, .int .u64 y, .int .u64 z] (.tup [.int .u64 R, .int .i64 fl]) := by
  have d1 : decide (c1 = 3) = false := decide_eq_false hc.1.1
  have d2 : decide (c1 = 4) = false := decide_eq_false hc.1.2
  have d3 : decide (c2 = 3) = false := decide_eq_false hc.2.1
  have d4 : decide (c2 = 4) = false := decide_eq_false hc.2.2
  have e0 : (!(false == false)) = false := rfl
  rw [e0] at h3
  by_cases hz : c1 = 0
  all_goals (refine meets_by ttOk Tryd.func52 Tryd.ntmps52 Tryd.results52 (by kernel_rfl) (c := _) rfl rfl rfl fun E => ?_; simp only [argsFrame])
  all_goals
    repeat' first
      | (with_reducible first | refine PW.seq ?_ | refine PW.block ?_ | refine PW.fork ?_ | refine PW.skip ?_ | refine PW.exit ?_ | refine PW.ret ?_ | refine PW.scope ?_ | refine PW.label ?_ | refine PW.goto ?_)
      | (simp only [d1, d2, d3, d4])
      | (with_reducible refine PW.region ttOk ?_ ?_
         · rfl)
      | (with_reducible refine PW.regionD ttOk mixed ?_ ?_ ?_
         · rfl
         · rfl)
      | (with_reducible refine ifW_dec (fun g => ?_) (fun g => ?_) <;> first | (exfalso; omega) | (simp -dsimp only [g, wkI]))
      | (with_reducible refine condE_dec (fun g => ?_) (fun g => ?_) <;> try (exfalso; omega))
      | (with_reducible refine condE_not (fun g => ?_) (fun g => ?_) <;> try (exfalso; omega))
      | (simp -dsimp only [↓wkA, ↓wkE, ↓wkJ, wkB, ↓tt, Nat.reduceBEq, Nat.reduceEqDiff, ↓reduceIte, Nat.reduceLT, Array.toList, Nat.reduceAdd, Nat.reduceMul, Int.reduceToNat, Int.reducePow, UInt8.reduceToNat])
      | (refine call_by (h1) (views_data rfl) ⟨trivial, trivial⟩ rfl ?_)
      | (refine call_by (h2) (views_data rfl) ⟨trivial, trivial⟩ rfl ?_)
      | (refine call_by (h3) (views_data rfl) (by simp only [okViews, okView, okViews0, okView0, and_self]) rfl ?_)
      | (refine call_by (h4) (views_data rfl) (by simp only [okViews, okView, okViews0, okView0, and_self]) rfl ?_)
      | (simp -dsimp (disch := first | assumption | omega) only [dec_t, dec_f])
      | (refine And.intro ?_ ?_
         · first | omega | decide | (simp (disch := omega) only [wkW, Int.reduceToNat, Int.reducePow] <;> omega) | (simp <;> omega))
      | (simp (disch := omega) only [wkW, Int.reduceToNat, Int.reducePow])
      | fail

theorem mul_outer (x y R fl : Int) (h : Meets Tryd.prog 52 [.int .u64 x, .int .u64 y, .int .u64 0] (.tup [.int .u64 R, .int .i64 fl])) : Meets Tryd.prog 36 [.int .u64 x, .int .u64 y] (.int .u64 R) := by
  refine meets_by ttOk Tryd.func36 Tryd.ntmps36 Tryd.results36 (by kernel_rfl) (c := _) rfl rfl rfl fun E => ?_
  simp only [argsFrame]
  repeat' first
    | (with_reducible first | refine PW.seq ?_ | refine PW.block ?_ | refine PW.fork ?_ | refine PW.skip ?_ | refine PW.exit ?_ | refine PW.ret ?_ | refine PW.scope ?_ | refine PW.label ?_ | refine PW.goto ?_)
    | (with_reducible refine PW.region ttOk ?_ ?_
       · rfl)
    | (with_reducible refine PW.regionD ttOk mixed ?_ ?_ ?_
       · rfl
       · rfl)
    | (with_reducible refine ifW_dec (fun g => ?_) (fun g => ?_) <;> first | (exfalso; omega) | (simp -dsimp only [g, wkI]))
    | (with_reducible refine condE_dec (fun g => ?_) (fun g => ?_) <;> try (exfalso; omega))
    | (with_reducible refine condE_not (fun g => ?_) (fun g => ?_) <;> try (exfalso; omega))
    | (simp -dsimp only [↓wkA, ↓wkE, ↓wkJ, wkB, ↓tt, Nat.reduceBEq, Nat.reduceEqDiff, ↓reduceIte, Nat.reduceLT, Array.toList, Nat.reduceAdd, Nat.reduceMul, Int.reduceToNat, Int.reducePow, UInt8.reduceToNat])
    | (refine call_by (h) (views_data rfl) ⟨trivial, trivial, trivial, trivial⟩ rfl ?_)
    | (simp -dsimp (disch := first | assumption | omega) only [dec_t, dec_f])
    | (refine And.intro ?_ ?_
       · first | omega | decide | (simp (disch := omega) only [wkW, Int.reduceToNat, Int.reducePow] <;> omega) | (simp <;> omega))
    | (simp (disch := omega) only [wkW, Int.reduceToNat, Int.reducePow])
    | fail

theorem negD_f {d : Nat} (h : d < 9223372036854775808) : negD d = false := decide_eq_false (by omega)
theorem absD_f {d : Nat} (h : d < 9223372036854775808) : absD d = d := Nat.mod_eq_of_lt h
theorem fin_parts {d : Nat} (hf : finD d) : (classD d ≠ 3 ∧ classD d ≠ 4) ∧ ((absD d = 0 ∧ classD d = 0 ∧ partsM d = 0 ∧ partsE d = 0) ∨ (absD d ≠ 0 ∧ classD d ≠ 0 ∧ partsM d = (mantD d : Int) ∧ partsE d = expD d)) := by
  have h1 := fin_class.1 hf
  have h2 := class_zero (d := d)
  refine ⟨⟨by omega, by omega⟩, ?_⟩
  by_cases h0 : absD d = 0
  · left
    have hc := h2.2 h0
    have h3 := abs_zero.1 h0
    refine ⟨h0, hc, ?_, ?_⟩
    · unfold partsM; rw [hc]; simp; omega
    · unfold partsE; rw [hc]; simp
  · right
    exact ⟨h0, fun e => h0 (h2.1 e), (parts_fin hf h0).1, (parts_fin hf h0).2⟩

theorem soft_mul {x y : Nat} (hx : x < 9223372036854775808) (hy : y < 9223372036854775808) (hfx : finD x) (hfy : finD y) : Meets Tryd.prog 36 [.int .u64 (x : Int), .int .u64 (y : Int)] (.int .u64 (rndU (dv x * dv y) (2 ^ 1074) : Int)) := by
  obtain ⟨hcx, hpx⟩ := fin_parts hfx
  obtain ⟨hcy, hpy⟩ := fin_parts hfy
  have hdx := ieee_decode x (by omega)
  have hdy := ieee_decode y (by omega)
  unfold partsP at hdx hdy
  rw [negD_f hx] at hdx
  rw [negD_f hy] at hdy
  have hmx : mantD x < 2 ^ 53 := mantD_lt x
  have hmy : mantD y < 2 ^ 53 := mantD_lt y
  have hex := expD_ge x
  have hex2 := expD_le hfx
  have hey := expD_ge y
  have hey2 := expD_le hfy
  have hvx := dv_parts x
  have hvy := dv_parts y
  have h0 := dv_zero
  rw [absD_f hx] at hvx hpx
  rw [absD_f hy] at hvy hpy
  have hpos : (0 : Nat) < 2 ^ 1074 := Nat.two_pow_pos _
  have h64 : ∀ {m : Nat}, m < 2 ^ 53 → m < 18446744073709551616 := fun h => Nat.lt_trans h (by decide)
  by_cases hz : x = 0 ∨ y = 0
  · -- nothing
    have hR : rndU (dv x * dv y) (2 ^ 1074) = 0 := by
      have : dv x * dv y = 0 := by rcases hz with rfl | rfl <;> rw [h0] <;> simp
      rw [this]; exact rndU_zero hpos
    rw [hR]
    obtain ⟨mx, hx1, hx2⟩ : ∃ m : Nat, m < 2 ^ 53 ∧ partsM x = (m : Int) ∧ (x = 0 → m = 0) := by
      rcases hpx with ⟨h1, _, h2, _⟩ | ⟨h1, _, h2, _⟩
      · exact ⟨0, by decide, h2, fun _ => rfl⟩
      · exact ⟨mantD x, hmx, h2, fun e => absurd e h1⟩
    obtain ⟨my, hy1, hy2⟩ : ∃ m : Nat, m < 2 ^ 53 ∧ partsM y = (m : Int) ∧ (y = 0 → m = 0) := by
      rcases hpy with ⟨h1, _, h2, _⟩ | ⟨h1, _, h2, _⟩
      · exact ⟨0, by decide, h2, fun _ => rfl⟩
      · exact ⟨mantD y, hmy, h2, fun e => absurd e h1⟩
    have hxy : mx * my = 0 := by
      rcases hz with h | h
      · rw [hx2.2 h]; simp
      · rw [hy2.2 h]; simp
    have hfux := from_uint mx (h64 hx1)
    have hfuy := from_uint my (h64 hy1)
    have hmul := mul_nat0 (u := mx) (v := my) (nmax_of hx1 (by decide)) (nmax_of hy1 (by decide)) (by rw [hxy]; exact nmax_pos)
    rw [hxy, natL_zero] at hmul
    rw [hx2.1] at hdx
    rw [hy2.1] at hdy
    have hpr := product_walk false false (classD x) (classD y) (partsE x) (partsE y) _ _ _ _ _ _ hfux hfuy hmul rfl
    exact mul_outer _ _ _ _ (mul_walk _ _ _ _ _ _ _ _ _ _ _ _ _ ⟨hcx, hcy⟩ hdx hdy hpr (rounded_zero _))
  · obtain ⟨_, hcx0, hx1, hx2⟩ := hpx.resolve_left (fun h => hz (.inl h.1))
    obtain ⟨_, hcy0, hy1, hy2⟩ := hpy.resolve_left (fun h => hz (.inr h.1))
    rw [hx1, hx2] at hdx
    rw [hy1, hy2] at hdy
    have hxy : mantD x * mantD y < 2 ^ 106 := by
      have := Nat.mul_lt_mul_of_lt_of_le hmx (Nat.le_of_lt hmy) (Nat.two_pow_pos 53)
      rw [← Nat.pow_add] at this
      exact this
    have hmx0 : mantD x ≠ 0 := fun e => hz (.inl (by have := mantD_zero.1 e; rwa [absD_f hx] at this))
    have hmy0 : mantD y ≠ 0 := fun e => hz (.inr (by have := mantD_zero.1 e; rwa [absD_f hy] at this))
    have hxy0 : mantD x * mantD y ≠ 0 := Nat.mul_ne_zero hmx0 hmy0
    have hfux := from_uint (mantD x) (h64 hmx)
    have hfuy := from_uint (mantD y) (h64 hmy)
    have hmul := mul_nat0 (u := mantD x) (v := mantD y) (nmax_of hmx (by decide)) (nmax_of hmy (by decide)) (nmax_of hxy (by decide))
    have hpr := product_walk false false (classD x) (classD y) (expD x) (expD y) (expD x + expD y) _ _ _ _ _ hfux hfuy hmul (wrap_i64 (by omega))
    have hr := ieee_round (n := mantD x * mantD y) (nmax_of hxy (by decide)) false (expD x + expD y) ⟨by omega, by omega⟩ false (N := dv x * dv y) (D := 2 ^ 1074) hpos (.inl ⟨rfl, by
      rw [hvx, hvy]
      have e : 2 ^ (expD x + 1074).toNat * 2 ^ (expD y + 1074).toNat * 2 ^ (-(expD x + expD y + 1074)).toNat = 2 ^ (expD x + expD y + 1074).toNat * 2 ^ 1074 := by
        rw [← Nat.pow_add, ← Nat.pow_add, ← Nat.pow_add]
        congr 1
        omega
      rw [← e]
      ac_rfl⟩) (fun h => by cases h)
    rw [signed_f] at hr
    obtain ⟨fl, hfl⟩ := soft_flags false (a := mantD x * mantD y) (b := 1) (Nat.lt_trans hxy (Nat.pow_lt_pow_right (by decide) (by decide))) (Nat.one_lt_two_pow (by decide)) (expD x + expD y) ⟨by omega, by omega⟩ (rndU (dv x * dv y) (2 ^ 1074)) (by have : rndU (dv x * dv y) (2 ^ 1074) ≤ infB := rndU_le; unfold infB at this; omega)
    rw [natL_oneL] at hfl
    have hlen : decide (((natL (mantD x * mantD y)).length : Int) = 0) = false := decide_eq_false (by have := (natL_ge hxy0).1; omega)
    exact mul_outer _ _ _ _ (mul_walk _ _ _ _ _ _ _ _ _ _ _ _ _ ⟨hcx, hcy⟩ hdx hdy hpr (rounded_walk false _ _ _ _ hlen hr hfl))

theorem div_walk (x y z c1 c2 m1 m2 e1 e2 e R fl : Int) (a b : List Int) (hc : (c1 ≠ 3 ∧ c1 ≠ 4 ∧ c1 ≠ 0) ∧ (c2 ≠ 3 ∧ c2 ≠ 4 ∧ c2 ≠ 0)) (h1 : Meets Tryd.prog 65 [.int .u64 x] (.agg [.bool false, .int .i64 c1, .int .u64 m1, .int .i64 e1])) (h2 : Meets Tryd.prog 65 [.int .u64 y] (.agg [.bool false, .int .i64 c2, .int .u64 m2, .int .i64 e2]))
    (h3 : Meets Tryd.prog 51 [.int .u64 m1] (.ints .u64 a)) (h4 : Meets Tryd.prog 51 [.int .u64 m2] (.ints .u64 b)) (he : IntKind.wrap .i64 (e1 - e2) = e)
    (h5 : Meets Tryd.prog 39 [.bool false, .ints .u64 a, .ints .u64 b, .int .i64 e] (.tup [.int .u64 R, .int .i64 0])) (h6 : Meets Tryd.prog 70 [.agg [.bool false, .ints .u64 a, .ints .u64 b, .int .i64 e], .int .u64 R] (.int .i64 fl)) :
    Meets Tryd.prog 53 [.int .u64 x, .int .u64 y, .int .u64 z] (.tup [.int .u64 R, .int .i64 fl]) := by
  have d1 : decide (c1 = 3) = false := decide_eq_false hc.1.1
  have d2 : decide (c1 = 4) = false := decide_eq_false hc.1.2.1
  have d3 : decide (c2 = 3) = false := decide_eq_false hc.2.1
  have d4 : decide (c2 = 4) = false := decide_eq_false hc.2.2.1
  have d5 : decide (c1 = 0) = false := decide_eq_false hc.1.2.2
  have d6 : decide (c2 = 0) = false := decide_eq_false hc.2.2.2
  by_cases hz : c1 = c2
  case' pos => have d7 : decide (c1 = c2) = true := decide_eq_true hz
  case' neg => have d7 : decide (c1 = c2) = false := decide_eq_false hz
  all_goals (refine meets_by ttOk Tryd.func53 Tryd.ntmps53 Tryd.results53 (by kernel_rfl) (c := _) rfl rfl rfl fun E => ?_; simp only [argsFrame])
  all_goals
    repeat' first
      | (with_reducible first | refine PW.seq ?_ | refine PW.block ?_ | refine PW.fork ?_ | refine PW.skip ?_ | refine PW.exit ?_ | refine PW.ret ?_ | refine PW.scope ?_ | refine PW.label ?_ | refine PW.goto ?_)
      | (simp only [d1, d2, d3, d4, d5, d6, d7, he])
      | (with_reducible refine PW.region ttOk ?_ ?_
         · rfl)
      | (refine PW.regionA ttOk mixed rfl rfl rfl rfl rfl rfl rfl ?_)
      | (with_reducible refine PW.regionD ttOk mixed ?_ ?_ ?_
         · rfl
         · rfl)
      | (with_reducible refine ifW_dec (fun g => ?_) (fun g => ?_) <;> first | (exfalso; omega) | (simp -dsimp only [g, wkI]))
      | (with_reducible refine condE_dec (fun g => ?_) (fun g => ?_) <;> try (exfalso; omega))
      | (with_reducible refine condE_not (fun g => ?_) (fun g => ?_) <;> try (exfalso; omega))
      | (simp -dsimp only [↓opsA_nil, ↓opsA_cons, same_self, and_true, true_and, ↓wkA, ↓wkE, ↓wkJ, wkB, ↓tt, Nat.reduceBEq, Nat.reduceEqDiff, ↓reduceIte, Nat.reduceLT, Array.toList, Nat.reduceAdd, Nat.reduceMul, Int.reduceToNat, Int.reducePow, UInt8.reduceToNat])
      | (refine call_by (h1) (views_data rfl) ⟨trivial, trivial⟩ rfl ?_)
      | (refine call_by (h2) (views_data rfl) ⟨trivial, trivial⟩ rfl ?_)
      | (refine callD_by (h3) (views_data rfl) ⟨trivial, trivial⟩ rfl ?_)
      | (refine callD_by (h4) (views_data rfl) ⟨trivial, trivial⟩ rfl ?_)
      | (refine call_by (h5) (views_data rfl) ⟨trivial, trivial, trivial, trivial, trivial⟩ rfl ?_)
      | (refine call_by (h6) (views_data rfl) (by simp only [okViews, okView, okViews0, okView0, and_self]) rfl ?_)
      | (simp -dsimp (disch := first | assumption | omega) only [dec_t, dec_f])
      | (refine And.intro ?_ ?_
         · first | omega | decide | (simp (disch := omega) only [wkW, Int.reduceToNat, Int.reducePow] <;> omega) | (simp <;> omega))
      | (simp (disch := omega) only [wkW, Int.reduceToNat, Int.reducePow])
      | fail

theorem div_walk_zero (x y z c2 m1 m2 e1 e2 : Int) (hc : c2 ≠ 3 ∧ c2 ≠ 4 ∧ c2 ≠ 0) (h1 : Meets Tryd.prog 65 [.int .u64 x] (.agg [.bool false, .int .i64 0, .int .u64 m1, .int .i64 e1])) (h2 : Meets Tryd.prog 65 [.int .u64 y] (.agg [.bool false, .int .i64 c2, .int .u64 m2, .int .i64 e2])) :
    Meets Tryd.prog 53 [.int .u64 x, .int .u64 y, .int .u64 z] (.tup [.int .u64 0, .int .i64 0]) := by
  have d3 : decide (c2 = 3) = false := decide_eq_false hc.1
  have d4 : decide (c2 = 4) = false := decide_eq_false hc.2.1
  have d6 : decide (c2 = 0) = false := decide_eq_false hc.2.2
  have d7 : decide (0 = c2) = false := decide_eq_false (fun e => hc.2.2 e.symm)
  have h5 := with_sign_f 0
  refine meets_by ttOk Tryd.func53 Tryd.ntmps53 Tryd.results53 (by kernel_rfl) (c := _) rfl rfl rfl fun E => ?_
  simp only [argsFrame]
  repeat' first
    | (with_reducible first | refine PW.seq ?_ | refine PW.block ?_ | refine PW.fork ?_ | refine PW.skip ?_ | refine PW.exit ?_ | refine PW.ret ?_ | refine PW.scope ?_ | refine PW.label ?_ | refine PW.goto ?_)
    | (simp only [d3, d4, d6, d7])
    | (with_reducible refine PW.region ttOk ?_ ?_
       · rfl)
    | (with_reducible refine PW.regionD ttOk mixed ?_ ?_ ?_
       · rfl
       · rfl)
    | (with_reducible refine ifW_dec (fun g => ?_) (fun g => ?_) <;> first | (exfalso; omega) | (simp -dsimp only [g, wkI]))
    | (with_reducible refine condE_dec (fun g => ?_) (fun g => ?_) <;> try (exfalso; omega))
    | (with_reducible refine condE_not (fun g => ?_) (fun g => ?_) <;> try (exfalso; omega))
    | (simp -dsimp only [↓wkA, ↓wkE, ↓wkJ, wkB, ↓tt, Nat.reduceBEq, Nat.reduceEqDiff, ↓reduceIte, Nat.reduceLT, Array.toList, Nat.reduceAdd, Nat.reduceMul, Int.reduceToNat, Int.reducePow, UInt8.reduceToNat])
    | (refine call_by (h1) (views_data rfl) ⟨trivial, trivial⟩ rfl ?_)
    | (refine call_by (h2) (views_data rfl) ⟨trivial, trivial⟩ rfl ?_)
    | (refine call_by (h5) (views_data rfl) ⟨trivial, trivial, trivial⟩ rfl ?_)
    | (simp -dsimp (disch := first | assumption | omega) only [dec_t, dec_f])
    | (refine And.intro ?_ ?_
       · first | omega | decide | (simp (disch := omega) only [wkW, Int.reduceToNat, Int.reducePow] <;> omega) | (simp <;> omega))
    | (simp (disch := omega) only [wkW, Int.reduceToNat, Int.reducePow])
    | fail

theorem div_outer (x y R fl : Int) (h : Meets Tryd.prog 53 [.int .u64 x, .int .u64 y, .int .u64 0] (.tup [.int .u64 R, .int .i64 fl])) : Meets Tryd.prog 37 [.int .u64 x, .int .u64 y] (.int .u64 R) := by
  refine meets_by ttOk Tryd.func37 Tryd.ntmps37 Tryd.results37 (by kernel_rfl) (c := _) rfl rfl rfl fun E => ?_
  simp only [argsFrame]
  repeat' first
    | (with_reducible first | refine PW.seq ?_ | refine PW.block ?_ | refine PW.fork ?_ | refine PW.skip ?_ | refine PW.exit ?_ | refine PW.ret ?_ | refine PW.scope ?_ | refine PW.label ?_ | refine PW.goto ?_)
    | (with_reducible refine PW.region ttOk ?_ ?_
       · rfl)
    | (with_reducible refine PW.regionD ttOk mixed ?_ ?_ ?_
       · rfl
       · rfl)
    | (with_reducible refine ifW_dec (fun g => ?_) (fun g => ?_) <;> first | (exfalso; omega) | (simp -dsimp only [g, wkI]))
    | (with_reducible refine condE_dec (fun g => ?_) (fun g => ?_) <;> try (exfalso; omega))
    | (with_reducible refine condE_not (fun g => ?_) (fun g => ?_) <;> try (exfalso; omega))
    | (simp -dsimp only [↓wkA, ↓wkE, ↓wkJ, wkB, ↓tt, Nat.reduceBEq, Nat.reduceEqDiff, ↓reduceIte, Nat.reduceLT, Array.toList, Nat.reduceAdd, Nat.reduceMul, Int.reduceToNat, Int.reducePow, UInt8.reduceToNat])
    | (refine call_by (h) (views_data rfl) ⟨trivial, trivial, trivial, trivial⟩ rfl ?_)
    | (simp -dsimp (disch := first | assumption | omega) only [dec_t, dec_f])
    | (refine And.intro ?_ ?_
       · first | omega | decide | (simp (disch := omega) only [wkW, Int.reduceToNat, Int.reducePow] <;> omega) | (simp <;> omega))
    | (simp (disch := omega) only [wkW, Int.reduceToNat, Int.reducePow])
    | fail

theorem soft_div {x y : Nat} (hx : x < 9223372036854775808) (hy : y < 9223372036854775808) (hfx : finD x) (hfy : finD y) (hy0 : y ≠ 0) : Meets Tryd.prog 37 [.int .u64 (x : Int), .int .u64 (y : Int)] (.int .u64 (rndU (dv x * 2 ^ 1074) (dv y) : Int)) := by
  obtain ⟨hcx, hpx⟩ := fin_parts hfx
  obtain ⟨hcy, hpy⟩ := fin_parts hfy
  have hdx := ieee_decode x (by omega)
  have hdy := ieee_decode y (by omega)
  unfold partsP at hdx hdy
  rw [negD_f hx] at hdx
  rw [negD_f hy] at hdy
  have hmx : mantD x < 2 ^ 53 := mantD_lt x
  have hmy : mantD y < 2 ^ 53 := mantD_lt y
  have hex := expD_ge x
  have hex2 := expD_le hfx
  have hey := expD_ge y
  have hey2 := expD_le hfy
  have hvx := dv_parts x
  have hvy := dv_parts y
  rw [absD_f hx] at hvx hpx
  rw [absD_f hy] at hvy hpy
  have hdvy : 0 < dv y := dv_lt (show 0 < y by omega)
  have h64 : ∀ {m : Nat}, m < 2 ^ 53 → m < 18446744073709551616 := fun h => Nat.lt_trans h (by decide)
  obtain ⟨_, hcy0, hy1, hy2⟩ := hpy.resolve_left (fun h => hy0 h.1)
  have hmy0 : mantD y ≠ 0 := fun e => hy0 (by have := mantD_zero.1 e; rwa [absD_f hy] at this)
  rw [hy1, hy2] at hdy
  by_cases hz : x = 0
  · subst hz
    rw [dv_zero, Nat.zero_mul, rndU_zero hdvy]
    obtain ⟨_, hc0, _, _⟩ := hpx.resolve_right (fun h => h.1 rfl)
    rw [hc0] at hdx
    exact div_outer _ _ _ _ (div_walk_zero _ _ _ _ _ _ _ _ ⟨hcy.1, hcy.2, hcy0⟩ hdx hdy)
  · obtain ⟨_, hcx0, hx1, hx2⟩ := hpx.resolve_left (fun h => hz h.1)
    rw [hx1, hx2] at hdx
    have hfux := from_uint (mantD x) (h64 hmx)
    have hfuy := from_uint (mantD y) (h64 hmy)
    have hr := round_ratio (u := mantD x) (v := mantD y) (nmax_of hmx (by decide)) (nmax_of hmy (by decide)) hmy0 false (expD x - expD y) ⟨by omega, by omega⟩
    have hR : rrat (mantD x) (mantD y) (expD x - expD y) = rndU (dv x * 2 ^ 1074) (dv y) := by
      unfold rrat
      refine rndU_congr (Nat.mul_pos (Nat.pos_of_ne_zero hmy0) (Nat.two_pow_pos _)) hdvy ?_
      rw [hvx, hvy]
      have e : 2 ^ (expD x - expD y + 1074).toNat * 2 ^ (expD y + 1074).toNat = 2 ^ (expD x + 1074).toNat * 2 ^ 1074 * 2 ^ (-(expD x - expD y + 1074)).toNat := by
        rw [← Nat.pow_add, ← Nat.pow_add, ← Nat.pow_add]
        congr 1
        omega
      have e2 : ∀ a b p q : Nat, a * p * (b * q) = a * b * (p * q) := fun a b p q => by ac_rfl
      rw [e2, e]
      ac_rfl
    rw [signed_f, hR] at hr
    obtain ⟨fl, hfl⟩ := soft_flags false (a := mantD x) (b := mantD y) (Nat.lt_trans hmx (Nat.pow_lt_pow_right (by decide) (by decide))) (Nat.lt_trans hmy (Nat.pow_lt_pow_right (by decide) (by decide))) (expD x - expD y) ⟨by omega, by omega⟩ (rndU (dv x * 2 ^ 1074) (dv y)) (by have : rndU (dv x * 2 ^ 1074) (dv y) ≤ infB := rndU_le; unfold infB at this; omega)
    exact div_outer _ _ _ _ (div_walk _ _ _ _ _ _ _ _ _ _ _ _ _ _ ⟨⟨hcx.1, hcx.2, hcx0⟩, ⟨hcy.1, hcy.2, hcy0⟩⟩ hdx hdy hfux hfuy (wrap_i64 (by omega)) hr hfl)
end Go.Proofs.YtbmhnjghpjkjpaaDoor

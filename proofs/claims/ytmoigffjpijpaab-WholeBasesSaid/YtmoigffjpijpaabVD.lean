/- Pure values, a small program logic over the model: parts 35 to 36 in one text. -/
import Derived.Test.YtmoigffjpijpaabVC
import Derived.SizedLaws
/- Pure values, part 35: arguments of nested types, as they lie in memory, and their pure values. -/
set_option linter.unusedVariables false
set_option linter.unusedSimpArgs false
namespace Go.PV
open Go Go.RowKit Go.ChangeShapes Go.WideShapes

/-- What lies in a cell. -/
inductive Shape where
  | int (k : IntKind)
  | bool
  | str
  | ints (k : IntKind) (B : Nat)
  | rows (st : Bool) (B : Nat) (ss : List Shape)

def elemPV (st : Bool) (ps : List PV) : PV := bif st then .agg ps else ps.getD 0 .undef

inductive Fits : Shape → PV → Prop
  | int (k : IntKind) (n : Int) (h : (Lit.int k n).wf = true) : Fits (.int k) (.int k n)
  | bool (b : Bool) : Fits .bool (.bool b)
  | str (l : List Int) (h : l.length ≤ 140737488351232) (hb : ∀ c ∈ l, 0 ≤ c ∧ c < 256) : Fits .str (.str l)
  | ints (k : IntKind) (B : Nat) (l : List Int) (h : l.length * B ≤ 140737488351232) (hw : ∀ n ∈ l, (Lit.int k n).wf = true) : Fits (.ints k B) (.ints k l)
  | rows (st : Bool) (B : Nat) (ss : List Shape) (l : List (List PV)) (h : l.length * B ≤ 140737488351232) (hl : ∀ ps ∈ l, ps.length = ss.length)
      (hf : ∀ ps ∈ l, ∀ j, j < ss.length → Fits (ss.getD j .bool) (ps.getD j .undef)) : Fits (.rows st B ss) (.list ss.length (l.map (elemPV st)))

inductive Typed (P : Program) : TypeId → List Shape → Prop
  | int {t : TypeId} {k : IntKind} (h : P.underlying t = some (.int k)) : Typed P t [.int k]
  | bool {t : TypeId} (h : P.underlying t = some .bool) : Typed P t [.bool]
  | str {t : TypeId} (h : P.underlying t = some .string) : Typed P t [.str]
  | ints {t e : TypeId} {k : IntKind} {B : Nat} (h : P.underlying t = some (.slice e)) (he : P.underlying e = some (.int k)) (hc : P.cellsOf e = 1) (hB : P.bytesOf e = B) : Typed P t [.ints k B]
  | rows {t e : TypeId} {ss : List Shape} {B : Nat} (st : Bool) (h : P.underlying t = some (.slice e)) (he : Typed P e ss) (hc : P.cellsOf e = ss.length) (hB : P.bytesOf e = B) (h0 : 0 < ss.length) (hst : st = false → ss.length = 1) : Typed P t [.rows st B ss]
  | struct {t : TypeId} {fs : Array Field} (parts : List (List Shape)) (h : P.underlying t = some (.struct fs)) (hl : parts.length = fs.size) (ht : P.cellsOf t = parts.flatten.length)
      (hp : ∀ (i : Nat) (f : Field), fs[i]? = some f → Typed P f.type (parts.getD i []))
      (ho : ∀ (i : Nat) (f : Field), fs[i]? = some f → f.offset = (parts.take i).flatten.length ∧ P.cellsOf f.type = (parts.getD i []).length) : Typed P t parts.flatten

theorem choose_list {α : Type} {Q : Nat → α → Prop} (d : α) : ∀ n, (∀ i, i < n → ∃ a, Q i a) → ∃ l : List α, l.length = n ∧ ∀ i, i < n → Q i (l.getD i d)
  | 0, _ => ⟨[], rfl, fun i hi => absurd hi (Nat.not_lt_zero i)⟩
  | n + 1, h => by
    obtain ⟨l, hl, hq⟩ := choose_list d n fun i hi => h i (by omega)
    obtain ⟨a, ha⟩ := h n (by omega)
    refine ⟨l ++ [a], by simp [hl], fun i hi => ?_⟩
    by_cases hin : i < n
    · have e : (l ++ [a]).getD i d = l.getD i d := by
        rw [List.getD_eq_getElem?_getD, List.getD_eq_getElem?_getD, List.getElem?_append_left (by omega)]
      rw [e]; exact hq i hin
    · have : i = n := by omega
      subst this
      have e : (l ++ [a]).getD i d = a := by
        rw [List.getD_eq_getElem?_getD, List.getElem?_append_right (by omega), hl]; simp
      rw [e]; exact ha

theorem flat_get {α β : Type} (da : α) (db : β) : ∀ (parts : List (List α)) (pss : List (List β)), pss.length = parts.length → (∀ i, i < parts.length → (pss.getD i []).length = (parts.getD i []).length) →
    pss.flatten.length = parts.flatten.length ∧ ∀ j, j < parts.flatten.length → ∃ i m, i < parts.length ∧ m < (parts.getD i []).length ∧ j = (parts.take i).flatten.length + m ∧ parts.flatten.getD j da = (parts.getD i []).getD m da ∧ pss.flatten.getD j db = (pss.getD i []).getD m db
  | [], [], _, _ => ⟨rfl, fun j hj => by simp at hj⟩
  | [], _ :: _, h, _ => by simp at h
  | _ :: _, [], h, _ => by simp at h
  | a :: parts, p :: pss, hl, h => by
    obtain ⟨h1, h2⟩ := flat_get da db parts pss (by simpa using hl) fun i hi => by simpa using h (i + 1) (by simpa using hi)
    have h0 : p.length = a.length := by simpa using h 0 (by simp)
    refine ⟨by simp only [List.flatten_cons, List.length_append]; omega, fun j hj => ?_⟩
    simp only [List.flatten_cons, List.length_append] at hj
    by_cases hja : j < a.length
    · refine ⟨0, j, by simp, by simpa using hja, by simp, ?_, ?_⟩
      · simp only [List.flatten_cons, List.getD_eq_getElem?_getD, List.getElem?_append_left hja]; rfl
      · simp only [List.flatten_cons, List.getD_eq_getElem?_getD, List.getElem?_append_left (show j < p.length by omega)]; rfl
    · obtain ⟨i, m, hi, hm, e, e1, e2⟩ := h2 (j - a.length) (by omega)
      refine ⟨i + 1, m, by simpa using hi, by simpa using hm, ?_, ?_, ?_⟩
      · simp only [List.take_succ_cons, List.flatten_cons, List.length_append]; omega
      · rw [List.getD_cons_succ, ← e1]
        simp only [List.flatten_cons, List.getD_eq_getElem?_getD, List.getElem?_append_right (show a.length ≤ j by omega)]
      · rw [List.getD_cons_succ, ← e2]
        simp only [List.flatten_cons, List.getD_eq_getElem?_getD, List.getElem?_append_right (show p.length ≤ j by omega), h0]

theorem weights_all {H : Type} {P : Program} {e : TypeId} : ∀ {l : List (DataW H)} {d : DataW H}, d ∈ l → ∀ n ∈ d.weights P e, n ∈ DataW.weightsAll P e l
  | x :: l, d, hd, n, hn => by
    simp only [DataW.weightsAll, List.mem_append]
    rcases List.mem_cons.1 hd with rfl | hd
    · exact .inl hn
    · exact .inr (weights_all hd n hn)


section
variable {H : Type} {enc : TypeId × Value → H} {P : Program} {w : World} {held : Bool}

theorem fits_cells {st : Bool} {ss : List Shape} {ps : List PV} (hst : st = false → ss.length = 1) (hl : ps.length = ss.length) (hf : ∀ j, j < ss.length → Fits (ss.getD j .bool) (ps.getD j .undef)) : cellsOf (elemPV st ps) = ps := by
  cases st with
  | true => rfl
  | false =>
    have h1 := hst rfl
    have hf0 := hf 0 (by omega)
    match ps, hl with
    | [p], _ =>
      simp only [elemPV, cond_false, List.getD_cons_zero] at hf0 ⊢
      generalize ss.getD 0 Shape.bool = s at hf0
      cases hf0 <;> rfl
    | [], hl => simp at hl; omega
    | _ :: _ :: _, hl => simp at hl; omega

theorem opened {t : TypeId} {ss : List Shape} (h : Typed P t ss) : ∀ {fuel : Nat} {cs : List Value} {x : DataW H × List MemPlace}, DataW.trod enc P w 0 (fun _ => true) held fuel t cs = some x → (∀ n ∈ x.1.weights P t, n ≤ reachBytes) →
    ∃ ps : List PV, ps.length = ss.length ∧ cs.length = ss.length ∧ (∀ j, j < ss.length → Fits (ss.getD j .bool) (ps.getD j .undef)) ∧ ∀ j, j < ss.length → (cs.getD j undef).oneCell' = true ∧ RD w (fun _ => False) (ps.getD j .undef) (cs.getD j undef) := by
  have one : ∀ {s : Shape} {p : PV} {v : Value}, Fits s p → v.oneCell' = true → RD w (fun _ => False) p v → ∃ ps : List PV, ps.length = [s].length ∧ [v].length = [s].length ∧ (∀ j, j < [s].length → Fits ([s].getD j .bool) (ps.getD j .undef)) ∧ ∀ j, j < [s].length → (([v] : List Value).getD j undef).oneCell' = true ∧ RD w (fun _ => False) (ps.getD j .undef) (([v] : List Value).getD j undef) := fun {s p v} h1 h2 h3 => ⟨[p], rfl, rfl, fun j hj => by
      have : j = 0 := by simpa using hj
      subst this; exact h1, fun j hj => by
      have : j = 0 := by simpa using hj
      subst this; exact ⟨h2, h3⟩⟩
  induction h with
  | int h =>
    intro fuel cs x hx hn
    obtain ⟨n, rfl, rfl, hw⟩ := DataW.trod_int h hx
    exact one (.int _ _ hw) rfl (.int _ _)
  | bool h =>
    intro fuel cs x hx hn
    obtain ⟨b, rfl, rfl⟩ := DataW.trod_bool h hx
    exact one (.bool _) rfl (.bool _)
  | str h =>
    intro fuel cs x hx hn
    obtain ⟨s, rfl, rfl, _⟩ := DataW.trod_string h hx
    have h1 := hn s.data.toList.length (by simp [DataW.weights])
    refine one (.str (bytesI s) (by rw [bytesI_length]; simpa [reachBytes] using h1) (bytesI_bytes s)) rfl (.str _ _ rfl)
  | @ints t e k B h he hc hB =>
    intro fuel cs x hx hn
    rcases open_ints h he hc hx with ⟨rfl, rfl⟩ | ⟨a, len, cap, zs, rfl, _, hl, hm, hz, rfl, hcell, hw⟩
    · exact one (.ints k B [] (by simp) (by simp)) rfl (.intsNil k)
    · have hz' : zs.length = cap := by simpa using hz
      obtain ⟨hrd, hlen, hw'⟩ := IsRow.rd (.inr ⟨a, rfl, hl, hm, hz', hcell, hw⟩)
      have h1 := hn ((lits (H := H) k (zs.take len)).length * B + (lits (H := H) k (zs.drop len)).length * B) (by simp [DataW.weights, h, hB, Nat.add_mul])
      refine one (.ints k B _ ?_ hw') rfl hrd
      simp only [lits, List.length_map, reachBytes] at h1
      omega
  | @rows t e ss B st h he hc hB h0 hst ih =>
    intro fuel cs x hx hn
    rcases DataW.trod_slice h hx with ⟨rfl, rfl⟩ | ⟨a, len, cap, elems, rest, n, _, rfl, rfl, _, hl, hm, hlen, hel, _, _⟩
    · have := one (s := .rows st B ss) (p := .list ss.length (([] : List (List PV)).map (elemPV st))) (v := .slice none 0 0) (.rows st B ss [] (by simp) (by simp) (by simp)) rfl (.listNil _)
      exact this
    · have hwall : ∀ y ∈ elems, ∀ m ∈ y.1.weights P e, m ≤ reachBytes := fun y hy m hm => hn m (by
        simp only [DataW.weights, h, List.mem_cons, List.mem_append]
        exact .inr (.inl (weights_all (List.mem_map_of_mem hy) m hm)))
      have each : ∀ i, i < len → ∃ pv : List PV × List Value, pv.1.length = ss.length ∧ (∀ j, j < ss.length → Fits (ss.getD j .bool) (pv.1.getD j .undef)) ∧ ∀ j, j < ss.length → w.cell? (a.add (i * ss.length) |>.add j) = some (pv.2.getD j undef) ∧ (pv.2.getD j undef).oneCell' = true ∧ RD w (fun _ => False) (pv.1.getD j .undef) (pv.2.getD j undef) := by
        intro i hi
        have hi' : i < elems.length := by omega
        have h1 := hel i hi
        rw [List.getElem?_eq_getElem hi'] at h1
        obtain ⟨cs, hcs, ht⟩ := Option.bind_eq_some_iff.1 h1
        obtain ⟨ps, hp1, hp2, hp3, hp4⟩ := ih ht (hwall _ (List.getElem_mem hi'))
        obtain ⟨_, _, hc3⟩ := World.cells?_some hcs
        rw [hc] at hc3
        refine ⟨(ps, cs), hp1, hp3, fun j hj => ⟨?_, hp4 j hj⟩⟩
        rw [hc3 j hj, List.getD_eq_getElem?_getD, List.getElem?_eq_getElem (by omega)]
        rfl
      obtain ⟨l, hll, hlq⟩ := choose_list ([], []) len each
      have hsize : len * B ≤ 140737488351232 := by
        have h1 := hn ((elems.length + rest.length) * B) (by simp [DataW.weights, h, hB])
        rw [Nat.add_mul, hlen] at h1
        simp only [reachBytes] at h1
        omega
      have hin : ∀ ps ∈ l.map (·.1), ps.length = ss.length ∧ ∀ j, j < ss.length → Fits (ss.getD j .bool) (ps.getD j .undef) := by
        intro ps hps
        obtain ⟨pv, hpv, rfl⟩ := List.mem_map.1 hps
        obtain ⟨i, hi, rfl⟩ := List.getElem_of_mem hpv
        have := hlq i (by omega)
        rw [List.getD_eq_getElem?_getD, List.getElem?_eq_getElem hi] at this
        exact ⟨this.1, this.2.1⟩
      refine one (.rows st B ss (l.map (·.1)) (by simp only [List.length_map]; rw [hll]; exact hsize) (fun ps h => (hin ps h).1) (fun ps h => (hin ps h).2)) rfl ?_
      cases len with
      | zero =>
        have : l = [] := List.length_eq_zero_iff.1 hll
        subst this
        exact .listE _ a cap
      | succ m =>
        obtain ⟨b, o, spot⟩ := a
        have hs : spot = none := by
          have h1 := ((hlq 0 (by omega)).2.2 0 h0).1
          cases spot with
          | none => rfl
          | some s =>
            simp only [World.cell?, Addr.add] at h1
            split at h1
            · simp at h1
            · cases h1
        subst hs
        have hadd : ∀ i j : Nat, ((⟨b, o, none⟩ : Addr).add i).add j = ⟨b, o + (i + j), none⟩ := by
          intro i j
          unfold Addr.add
          by_cases hi0 : i = 0 <;> by_cases hj0 : j = 0 <;> simp [hi0, hj0, Nat.add_assoc]
        have hgl : ∀ i, i < (l.map (·.1)).length → ((l.map (·.1)).map (elemPV st)).getD i .undef = elemPV st ((l.getD i ([], [])).1) := by
          intro i hi
          have hi' : i < l.length := by simpa using hi
          simp [List.getD_eq_getElem?_getD, hi']
        have hcl : ∀ i, i < m + 1 → cellsOf (((l.map (·.1)).map (elemPV st)).getD i .undef) = (l.getD i ([], [])).1 := by
          intro i hi
          rw [hgl i (by simp; omega)]
          exact fits_cells hst (hlq i hi).1 (hlq i hi).2.1
        refine .list ss.length _ (m + 1) b o cap (fun i j => (l.getD i ([], [])).2.getD j undef) (by simp [hll]) hl (fun h => h) h0 ?_ ?_ ?_ ?_
        · intro i hi
          have hi' : i < m + 1 := by simpa [hll] using hi
          rw [hcl i hi']
          exact (hlq i hi').1
        · intro i j hi hj
          have hi' : i < m + 1 := by simpa [hll] using hi
          have := ((hlq i hi').2.2 j hj).1
          rw [hadd] at this
          exact this
        · intro i j hi hj
          have hi' : i < m + 1 := by simpa [hll] using hi
          exact ((hlq i hi').2.2 j hj).2.1
        · intro i j hi hj
          have hi' : i < m + 1 := by simpa [hll] using hi
          rw [hcl i hi']
          exact ((hlq i hi').2.2 j hj).2.2
  | @struct t fs parts h hl ht hp ho ih =>
    intro fuel cs x hx hn
    obtain ⟨xs, n, _, rfl, hcl, hxl, hxs⟩ := DataW.trod_struct h hx
    rw [ht] at hcl
    have each : ∀ i, i < fs.size → ∃ ps : List PV, ps.length = (parts.getD i []).length ∧ (∀ j, j < (parts.getD i []).length → Fits ((parts.getD i []).getD j .bool) (ps.getD j .undef)) ∧ ∀ j, j < (parts.getD i []).length → (cs.getD ((parts.take i).flatten.length + j) undef).oneCell' = true ∧ RD w (fun _ => False) (ps.getD j .undef) (cs.getD ((parts.take i).flatten.length + j) undef) := by
      intro i hi
      have hfi : fs[i]? = some fs[i] := by simp [hi]
      have hxi : i < xs.length := by omega
      have h1 := hxs i _ hfi
      rw [List.getElem?_eq_getElem hxi] at h1
      obtain ⟨ps, hp1, hp2, hp3, hp4⟩ := ih i _ hfi h1 fun m hm => hn m (by
        simp only [DataW.weights, h]
        refine DataW.weights_mem_each (j := i) (t := fs[i].type) (d := xs[i].1) ?_ ?_ m hm
        · simp [hi]
        · simp [hxi])
      obtain ⟨hof, hce⟩ := ho i _ hfi
      refine ⟨ps, hp1, hp3, fun j hj => ?_⟩
      have e : ((cs.drop fs[i].offset).take (P.cellsOf fs[i].type)).getD j undef = cs.getD ((parts.take i).flatten.length + j) undef := by
        rw [hof, hce]
        generalize (parts.getD i []).length = k at hj
        simp only [List.getD_eq_getElem?_getD]
        rw [List.getElem?_take_of_lt hj, List.getElem?_drop]
      rw [← e]
      exact hp4 j hj
    obtain ⟨pss, hpl, hpq⟩ := choose_list [] fs.size each
    obtain ⟨hfl, hfj⟩ := flat_get Shape.bool PV.undef parts pss (by omega) fun i hi => (hpq i (by omega)).1
    refine ⟨pss.flatten, hfl, hcl, fun j hj => ?_, fun j hj => ?_⟩
    · obtain ⟨i, m, hi, hm, _, e1, e2⟩ := hfj j hj
      rw [e1, e2]
      exact (hpq i (by omega)).2.1 m hm
    · obtain ⟨i, m, hi, hm, e0, e1, e2⟩ := hfj j hj
      rw [e2, e0]
      exact (hpq i (by omega)).2.2 m hm

/-- An argument of one cell. -/
theorem opened1 {t : TypeId} {s : Shape} (h : Typed P t [s]) {v : Value} {d : DataW H} {pl : List MemPlace} (hv : v.cells.toList = [v]) (hd : DataW.Trod enc P w 0 (fun _ => true) held t v d pl) (hn : ∀ n ∈ d.weights P t, n ≤ reachBytes) : ∃ p, Fits s p ∧ RD w (fun _ => False) p v := by
  obtain ⟨fuel, hf⟩ := hd
  rw [hv] at hf
  obtain ⟨ps, _, _, h1, h2⟩ := opened h hf hn
  exact ⟨ps.getD 0 .undef, h1 0 (by simp), (h2 0 (by simp)).2⟩

theorem fits_list {α : Type} {st : Bool} {B : Nat} {ss : List Shape} {p : PV} (h : Fits (.rows st B ss) p) (f : α → PV) (ok : α → Prop)
    (hp : ∀ ps : List PV, ps.length = ss.length → (∀ j, j < ss.length → Fits (ss.getD j .bool) (ps.getD j .undef)) → ∃ a, elemPV st ps = f a ∧ ok a) : ∃ as : List α, p = .list ss.length (as.map f) ∧ (∀ a ∈ as, ok a) ∧ as.length * B ≤ 140737488351232 := by
  cases h with
  | rows _ _ _ l hB hl hf =>
    have key : ∀ l : List (List PV), (∀ ps ∈ l, ps.length = ss.length) → (∀ ps ∈ l, ∀ j, j < ss.length → Fits (ss.getD j .bool) (ps.getD j .undef)) → ∃ as : List α, l.map (elemPV st) = as.map f ∧ as.length = l.length ∧ ∀ a ∈ as, ok a := by
      intro l
      induction l with
      | nil => exact fun _ _ => ⟨[], rfl, rfl, by simp⟩
      | cons ps l ih =>
        intro hl hf
        obtain ⟨as, e, el, ho⟩ := ih (fun q hq => hl q (by simp [hq])) (fun q hq => hf q (by simp [hq]))
        obtain ⟨a, ea, ha⟩ := hp ps (hl ps (by simp)) (hf ps (by simp))
        refine ⟨a :: as, by rw [List.map_cons, List.map_cons, e, ea], by simp [el], fun b hb => ?_⟩
        rcases List.mem_cons.1 hb with rfl | hb
        · exact ha
        · exact ho b hb
    obtain ⟨as, e, el, ho⟩ := key l hl hf
    exact ⟨as, by rw [e], ho, by rw [el]; exact hB⟩

theorem wf_u8 {n : Int} (h : (Lit.int .u8 n).wf = true) : 0 ≤ n ∧ n < 256 := by
  simp only [Lit.wf, Bool.and_eq_true, decide_eq_true_eq, IntKind.min, IntKind.max, IntKind.signed, IntKind.bits] at h
  simp at h
  omega

theorem weighs {ts : List TypeId} {ds : List (DataW H)} (h : (DataW.weightsEach P ts ds).all (· ≤ reachBytes) = true) {j : Nat} {t : TypeId} {d : DataW H} (ht : ts[j]? = some t) (hd : ds[j]? = some d) : ∀ n ∈ d.weights P t, n ≤ reachBytes := fun n hn => by
  have := List.all_eq_true.1 h n (DataW.weights_mem_each ht hd n hn)
  simpa using this
end
end Go.PV
/- Pure values, part 36: a contract over one row, out of the same over a heap of that row alone. -/
set_option linter.unusedVariables false
set_option linter.unusedSimpArgs false
namespace Go.PV
open Go Go.RowKit
section
variable {P : Program}

theorem rowAt_ints {w : World} {ow ow' : Nat → Prop} {loc loc' : Locs} {L : Option RowLoc} {k : IntKind} {l : List Int} (h : RowAt w ow loc L (.ints k l)) : RowAt w ow' loc' L (.ints k l) := by
  cases L with
  | none => exact h
  | some L => exact h

/-- The row number, turned. -/
theorem rv_slice_turn {w w' : World} {ow ow' : Nat → Prop} {loc loc' : Locs} {r r' off len : Nat} {full : Bool} {v : Value} {L : Option RowLoc} (h : RV w ow loc (.sl r off len full) v) (hl : loc r = some L) (hl' : loc' r' = some L) : RV w' ow' loc' (.sl r' off len full) v := by
  cases h with
  | data _ _ h => cases h
  | dang _ _ _ _ a n c h => rw [hl] at h; cases h
  | slnil _ _ h =>
    rw [hl] at h; injection h with h; subst h
    exact .slnil r' full hl'
  | sl _ _ _ _ M a c h hlc hc hf ha =>
    rw [hl] at h; injection h with h; subst h
    exact .sl r' off len full M a c hl' hlc hc hf ha

/-- **A contract over one row of numbers that the function takes over and hands back:** the caller's own slices of it are void. -/
theorem row_call {f : FuncId} {k : IntKind} {l : List Int} {off n : Nat} {full : Bool} {rest : List PV} {Q : List Int → Prop} {nx r : Nat} {rows : List (Nat × Row)} {g : List Frame} {ty : List (Nat × TypeId)}
    (hloc : HMeets P f (.sl 0 off n full :: rest) ⟨1, [(0, .ints k l)], [], []⟩ fun res H' => ∃ l', Q l' ∧ res = .sl 0 0 l'.length true ∧ H'.get 0 = some (.ints k l'))
    (hrest : rest.all dataB = true) (hr : getRow rows r = some (.ints k l)) (hrn0 : Nat.blt r nx = true) :
    HMeets P f (.sl r off n full :: rest) ⟨nx, rows, g, ty⟩ fun res H' => ∃ l', Q l' ∧ res = .sl r 0 l'.length true ∧ H' = (⟨nx, rows, g, ty⟩ : Heap).move r (.ints k l') := by
  have hrn : r < nx := by simpa [Nat.blt_eq] using hrn0
  refine ⟨fun E ow loc w vs hs hl ha => ?_⟩
  obtain ⟨Lo, hLo, hat⟩ := hs.rows r (.ints k l) hr
  let S1 : Nat → Prop := fun b => ∃ L, Lo = some L ∧ L.b = b
  let E1 : Entry := ⟨w, S1, fun b => ow b ∧ ¬ S1 b, fun _ _ => undef⟩
  let loc1 : Locs := fun i => if i = 0 then some Lo else none
  have hlive : ∀ L, Lo = some L → ow L.b ∧ L.b < w.heap.size := fun L e => ⟨(hs.live r L (by rw [hLo, e])).1, (hs.live r L (by rw [hLo, e])).2.1⟩
  have h1some : ∀ i L, loc1 i = some L → i = 0 ∧ Lo = L := fun i L h => by
    simp only [loc1] at h
    split at h
    · rename_i e; injection h with h; exact ⟨e, h⟩
    · cases h
  have hs1 : HS E1 ⟨1, [(0, .ints k l)], [], []⟩ ow loc1 w := by
    refine ⟨fun i row h => ?_, fun i L h => ?_, fun i j L L' h1 h2 _ => ?_, fun _ _ _ => rfl, Nat.le_refl _, rfl, rfl, rfl, fun i hi => ?_, hs.owlt, fun b h => h.1, fun b h => hs.owlt b h.1, fun i L h hA => ?_, fun i l h => ?_, fun i t => ⟨?_, ?_⟩, fun i t h => by cases h⟩
    · simp only [Heap.get, getRow] at h
      cases hk : 0 == i with
      | true =>
        have : i = 0 := by simpa using (beq_iff_eq.1 hk).symm
        subst this
        rw [hk] at h
        injection h with h
        subst h
        exact ⟨Lo, by simp [loc1], rowAt_ints hat⟩
      | false => rw [hk] at h; cases h
    · obtain ⟨rfl, e⟩ := h1some i _ h
      exact ⟨(hlive L e).1, (hlive L e).2, .inr ⟨L, e, rfl⟩⟩
    · rw [(h1some i _ h1).1, (h1some j _ h2).1]
    · simp only [loc1]
      rw [if_neg]
      have : 1 ≤ i := hi
      omega
    · obtain ⟨rfl, e⟩ := h1some i _ h
      exact hA.2 ⟨L, e, rfl⟩
    · simp only [Heap.get, getRow] at h
      cases hk : 0 == i <;> rw [hk] at h <;> cases h
    · simp only [List.getD_nil, Frame.get]; exact .data _ _ (.undef _)
    · simp only [List.getD_nil, Frame.get]; exact .undef
  have hl0 : (PV.sl 0 off n full :: rest).length = vs.size := by simpa using hl
  have hargs : ∀ i, i < (PV.sl 0 off n full :: rest).length → RV w ow loc1 ((PV.sl 0 off n full :: rest).getD i .undef) (vs.getD i undef) ∧ Refs 1 ((PV.sl 0 off n full :: rest).getD i .undef) := by
    intro i hi
    have h := ha i (by simpa using hi)
    cases i with
    | zero =>
      simp only [List.getD_cons_zero] at h ⊢
      exact ⟨rv_slice_turn h.1 hLo (by simp [loc1]), .sl _ _ _ _ (by omega)⟩
    | succ i =>
      simp only [List.getD_cons_succ] at h ⊢
      have hi' : i < rest.length := by simpa using hi
      have hd : dataB (rest.getD i .undef) = true := by
        have := List.all_eq_true.1 hrest rest[i] (List.getElem_mem hi')
        rw [List.getD_eq_getElem?_getD, List.getElem?_eq_getElem hi']; exact this
      have hrd := rd_of h.1 hd
      exact ⟨.data _ _ hrd, rd_refs hrd⟩
  have fin : ∀ v w', (∃ res H' ow' loc', (∃ l', Q l' ∧ res = PV.sl 0 0 l'.length true ∧ H'.get 0 = some (.ints k l')) ∧ HS E1 H' ow' loc' w' ∧ RV w' ow' loc' res v ∧ Refs H'.nx res) →
      ∃ res H' ow' loc', (∃ l', Q l' ∧ res = PV.sl r 0 l'.length true ∧ H' = (⟨nx, rows, g, ty⟩ : Heap).move r (.ints k l')) ∧ HS E H' ow' loc' w' ∧ RV w' ow' loc' res v ∧ Refs H'.nx res := by
    rintro v w' ⟨_, H', ow1, loc2, ⟨l', hq, rfl, hg⟩, hs2, hv, _⟩
    obtain ⟨L2, hL2, hat2⟩ := hs2.rows 0 _ hg
    have hlive2 : ∀ M, L2 = some M → M.b < w'.heap.size ∧ (w.heap.size ≤ M.b ∨ S1 M.b) := fun M e => by
      have := hs2.live 0 M (by rw [hL2, e])
      exact ⟨this.2.1, this.2.2⟩
    have hsz : w.heap.size ≤ w'.heap.size := hs2.size
    obtain ⟨b, hc, hbo⟩ : ∃ b, Chg w w' b ∧ ((∃ L, Lo = some L ∧ b = L.b) ∨ w.heap.size ≤ b) := by
      cases hLo' : Lo with
      | none => exact ⟨w'.heap.size, ⟨hs2.os, hs2.tape, hs2.output, hsz, fun j hj _ => hs2.old j hj (by rintro ⟨L, e, _⟩; rw [hLo'] at e; cases e)⟩, .inr hsz⟩
      | some L => exact ⟨L.b, ⟨hs2.os, hs2.tape, hs2.output, hsz, fun j hj hne => hs2.old j hj (by rintro ⟨M, e, hb⟩; rw [hLo'] at e; injection e with e; subst e; exact hne hb.symm)⟩, .inl ⟨L, rfl, rfl⟩⟩
    obtain ⟨hmv, _⟩ := hs.move (r := r) (Lo := Lo) (L' := L2) (row := .ints k l') (b := b) (w' := w') (ow' := fun b => ow b ∨ ∃ M, L2 = some M ∧ M.b = b) hLo hc hbo (fun _ h => .inl h)
      (fun b hb h => by
        rcases h with h | ⟨M, e, rfl⟩
        · exact h
        · rcases (hlive2 M e).2 with h1 | ⟨L, e1, e2⟩
          · omega
          · rw [← e2]; exact (hlive L e1).1)
      (fun M e => ⟨.inr ⟨M, e, rfl⟩, (hlive2 M e).1, by
        rcases (hlive2 M e).2 with h1 | ⟨L, e1, e2⟩
        · exact .inr h1
        · exact .inl ⟨L, e1, e2.symm⟩⟩)
      (fun b h => by
        rcases h with h | ⟨M, e, rfl⟩
        · have := hs.owlt b h; omega
        · exact (hlive2 M e).1)
      (rowAt_ints hat2) (fun l h => by cases h)
    exact ⟨_, _, _, _, ⟨l', hq, rfl, rfl⟩, hmv, rv_slice_turn hv hL2 (by simp [locSet]), .sl _ _ _ _ hrn⟩
  rcases hloc.run E1 ow loc1 w vs hs1 hl0 hargs with ⟨h1, h2⟩ | ⟨v, w', h1, h2⟩
  · exact .inl ⟨h1, h2.mono fun e w' ⟨v, he, hr⟩ => ⟨v, he, fin v w' hr⟩⟩
  · exact .inr ⟨v, w', h1, fin v w' h2⟩
end
end Go.PV

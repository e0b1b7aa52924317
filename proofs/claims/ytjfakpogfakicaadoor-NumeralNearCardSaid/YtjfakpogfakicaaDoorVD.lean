/- Pure values, a small program logic over the model: parts 35 to 37 in one text. -/
import Derived.Test.YtjfakpogfakicaaDoorVC
import Derived.SizedLaws
/- Pure values, part 35: arguments of nested types, as they lie in memory, and their pure values. -/
set_option linter.unusedVariables false
set_option linter.unusedSimpArgs false
namespace Go.PV
open Go Go.RowKit Go.ChangeShapes Go.WideShapes

/-- What lies in a cell. -/
inductive Shape where
  | int (k : IntKind)
  | bool
  | str
  | ints (k : IntKind) (B : Nat)
  | rows (st : Bool) (B : Nat) (ss : List Shape)

def elemPV (st : Bool) (ps : List PV) : PV := bif st then .agg ps else ps.getD 0 .undef

inductive Fits : Shape → PV → Prop
  | int (k : IntKind) (n : Int) (h : (Lit.int k n).wf = true) : Fits (.int k) (.int k n)
  | bool (b : Bool) : Fits .bool (.bool b)
  | str (l : List Int) (h : l.length ≤ 140737488351232) (hb : ∀ c ∈ l, 0 ≤ c ∧ c < 256) : Fits .str (.str l)
  | ints (k : IntKind) (B : Nat) (l : List Int) (h : l.length * B ≤ 140737488351232) (hw : ∀ n ∈ l, (Lit.int k n).wf = true) : Fits (.ints k B) (.ints k l)
  | rows (st : Bool) (B : Nat) (ss : List Shape) (l : List (List PV)) (h : l.length * B ≤ 140737488351232) (hl : ∀ ps ∈ l, ps.length = ss.length)
      (hf : ∀ ps ∈ l, ∀ j, j < ss.length → Fits (ss.getD j .bool) (ps.getD j .undef)) : Fits (.rows st B ss) (.list ss.length (l.map (elemPV st)))

inductive Typed (P : Program) : TypeId → List Shape → Prop
  | int {t : TypeId} {k : IntKind} (h : P.underlying t = some (.int k)) : Typed P t [.int k]
  | bool {t : TypeId} (h : P.underlying t = some .bool) : Typed P t [.bool]
  | str {t : TypeId} (h : P.underlying t = some .string) : Typed P t [.str]
  | ints {t e : TypeId} {k : IntKind} {B : Nat} (h : P.underlying t = some (.slice e)) (he : P.underlying e = some (.int k)) (hc : P.cellsOf e = 1) (hB : P.bytesOf e = B) : Typed P t [.ints k B]
  | rows {t e : TypeId} {ss : List Shape} {B : Nat} (st : Bool) (h : P.underlying t = some (.slice e)) (he : Typed P e ss) (hc : P.cellsOf e = ss.length) (hB : P.bytesOf e = B) (h0 : 0 < ss.length) (hst : st = false → ss.length = 1) : Typed P t [.rows st B ss]
  | struct {t : TypeId} {fs : Array Field} (parts : List (List Shape)) (h : P.underlying t = some (.struct fs)) (hl : parts.length = fs.size) (ht : P.cellsOf t = parts.flatten.length)
      (hp : ∀ (i : Nat) (f : Field), fs[i]? = some f → Typed P f.type (parts.getD i []))
      (ho : ∀ (i : Nat) (f : Field), fs[i]? = some f → f.offset = (parts.take i).flatten.length ∧ P.cellsOf f.type = (parts.getD i []).length) : Typed P t parts.flatten

theorem choose_list {α : Type} {Q : Nat → α → Prop} (d : α) : ∀ n, (∀ i, i < n → ∃ a, Q i a) → ∃ l : List α, l.length = n ∧ ∀ i, i < n → Q i (l.getD i d)
  | 0, _ => ⟨[], rfl, fun i hi => absurd hi (Nat.not_lt_zero i)⟩
  | n + 1, h => by
    obtain ⟨l, hl, hq⟩ := choose_list d n fun i hi => h i (by omega)
    obtain ⟨a, ha⟩ := h n (by omega)
    refine ⟨l ++ [a], by simp [hl], fun i hi => ?_⟩
    by_cases hin : i < n
    · have e : (l ++ [a]).getD i d = l.getD i d := by
        rw [List.getD_eq_getElem?_getD, List.getD_eq_getElem?_getD, List.getElem?_append_left (by omega)]
      rw [e]; exact hq i hin
    · have : i = n := by omega
      subst this
      have e : (l ++ [a]).getD i d = a := by
        rw [List.getD_eq_getElem?_getD, List.getElem?_append_right (by omega), hl]; simp
      rw [e]; exact ha

theorem flat_get {α β : Type} (da : α) (db : β) : ∀ (parts : List (List α)) (pss : List (List β)), pss.length = parts.length → (∀ i, i < parts.length → (pss.getD i []).length = (parts.getD i []).length) →
    pss.flatten.length = parts.flatten.length ∧ ∀ j, j < parts.flatten.length → ∃ i m, i < parts.length ∧ m < (parts.getD i []).length ∧ j = (parts.take i).flatten.length + m ∧ parts.flatten.getD j da = (parts.getD i []).getD m da ∧ pss.flatten.getD j db = (pss.getD i []).getD m db
  | [], [], _, _ => ⟨rfl, fun j hj => by simp at hj⟩
  | [], _ :: _, h, _ => by simp at h
  | _ :: _, [], h, _ => by simp at h
  | a :: parts, p :: pss, hl, h => by
    obtain ⟨h1, h2⟩ := flat_get da db parts pss (by simpa using hl) fun i hi => by simpa using h (i + 1) (by simpa using hi)
    have h0 : p.length = a.length := by simpa using h 0 (by simp)
    refine ⟨by simp only [List.flatten_cons, List.length_append]; omega, fun j hj => ?_⟩
    simp only [List.flatten_cons, List.length_append] at hj
    by_cases hja : j < a.length
    · refine ⟨0, j, by simp, by simpa using hja, by simp, ?_, ?_⟩
      · simp only [List.flatten_cons, List.getD_eq_getElem?_getD, List.getElem?_append_left hja]; rfl
      · simp only [List.flatten_cons, List.getD_eq_getElem?_getD, List.getElem?_append_left (show j < p.length by omega)]; rfl
    · obtain ⟨i, m, hi, hm, e, e1, e2⟩ := h2 (j - a.length) (by omega)
      refine ⟨i + 1, m, by simpa using hi, by simpa using hm, ?_, ?_, ?_⟩
      · simp only [List.take_succ_cons, List.flatten_cons, List.length_append]; omega
      · rw [List.getD_cons_succ, ← e1]
        simp only [List.flatten_cons, List.getD_eq_getElem?_getD, List.getElem?_append_right (show a.length ≤ j by omega)]
      · rw [List.getD_cons_succ, ← e2]
        simp only [List.flatten_cons, List.getD_eq_getElem?_getD, List.getElem?_append_right (show p.length ≤ j by omega), h0]

theorem weights_all {H : Type} {P : Program} {e : TypeId} : ∀ {l : List (DataW H)} {d : DataW H}, d ∈ l → ∀ n ∈ d.weights P e, n ∈ DataW.weightsAll P e l
  | x :: l, d, hd, n, hn => by
    simp only [DataW.weightsAll, List.mem_append]
    rcases List.mem_cons.1 hd with rfl | hd
    · exact .inl hn
    · exact .inr (weights_all hd n hn)


section
variable {H : Type} {enc : TypeId × Value → H} {P : Program} {w : World} {held : Bool}

theorem fits_cells {st : Bool} {ss : List Shape} {ps : List PV} (hst : st = false → ss.length = 1) (hl : ps.length = ss.length) (hf : ∀ j, j < ss.length → Fits (ss.getD j .bool) (ps.getD j .undef)) : cellsOf (elemPV st ps) = ps := by
  cases st with
  | true => rfl
  | false =>
    have h1 := hst rfl
    have hf0 := hf 0 (by omega)
    match ps, hl with
    | [p], _ =>
      simp only [elemPV, cond_false, List.getD_cons_zero] at hf0 ⊢
      generalize ss.getD 0 Shape.bool = s at hf0
      cases hf0 <;> rfl
    | [], hl => simp at hl; omega
    | _ :: _ :: _, hl => simp at hl; omega

theorem opened {t : TypeId} {ss : List Shape} (h : Typed P t ss) : ∀ {fuel : Nat} {cs : List Value} {x : DataW H × List MemPlace}, DataW.trod enc P w 0 (fun _ => true) held fuel t cs = some x → (∀ n ∈ x.1.weights P t, n ≤ reachBytes) →
    ∃ ps : List PV, ps.length = ss.length ∧ cs.length = ss.length ∧ (∀ j, j < ss.length → Fits (ss.getD j .bool) (ps.getD j .undef)) ∧ ∀ j, j < ss.length → (cs.getD j undef).oneCell' = true ∧ RD w (fun _ => False) (ps.getD j .undef) (cs.getD j undef) := by
  have one : ∀ {s : Shape} {p : PV} {v : Value}, Fits s p → v.oneCell' = true → RD w (fun _ => False) p v → ∃ ps : List PV, ps.length = [s].length ∧ [v].length = [s].length ∧ (∀ j, j < [s].length → Fits ([s].getD j .bool) (ps.getD j .undef)) ∧ ∀ j, j < [s].length → (([v] : List Value).getD j undef).oneCell' = true ∧ RD w (fun _ => False) (ps.getD j .undef) (([v] : List Value).getD j undef) := fun {s p v} h1 h2 h3 => ⟨[p], rfl, rfl, fun j hj => by
      have : j = 0 := by simpa using hj
      subst this; exact h1, fun j hj => by
      have : j = 0 := by simpa using hj
      subst this; exact ⟨h2, h3⟩⟩
  induction h with
  | int h =>
    intro fuel cs x hx hn
    obtain ⟨n, rfl, rfl, hw⟩ := DataW.trod_int h hx
    exact one (.int _ _ hw) rfl (.int _ _)
  | bool h =>
    intro fuel cs x hx hn
    obtain ⟨b, rfl, rfl⟩ := DataW.trod_bool h hx
    exact one (.bool _) rfl (.bool _)
  | str h =>
    intro fuel cs x hx hn
    obtain ⟨s, rfl, rfl, _⟩ := DataW.trod_string h hx
    have h1 := hn s.data.toList.length (by simp [DataW.weights])
    refine one (.str (bytesI s) (by rw [bytesI_length]; simpa [reachBytes] using h1) (bytesI_bytes s)) rfl (.str _ _ rfl)
  | @ints t e k B h he hc hB =>
    intro fuel cs x hx hn
    rcases open_ints h he hc hx with ⟨rfl, rfl⟩ | ⟨a, len, cap, zs, rfl, _, hl, hm, hz, rfl, hcell, hw⟩
    · exact one (.ints k B [] (by simp) (by simp)) rfl (.intsNil k)
    · have hz' : zs.length = cap := by simpa using hz
      obtain ⟨hrd, hlen, hw'⟩ := IsRow.rd (.inr ⟨a, rfl, hl, hm, hz', hcell, hw⟩)
      have h1 := hn ((lits (H := H) k (zs.take len)).length * B + (lits (H := H) k (zs.drop len)).length * B) (by simp [DataW.weights, h, hB, Nat.add_mul])
      refine one (.ints k B _ ?_ hw') rfl hrd
      simp only [lits, List.length_map, reachBytes] at h1
      omega
  | @rows t e ss B st h he hc hB h0 hst ih =>
    intro fuel cs x hx hn
    rcases DataW.trod_slice h hx with ⟨rfl, rfl⟩ | ⟨a, len, cap, elems, rest, n, _, rfl, rfl, _, hl, hm, hlen, hel, _, _⟩
    · have := one (s := .rows st B ss) (p := .list ss.length (([] : List (List PV)).map (elemPV st))) (v := .slice none 0 0) (.rows st B ss [] (by simp) (by simp) (by simp)) rfl (.listNil _)
      exact this
    · have hwall : ∀ y ∈ elems, ∀ m ∈ y.1.weights P e, m ≤ reachBytes := fun y hy m hm => hn m (by
        simp only [DataW.weights, h, List.mem_cons, List.mem_append]
        exact .inr (.inl (weights_all (List.mem_map_of_mem hy) m hm)))
      have each : ∀ i, i < len → ∃ pv : List PV × List Value, pv.1.length = ss.length ∧ (∀ j, j < ss.length → Fits (ss.getD j .bool) (pv.1.getD j .undef)) ∧ ∀ j, j < ss.length → w.cell? (a.add (i * ss.length) |>.add j) = some (pv.2.getD j undef) ∧ (pv.2.getD j undef).oneCell' = true ∧ RD w (fun _ => False) (pv.1.getD j .undef) (pv.2.getD j undef) := by
        intro i hi
        have hi' : i < elems.length := by omega
        have h1 := hel i hi
        rw [List.getElem?_eq_getElem hi'] at h1
        obtain ⟨cs, hcs, ht⟩ := Option.bind_eq_some_iff.1 h1
        obtain ⟨ps, hp1, hp2, hp3, hp4⟩ := ih ht (hwall _ (List.getElem_mem hi'))
        obtain ⟨_, _, hc3⟩ := World.cells?_some hcs
        rw [hc] at hc3
        refine ⟨(ps, cs), hp1, hp3, fun j hj => ⟨?_, hp4 j hj⟩⟩
        rw [hc3 j hj, List.getD_eq_getElem?_getD, List.getElem?_eq_getElem (by omega)]
        rfl
      obtain ⟨l, hll, hlq⟩ := choose_list ([], []) len each
      have hsize : len * B ≤ 140737488351232 := by
        have h1 := hn ((elems.length + rest.length) * B) (by simp [DataW.weights, h, hB])
        rw [Nat.add_mul, hlen] at h1
        simp only [reachBytes] at h1
        omega
      have hin : ∀ ps ∈ l.map (·.1), ps.length = ss.length ∧ ∀ j, j < ss.length → Fits (ss.getD j .bool) (ps.getD j .undef) := by
        intro ps hps
        obtain ⟨pv, hpv, rfl⟩ := List.mem_map.1 hps
        obtain ⟨i, hi, rfl⟩ := List.getElem_of_mem hpv
        have := hlq i (by omega)
        rw [List.getD_eq_getElem?_getD, List.getElem?_eq_getElem hi] at this
        exact ⟨this.1, this.2.1⟩
      refine one (.rows st B ss (l.map (·.1)) (by simp only [List.length_map]; rw [hll]; exact hsize) (fun ps h => (hin ps h).1) (fun ps h => (hin ps h).2)) rfl ?_
      cases len with
      | zero =>
        have : l = [] := List.length_eq_zero_iff.1 hll
        subst this
        exact .listE _ a cap
      | succ m =>
        obtain ⟨b, o, spot⟩ := a
        have hs : spot = none := by
          have h1 := ((hlq 0 (by omega)).2.2 0 h0).1
          cases spot with
          | none => rfl
          | some s =>
            simp only [World.cell?, Addr.add] at h1
            split at h1
            · simp at h1
            · cases h1
        subst hs
        have hadd : ∀ i j : Nat, ((⟨b, o, none⟩ : Addr).add i).add j = ⟨b, o + (i + j), none⟩ := by
          intro i j
          unfold Addr.add
          by_cases hi0 : i = 0 <;> by_cases hj0 : j = 0 <;> simp [hi0, hj0, Nat.add_assoc]
        have hgl : ∀ i, i < (l.map (·.1)).length → ((l.map (·.1)).map (elemPV st)).getD i .undef = elemPV st ((l.getD i ([], [])).1) := by
          intro i hi
          have hi' : i < l.length := by simpa using hi
          simp [List.getD_eq_getElem?_getD, hi']
        have hcl : ∀ i, i < m + 1 → cellsOf (((l.map (·.1)).map (elemPV st)).getD i .undef) = (l.getD i ([], [])).1 := by
          intro i hi
          rw [hgl i (by simp; omega)]
          exact fits_cells hst (hlq i hi).1 (hlq i hi).2.1
        refine .list ss.length _ (m + 1) b o cap (fun i j => (l.getD i ([], [])).2.getD j undef) (by simp [hll]) hl (fun h => h) h0 ?_ ?_ ?_ ?_
        · intro i hi
          have hi' : i < m + 1 := by simpa [hll] using hi
          rw [hcl i hi']
          exact (hlq i hi').1
        · intro i j hi hj
          have hi' : i < m + 1 := by simpa [hll] using hi
          have := ((hlq i hi').2.2 j hj).1
          rw [hadd] at this
          exact this
        · intro i j hi hj
          have hi' : i < m + 1 := by simpa [hll] using hi
          exact ((hlq i hi').2.2 j hj).2.1
        · intro i j hi hj
          have hi' : i < m + 1 := by simpa [hll] using hi
          rw [hcl i hi']
          exact ((hlq i hi').2.2 j hj).2.2
  | @struct t fs parts h hl ht hp ho ih =>
    intro fuel cs x hx hn
    obtain ⟨xs, n, _, rfl, hcl, hxl, hxs⟩ := DataW.trod_struct h hx
    rw [ht] at hcl
    have each : ∀ i, i < fs.size → ∃ ps : List PV, ps.length = (parts.getD i []).length ∧ (∀ j, j < (parts.getD i []).length → Fits ((parts.getD i []).getD j .bool) (ps.getD j .undef)) ∧ ∀ j, j < (parts.getD i []).length → (cs.getD ((parts.take i).flatten.length + j) undef).oneCell' = true ∧ RD w (fun _ => False) (ps.getD j .undef) (cs.getD ((parts.take i).flatten.length + j) undef) := by
      intro i hi
      have hfi : fs[i]? = some fs[i] := by simp [hi]
      have hxi : i < xs.length := by omega
      have h1 := hxs i _ hfi
      rw [List.getElem?_eq_getElem hxi] at h1
      obtain ⟨ps, hp1, hp2, hp3, hp4⟩ := ih i _ hfi h1 fun m hm => hn m (by
        simp only [DataW.weights, h]
        refine DataW.weights_mem_each (j := i) (t := fs[i].type) (d := xs[i].1) ?_ ?_ m hm
        · simp [hi]
        · simp [hxi])
      obtain ⟨hof, hce⟩ := ho i _ hfi
      refine ⟨ps, hp1, hp3, fun j hj => ?_⟩
      have e : ((cs.drop fs[i].offset).take (P.cellsOf fs[i].type)).getD j undef = cs.getD ((parts.take i).flatten.length + j) undef := by
        rw [hof, hce]
        generalize (parts.getD i []).length = k at hj
        simp only [List.getD_eq_getElem?_getD]
        rw [List.getElem?_take_of_lt hj, List.getElem?_drop]
      rw [← e]
      exact hp4 j hj
    obtain ⟨pss, hpl, hpq⟩ := choose_list [] fs.size each
    obtain ⟨hfl, hfj⟩ := flat_get Shape.bool PV.undef parts pss (by omega) fun i hi => (hpq i (by omega)).1
    refine ⟨pss.flatten, hfl, hcl, fun j hj => ?_, fun j hj => ?_⟩
    · obtain ⟨i, m, hi, hm, _, e1, e2⟩ := hfj j hj
      rw [e1, e2]
      exact (hpq i (by omega)).2.1 m hm
    · obtain ⟨i, m, hi, hm, e0, e1, e2⟩ := hfj j hj
      rw [e2, e0]
      exact (hpq i (by omega)).2.2 m hm

/-- An argument of one cell. -/
theorem opened1 {t : TypeId} {s : Shape} (h : Typed P t [s]) {v : Value} {d : DataW H} {pl : List MemPlace} (hv : v.cells.toList = [v]) (hd : DataW.Trod enc P w 0 (fun _ => true) held t v d pl) (hn : ∀ n ∈ d.weights P t, n ≤ reachBytes) : ∃ p, Fits s p ∧ RD w (fun _ => False) p v := by
  obtain ⟨fuel, hf⟩ := hd
  rw [hv] at hf
  obtain ⟨ps, _, _, h1, h2⟩ := opened h hf hn
  exact ⟨ps.getD 0 .undef, h1 0 (by simp), (h2 0 (by simp)).2⟩

theorem fits_list {α : Type} {st : Bool} {B : Nat} {ss : List Shape} {p : PV} (h : Fits (.rows st B ss) p) (f : α → PV) (ok : α → Prop)
    (hp : ∀ ps : List PV, ps.length = ss.length → (∀ j, j < ss.length → Fits (ss.getD j .bool) (ps.getD j .undef)) → ∃ a, elemPV st ps = f a ∧ ok a) : ∃ as : List α, p = .list ss.length (as.map f) ∧ (∀ a ∈ as, ok a) ∧ as.length * B ≤ 140737488351232 := by
  cases h with
  | rows _ _ _ l hB hl hf =>
    have key : ∀ l : List (List PV), (∀ ps ∈ l, ps.length = ss.length) → (∀ ps ∈ l, ∀ j, j < ss.length → Fits (ss.getD j .bool) (ps.getD j .undef)) → ∃ as : List α, l.map (elemPV st) = as.map f ∧ as.length = l.length ∧ ∀ a ∈ as, ok a := by
      intro l
      induction l with
      | nil => exact fun _ _ => ⟨[], rfl, rfl, by simp⟩
      | cons ps l ih =>
        intro hl hf
        obtain ⟨as, e, el, ho⟩ := ih (fun q hq => hl q (by simp [hq])) (fun q hq => hf q (by simp [hq]))
        obtain ⟨a, ea, ha⟩ := hp ps (hl ps (by simp)) (hf ps (by simp))
        refine ⟨a :: as, by rw [List.map_cons, List.map_cons, e, ea], by simp [el], fun b hb => ?_⟩
        rcases List.mem_cons.1 hb with rfl | hb
        · exact ha
        · exact ho b hb
    obtain ⟨as, e, el, ho⟩ := key l hl hf
    exact ⟨as, by rw [e], ho, by rw [el]; exact hB⟩

theorem wf_u8 {n : Int} (h : (Lit.int .u8 n).wf = true) : 0 ≤ n ∧ n < 256 := by
  simp only [Lit.wf, Bool.and_eq_true, decide_eq_true_eq, IntKind.min, IntKind.max, IntKind.signed, IntKind.bits] at h
  simp at h
  omega

theorem weighs {ts : List TypeId} {ds : List (DataW H)} (h : (DataW.weightsEach P ts ds).all (· ≤ reachBytes) = true) {j : Nat} {t : TypeId} {d : DataW H} (ht : ts[j]? = some t) (hd : ds[j]? = some d) : ∀ n ∈ d.weights P t, n ≤ reachBytes := fun n hn => by
  have := List.all_eq_true.1 h n (DataW.weights_mem_each ht hd n hn)
  simpa using this
end
end Go.PV
/- Pure values, part 36: a contract over one row, out of the same over a heap of that row alone. -/
set_option linter.unusedVariables false
set_option linter.unusedSimpArgs false
namespace Go.PV
open Go Go.RowKit
section
variable {P : Program}

theorem rowAt_ints {w : World} {ow ow' : Nat → Prop} {loc loc' : Locs} {L : Option RowLoc} {k : IntKind} {l : List Int} (h : RowAt w ow loc L (.ints k l)) : RowAt w ow' loc' L (.ints k l) := by
  cases L with
  | none => exact h
  | some L => exact h

/-- The row number, turned. -/
theorem rv_slice_turn {w w' : World} {ow ow' : Nat → Prop} {loc loc' : Locs} {r r' off len : Nat} {full : Bool} {v : Value} {L : Option RowLoc} (h : RV w ow loc (.sl r off len full) v) (hl : loc r = some L) (hl' : loc' r' = some L) : RV w' ow' loc' (.sl r' off len full) v := by
  cases h with
  | data _ _ h => cases h
  | dang _ _ _ _ a n c h => rw [hl] at h; cases h
  | slnil _ _ h =>
    rw [hl] at h; injection h with h; subst h
    exact .slnil r' full hl'
  | sl _ _ _ _ M a c h hlc hc hf ha =>
    rw [hl] at h; injection h with h; subst h
    exact .sl r' off len full M a c hl' hlc hc hf ha

/-- **A contract over one row of numbers that the function takes over and hands back:** the caller's own slices of it are void. -/
theorem row_call {f : FuncId} {k : IntKind} {l : List Int} {off n : Nat} {full : Bool} {rest : List PV} {Q : List Int → Prop} {nx r : Nat} {rows : List (Nat × Row)} {g : List Frame} {ty : List (Nat × TypeId)}
    (hloc : HMeets P f (.sl 0 off n full :: rest) ⟨1, [(0, .ints k l)], [], []⟩ fun res H' => ∃ l', Q l' ∧ res = .sl 0 0 l'.length true ∧ H'.get 0 = some (.ints k l'))
    (hrest : rest.all dataB = true) (hr : getRow rows r = some (.ints k l)) (hrn0 : Nat.blt r nx = true) :
    HMeets P f (.sl r off n full :: rest) ⟨nx, rows, g, ty⟩ fun res H' => ∃ l', Q l' ∧ res = .sl r 0 l'.length true ∧ H' = (⟨nx, rows, g, ty⟩ : Heap).move r (.ints k l') := by
  have hrn : r < nx := by simpa [Nat.blt_eq] using hrn0
  refine ⟨fun E ow loc w vs hs hl ha => ?_⟩
  obtain ⟨Lo, hLo, hat⟩ := hs.rows r (.ints k l) hr
  let S1 : Nat → Prop := fun b => ∃ L, Lo = some L ∧ L.b = b
  have hS1 : ∀ g gl tab, P.globals[g]? = some gl → tabOf gl.name = some tab → 0 < tab.length → ¬ S1 g := fun g gl tab hg ht h0 ⟨L, e1, e2⟩ => by
    subst e2
    rcases (hs.live r L (by rw [hLo, e1])).2.2 with h | h
    · have := E.lg.lt hg ht h0
      omega
    · exact E.ls _ _ _ hg ht h0 h
  let E1 : Entry P := ⟨w, S1, fun b => ow b ∧ ¬ S1 b, fun _ _ => undef, hs.laid, hS1⟩
  let loc1 : Locs := fun i => if i = 0 then some Lo else none
  have hlive : ∀ L, Lo = some L → ow L.b ∧ L.b < w.heap.size := fun L e => ⟨(hs.live r L (by rw [hLo, e])).1, (hs.live r L (by rw [hLo, e])).2.1⟩
  have h1some : ∀ i L, loc1 i = some L → i = 0 ∧ Lo = L := fun i L h => by
    simp only [loc1] at h
    split at h
    · rename_i e; injection h with h; exact ⟨e, h⟩
    · cases h
  have hs1 : HS E1 ⟨1, [(0, .ints k l)], [], []⟩ ow loc1 w := by
    refine ⟨fun i row h => ?_, fun i L h => ?_, fun i j L L' h1 h2 _ => ?_, fun _ _ _ => rfl, Nat.le_refl _, rfl, rfl, rfl, fun i hi => ?_, hs.owlt, fun b h => h.1, fun b h => hs.owlt b h.1, fun i L h hA => ?_, fun i l h => ?_, fun i t => ⟨?_, ?_⟩, fun i t h => by cases h⟩
    · simp only [Heap.get, getRow] at h
      cases hk : 0 == i with
      | true =>
        have : i = 0 := by simpa using (beq_iff_eq.1 hk).symm
        subst this
        rw [hk] at h
        injection h with h
        subst h
        exact ⟨Lo, by simp [loc1], rowAt_ints hat⟩
      | false => rw [hk] at h; cases h
    · obtain ⟨rfl, e⟩ := h1some i _ h
      exact ⟨(hlive L e).1, (hlive L e).2, .inr ⟨L, e, rfl⟩⟩
    · rw [(h1some i _ h1).1, (h1some j _ h2).1]
    · simp only [loc1]
      rw [if_neg]
      have : 1 ≤ i := hi
      omega
    · obtain ⟨rfl, e⟩ := h1some i _ h
      exact hA.2 ⟨L, e, rfl⟩
    · simp only [Heap.get, getRow] at h
      cases hk : 0 == i <;> rw [hk] at h <;> cases h
    · simp only [List.getD_nil, Frame.get]; exact .data _ _ (.undef _)
    · simp only [List.getD_nil, Frame.get]; exact .undef
  have hl0 : (PV.sl 0 off n full :: rest).length = vs.size := by simpa using hl
  have hargs : ∀ i, i < (PV.sl 0 off n full :: rest).length → RV w ow loc1 ((PV.sl 0 off n full :: rest).getD i .undef) (vs.getD i undef) ∧ Refs 1 ((PV.sl 0 off n full :: rest).getD i .undef) := by
    intro i hi
    have h := ha i (by simpa using hi)
    cases i with
    | zero =>
      simp only [List.getD_cons_zero] at h ⊢
      exact ⟨rv_slice_turn h.1 hLo (by simp [loc1]), .sl _ _ _ _ (by omega)⟩
    | succ i =>
      simp only [List.getD_cons_succ] at h ⊢
      have hi' : i < rest.length := by simpa using hi
      have hd : dataB (rest.getD i .undef) = true := by
        have := List.all_eq_true.1 hrest rest[i] (List.getElem_mem hi')
        rw [List.getD_eq_getElem?_getD, List.getElem?_eq_getElem hi']; exact this
      have hrd := rd_of h.1 hd
      exact ⟨.data _ _ hrd, rd_refs hrd⟩
  have fin : ∀ v w', (∃ res H' ow' loc', (∃ l', Q l' ∧ res = PV.sl 0 0 l'.length true ∧ H'.get 0 = some (.ints k l')) ∧ HS E1 H' ow' loc' w' ∧ RV w' ow' loc' res v ∧ Refs H'.nx res) →
      ∃ res H' ow' loc', (∃ l', Q l' ∧ res = PV.sl r 0 l'.length true ∧ H' = (⟨nx, rows, g, ty⟩ : Heap).move r (.ints k l')) ∧ HS E H' ow' loc' w' ∧ RV w' ow' loc' res v ∧ Refs H'.nx res := by
    rintro v w' ⟨_, H', ow1, loc2, ⟨l', hq, rfl, hg⟩, hs2, hv, _⟩
    obtain ⟨L2, hL2, hat2⟩ := hs2.rows 0 _ hg
    have hlive2 : ∀ M, L2 = some M → M.b < w'.heap.size ∧ (w.heap.size ≤ M.b ∨ S1 M.b) := fun M e => by
      have := hs2.live 0 M (by rw [hL2, e])
      exact ⟨this.2.1, this.2.2⟩
    have hsz : w.heap.size ≤ w'.heap.size := hs2.size
    obtain ⟨b, hc, hbo⟩ : ∃ b, Chg w w' b ∧ ((∃ L, Lo = some L ∧ b = L.b) ∨ w.heap.size ≤ b) := by
      cases hLo' : Lo with
      | none => exact ⟨w'.heap.size, ⟨hs2.os, hs2.tape, hs2.output, hsz, fun j hj _ => hs2.old j hj (by rintro ⟨L, e, _⟩; rw [hLo'] at e; cases e)⟩, .inr hsz⟩
      | some L => exact ⟨L.b, ⟨hs2.os, hs2.tape, hs2.output, hsz, fun j hj hne => hs2.old j hj (by rintro ⟨M, e, hb⟩; rw [hLo'] at e; injection e with e; subst e; exact hne hb.symm)⟩, .inl ⟨L, rfl, rfl⟩⟩
    obtain ⟨hmv, _⟩ := hs.move (r := r) (Lo := Lo) (L' := L2) (row := .ints k l') (b := b) (w' := w') (ow' := fun b => ow b ∨ ∃ M, L2 = some M ∧ M.b = b) hLo hc hbo (fun _ h => .inl h)
      (fun b hb h => by
        rcases h with h | ⟨M, e, rfl⟩
        · exact h
        · rcases (hlive2 M e).2 with h1 | ⟨L, e1, e2⟩
          · omega
          · rw [← e2]; exact (hlive L e1).1)
      (fun M e => ⟨.inr ⟨M, e, rfl⟩, (hlive2 M e).1, by
        rcases (hlive2 M e).2 with h1 | ⟨L, e1, e2⟩
        · exact .inr h1
        · exact .inl ⟨L, e1, e2.symm⟩⟩)
      (fun b h => by
        rcases h with h | ⟨M, e, rfl⟩
        · have := hs.owlt b h; omega
        · exact (hlive2 M e).1)
      (rowAt_ints hat2) (fun l h => by cases h)
    exact ⟨_, _, _, _, ⟨l', hq, rfl, rfl⟩, hmv, rv_slice_turn hv hL2 (by simp [locSet]), .sl _ _ _ _ hrn⟩
  rcases hloc.run E1 ow loc1 w vs hs1 hl0 hargs with ⟨h1, h2⟩ | ⟨v, w', h1, h2⟩
  · exact .inl ⟨h1, h2.mono fun e w' ⟨v, he, hr⟩ => ⟨v, he, fin v w' hr⟩⟩
  · exact .inr ⟨v, w', h1, fin v w' h2⟩
end
end Go.PV
/- Pure values, part 37: regions that draw their order and store once, into what no other operation of theirs reads. -/
set_option linter.unusedVariables false
set_option linter.unusedSimpArgs false
namespace Go.PV
open Go Go.RowKit

def storeOf : Op → Option (TypeId × Operand × Operand)
  | .store t p v => some (t, p, v)
  | _ => none

/-- One store, without a guard and a slot; every other operation has a slot. -/
def oneStore (ops : List Oper) : Bool :=
  ops.all (fun o => match storeOf o.op with
    | some _ => o.guard.isNone && o.dst.isNone
    | none => o.dst.isSome) && (ops.filter fun o => (storeOf o.op).isSome).length == 1

/-- The operations one behind the other; what the store leaves is kept aside. -/
def opsE (P : Program) (tt : Tab) (all : List Oper) : List Oper → Frame → Heap → Heap → (Frame → Heap → Prop) → Prop
  | [], F, H, H1, K => K F H1
  | o :: rest, F, H, H1, K => match storeOf o.op with
    | some x => storeW tt x.1 (ev F.get x.2.1) (ev F.get x.2.2) H fun H' => opsE P tt all rest (F.put o.dst (.tup [])) H H' K
    | none => wantW all F o (stepD P tt o (ev F.get) H fun q => opsE P tt all rest (F.put o.dst q) H H1 K) (opsE P tt all rest (F.put o.dst (.tup [])) H H1 K)

/-- The same behind the store. -/
def opsX (P : Program) (tt : Tab) (all : List Oper) : List Oper → Frame → Heap → (Frame → Prop) → Prop
  | [], F, H, K => K F
  | o :: rest, F, H, K => match storeOf o.op with
    | some x => opsX P tt all rest (F.put o.dst (.tup [])) H K
    | none => wantW all F o (stepD P tt o (ev F.get) H fun q => opsX P tt all rest (F.put o.dst q) H K) (opsX P tt all rest (F.put o.dst (.tup [])) H K)

/-- Both ways end in the same frame. -/
def Same (F F' : Frame) : Prop := F = F'
theorem same_self (F : Frame) : Same F F = True := propext ⟨fun _ => trivial, fun _ => rfl⟩

section
variable {P : Program} {w w' : World} {ow ow' : Nat → Prop} {loc loc' : Locs} {n nt : Nat} {E : Entry P} {H : Heap} {F : Frame} {a : Act} {tt : Tab} {rows : Nat → Option Row}

theorem storeW_pt {t : TypeId} {p q : PV} {K : Heap → Prop} (h : storeW tt t p q H K) : ∃ H', K H' ∧ storeW tt t p q H fun X => X = H' := by
  unfold storeW at h ⊢
  split at h
  · rename_i ti r i j hti
    obtain ⟨h1, h2, h3⟩ := h
    split at h3
    · rename_i hr
      split at h3
      · exact ⟨_, h3.2.2.2, h1, h2, h3.1, h3.2.1, h3.2.2.1, rfl⟩
      · exact h3.elim
    · rename_i hr
      obtain ⟨h4, h5, h6⟩ := h3
      split at h6
      · rename_i hc
        refine ⟨_, h6, h1, h2, h4, h5, ?_⟩
        rfl
      · rename_i hc
        refine ⟨_, h6.2, h1, h2, h4, h5, ?_⟩
        exact ⟨h6.1, rfl⟩
    · rename_i hr
      exact ⟨_, h3.2.2, h1, h2, h3.1, h3.2.1, rfl⟩
    · exact h3.elim
  · exact h.elim

theorem traceE {all : List Oper} : ∀ (rest : List Oper) (F : Frame) (H1 : Heap) {K : Frame → Heap → Prop}, opsE P tt all rest F H H1 K →
    ∃ (qs : Nat → PV) (hs : Nat → Heap), hs 0 = H1 ∧ (∀ k o, rest[k]? = some o → (storeOf o.op = none → yieldsD P tt all o (frameAt F rest qs k) H (qs k) ∧ hs (k + 1) = hs k) ∧
      (∀ x, storeOf o.op = some x → qs k = .tup [] ∧ storeW tt x.1 (ev (frameAt F rest qs k).get x.2.1) (ev (frameAt F rest qs k).get x.2.2) H fun X => X = hs (k + 1))) ∧ K (frameAt F rest qs rest.length) (hs rest.length)
  | [], F, H1, K, h => ⟨fun _ => .undef, fun _ => H1, rfl, fun k o ho => by simp at ho, h⟩
  | o :: rest, F, H1, K, h => by
    unfold opsE at h
    cases hso : storeOf o.op with
    | none =>
      rw [hso] at h
      simp only at h
      have step : ∃ q, yieldsD P tt all o F H q ∧ opsE P tt all rest (F.put o.dst q) H H1 K := by
        rcases wantW_or h with ⟨h1, h2⟩ | ⟨h1, h2⟩
        · obtain ⟨q, hq, hs⟩ := stepD_pt o _ H _ h1
          exact ⟨q, h2 _ _ hs, hq⟩
        · exact ⟨.tup [], h2 _ _ rfl, h1⟩
      obtain ⟨q, hy, hr⟩ := step
      obtain ⟨qs, hs, h0, h3, h4⟩ := traceE rest _ _ hr
      refine ⟨fun | 0 => q | j + 1 => qs j, fun | 0 => H1 | j + 1 => hs j, rfl, fun k o' ho => ?_, h4⟩
      cases k with
      | zero =>
        simp only [List.getElem?_cons_zero, Option.some.injEq] at ho
        subst ho
        exact ⟨fun _ => ⟨hy, h0⟩, fun x hx => by rw [hso] at hx; cases hx⟩
      | succ k =>
        simp only [List.getElem?_cons_succ] at ho
        exact h3 k o' ho
    | some x =>
      rw [hso] at h
      simp only at h
      obtain ⟨H', hr, hst⟩ := storeW_pt h
      obtain ⟨qs, hs, h0, h3, h4⟩ := traceE rest _ _ hr
      refine ⟨fun | 0 => .tup [] | j + 1 => qs j, fun | 0 => H1 | j + 1 => hs j, rfl, fun k o' ho => ?_, h4⟩
      cases k with
      | zero =>
        simp only [List.getElem?_cons_zero, Option.some.injEq] at ho
        subst ho
        refine ⟨fun hn => (by rw [hso] at hn; cases hn), fun y hy => ?_⟩
        rw [hso] at hy; cases hy
        refine ⟨rfl, ?_⟩
        rw [show (fun X => X = (fun | 0 => H1 | j + 1 => hs j : Nat → Heap) (0 + 1)) = fun X => X = H' from by funext X; exact congrArg (X = ·) h0]
        exact hst
      | succ k =>
        simp only [List.getElem?_cons_succ] at ho
        exact h3 k o' ho

theorem traceX {all : List Oper} : ∀ (rest : List Oper) (F : Frame) {K : Frame → Prop}, opsX P tt all rest F H K →
    ∃ qs : Nat → PV, (∀ k o, rest[k]? = some o → (storeOf o.op = none → yieldsD P tt all o (frameAt F rest qs k) H (qs k)) ∧ (∀ x, storeOf o.op = some x → qs k = .tup [])) ∧ K (frameAt F rest qs rest.length)
  | [], F, K, h => ⟨fun _ => .undef, fun k o ho => by simp at ho, h⟩
  | o :: rest, F, K, h => by
    unfold opsX at h
    cases hso : storeOf o.op with
    | none =>
      rw [hso] at h
      simp only at h
      have step : ∃ q, yieldsD P tt all o F H q ∧ opsX P tt all rest (F.put o.dst q) H K := by
        rcases wantW_or h with ⟨h1, h2⟩ | ⟨h1, h2⟩
        · obtain ⟨q, hq, hs⟩ := stepD_pt o _ H _ h1
          exact ⟨q, h2 _ _ hs, hq⟩
        · exact ⟨.tup [], h2 _ _ rfl, h1⟩
      obtain ⟨q, hy, hr⟩ := step
      obtain ⟨qs, h3, h4⟩ := traceX rest _ hr
      refine ⟨fun | 0 => q | j + 1 => qs j, fun k o' ho => ?_, h4⟩
      cases k with
      | zero =>
        simp only [List.getElem?_cons_zero, Option.some.injEq] at ho
        subst ho
        exact ⟨fun _ => hy, fun x hx => by rw [hso] at hx; cases hx⟩
      | succ k =>
        simp only [List.getElem?_cons_succ] at ho
        exact h3 k o' ho
    | some x =>
      rw [hso] at h
      simp only at h
      obtain ⟨qs, h3, h4⟩ := traceX rest _ h
      refine ⟨fun | 0 => .tup [] | j + 1 => qs j, fun k o' ho => ?_, h4⟩
      cases k with
      | zero =>
        simp only [List.getElem?_cons_zero, Option.some.injEq] at ho
        subst ho
        exact ⟨fun hn => (by rw [hso] at hn; cases hn), fun _ _ => rfl⟩
      | succ k =>
        simp only [List.getElem?_cons_succ] at ho
        exact h3 k o' ho

theorem frameAt_congr : ∀ (ops : List Oper) (F : Frame) (qs qs' : Nat → PV) (k : Nat), k ≤ ops.length → (∀ j, j < k → qs j = qs' j) → frameAt F ops qs k = frameAt F ops qs' k
  | [], F, qs, qs', k, _, _ => by simp only [frameAt]
  | o :: rest, F, qs, qs', 0, _, _ => by simp only [frameAt]
  | o :: rest, F, qs, qs', k + 1, hk, h => by
    simp only [frameAt]
    rw [h 0 (by omega)]
    exact frameAt_congr rest _ _ _ k (by simpa using hk) fun j hj => h (j + 1) (by omega)

theorem storeOf_some {o : Op} {x : TypeId × Operand × Operand} (h : storeOf o = some x) : o = .store x.1 x.2.1 x.2.2 := by
  cases o <;> simp only [storeOf] at h <;> first | (cases h; rfl) | cases h

/-- The heap while some are done. -/
def heapOf (js : Nat) (H0 H1 : Heap) (listed : Array Bool) : Heap := bif listed.getD js false then H1 else H0

theorem anyS_sound (hT : TabOk P tt) {ops : Array Oper} (hr : RegOk ops.toList) (hd : ops.toList.all (fun o => dstOk nt o.dst) = true) {Q : Exit → Act → World → Prop} {F0 : Frame} {qs : Nat → PV} {js : Nat} {os : Oper} {x : TypeId × Operand × Operand} {H0 H1 : Heap}
    (hjs : ops.toList[js]? = some os) (hso : storeOf os.op = some x) (hgd : os.guard = none) (hds : os.dst = none)
    (hy : ∀ k o, k ≠ js → ops.toList[k]? = some o → yieldsD P tt ops.toList o (frameAt F0 ops.toList qs k) H0 (qs k) ∧ yieldsD P tt ops.toList o (frameAt F0 ops.toList qs k) H1 (qs k))
    (hst : storeW tt x.1 (ev (frameAt F0 ops.toList qs js).get x.2.1) (ev (frameAt F0 ops.toList qs js).get x.2.2) H0 fun X => X = H1)
    (hk : ∀ a' w', St E nt (frameAt F0 ops.toList qs ops.toList.length) H1 a' w' → Q .normal a' w') :
    ∀ (fuel : Nat) (listed : Array Bool) (F : Frame) (a : Act) (w : World), Inv ops.toList F0 qs listed F → St E nt F (heapOf js H0 H1 listed) a w →
      ((List.range ops.size).filter fun i => listed.getD i false = false).length ≤ fuel → wpAny P .any ops Q fuel listed a w := by
  have hjlt : js < ops.toList.length := (List.getElem?_eq_some_iff.1 hjs).1
  have fin : ∀ (listed : Array Bool) (F : Frame) (a : Act) (w : World), Inv ops.toList F0 qs listed F → St E nt F (heapOf js H0 H1 listed) a w → (∀ i, i < ops.toList.length → listed.getD i false = true) → Q .normal a w := by
    intro listed F a w hi hs hall
    have e : heapOf js H0 H1 listed = H1 := by unfold heapOf; rw [hall js hjlt]; rfl
    rw [e] at hs
    exact hk _ _ (hs.get (hi.fin hr hall))
  have readyNil : ∀ (listed : Array Bool) (F : Frame), Inv ops.toList F0 qs listed F → Region.ready .any ops listed = [] → ∀ i, i < ops.toList.length → listed.getD i false = true := by
    intro listed F hi hnil i
    induction i using Nat.strongRecOn with
    | _ i ih =>
      intro hlt
      cases hl : listed.getD i false with
      | true => rfl
      | false =>
        have hlt' : i < ops.size := by simpa using hlt
        have hmem : i ∈ Region.ready .any ops listed := by
          rw [mem_ready]
          refine ⟨?_, ops[i], Array.getElem?_eq_getElem hlt', fun e he hb => ?_⟩
          · have hsz : i < listed.size := by rw [hi.size]; exact hlt
            simp only [Array.getD_eq_getD_getElem?, Array.getElem?_eq_getElem hsz, Option.getD_some] at hl ⊢
            exact hl
          · have hb' := hr.back i ops[i] (by rw [Array.getElem?_toList]; exact Array.getElem?_eq_getElem hlt') e he hb
            exact ih e.on hb' (by omega)
        rw [hnil] at hmem
        cases hmem
  intro fuel
  induction fuel with
  | zero =>
    intro listed F a w hi hst0 hlen
    have hall : ∀ i, i < ops.toList.length → listed.getD i false = true := by
      intro i hlt
      cases hl : listed.getD i false with
      | true => rfl
      | false =>
        have : i ∈ (List.range ops.size).filter fun i => listed.getD i false = false := List.mem_filter.2 ⟨List.mem_range.2 (by simpa using hlt), by simpa using hl⟩
        rw [List.length_eq_zero_iff.1 (Nat.le_zero.1 hlen)] at this
        cases this
    refine ⟨?_, fin _ _ _ _ hi hst0 hall⟩
    cases hready : Region.ready .any ops listed with
    | nil => rfl
    | cons y ys =>
      have hx : y ∈ Region.ready .any ops listed := by rw [hready]; simp
      obtain ⟨hun, o, ho, _⟩ := mem_ready.1 hx
      have hlt : y < ops.toList.length := by have := (Array.getElem?_eq_some_iff.1 ho).1; simpa using this
      have := hall y hlt
      have hsz : y < listed.size := by rw [hi.size]; exact hlt
      simp only [Array.getD_eq_getD_getElem?, Array.getElem?_eq_getElem hsz, Option.getD_some] at this hun
      rw [this] at hun; cases hun
  | succ fuel ih =>
    intro listed F a w hi hst0 hlen
    refine ⟨fun hnil => fin _ _ _ _ hi hst0 (readyNil listed F hi hnil), fun i hmem => ?_⟩
    obtain ⟨hun0, o, ho, hready⟩ := mem_ready.1 hmem
    have ho' : ops.toList[i]? = some o := by rw [Array.getElem?_toList]; exact ho
    have hlt : i < ops.size := (Array.getElem?_eq_some_iff.1 ho).1
    have hsz : i < listed.size := by rw [hi.size]; simpa using hlt
    have hun : listed.getD i false = false := by
      simp only [Array.getD_eq_getD_getElem?, Array.getElem?_eq_getElem hsz, Option.getD_some] at hun0 ⊢
      exact hun0
    have hi' := hi.step hr ho' hun hready
    have hdk : dstOk nt o.dst = true := List.all_eq_true.1 hd o (by exact List.mem_of_getElem? ho')
    have hlen' : ((List.range ops.size).filter fun k => (listed.setIfInBounds i true).getD k false = false).length ≤ fuel := by
      have hsub : ((List.range ops.size).filter fun k => (listed.setIfInBounds i true).getD k false = false).length < ((List.range ops.size).filter fun k => listed.getD k false = false).length := by
        have h1 : ((List.range ops.size).filter fun k => (listed.setIfInBounds i true).getD k false = false) = ((List.range ops.size).filter fun k => listed.getD k false = false).filter fun k => !(k == i) := by
          rw [List.filter_filter]
          refine List.filter_congr fun k hkm => ?_
          by_cases e : k = i
          · subst e
            simp [hsz]
          · rw [getD_set_ne false (Ne.symm e)]
            simp [e]
        rw [h1]
        refine List.length_filter_lt_length_iff_exists.2 ⟨i, List.mem_filter.2 ⟨List.mem_range.2 hlt, by simpa using hun⟩, by simp⟩
      omega
    have hlooks := fun t ht => hi.reads hr ho' hun hready (t := t) ht
    by_cases hij : i = js
    · subst hij
      rw [hjs] at ho'
      cases ho'
      have e0 : heapOf i H0 H1 listed = H0 := by unfold heapOf; rw [hun]; rfl
      have e1 : heapOf i H0 H1 (listed.setIfInBounds i true) = H1 := by
        unfold heapOf
        have : (listed.setIfInBounds i true).getD i false = true := by simp [hsz]
        rw [this]; rfl
      rw [e0] at hst0
      obtain ⟨ow, loc, hs, hf, hszt⟩ := hst0
      have hop := storeOf_some hso
      have hev := ev_congr (o := os) hlooks
      have hw : opW P tt os F H0 fun F' H' => F' = F.put os.dst (.tup []) ∧ H' = H1 := by
        have m1 : x.2.1 ∈ os.op.operands := by rw [hop]; simp [Op.operands]
        have m2 : x.2.2 ∈ os.op.operands := by rw [hop]; simp [Op.operands]
        unfold opW
        rw [hop]
        simp only
        rw [hev _ m1, hev _ m2]
        obtain ⟨H', h1, h2⟩ := storeW_pt hst
        subst h1
        have mono : ∀ {K K' : Heap → Prop}, (∀ X, K X → K' X) → ∀ {p q : PV}, storeW tt x.1 p q H0 K → storeW tt x.1 p q H0 K' := by
          intro K K' hKK p q h
          obtain ⟨X, hX, hp⟩ := storeW_pt h
          unfold storeW at hp ⊢
          split at hp
          · obtain ⟨a1, a2, a3⟩ := hp
            refine ⟨a1, a2, ?_⟩
            split at a3
            · split at a3
              · exact ⟨a3.1, a3.2.1, a3.2.2.1, by rw [a3.2.2.2]; exact hKK _ hX⟩
              · exact a3.elim
            · obtain ⟨b1, b2, b3⟩ := a3
              refine ⟨b1, b2, ?_⟩
              split at b3
              · rw [b3]; exact hKK _ hX
              · exact ⟨b3.1, by rw [b3.2]; exact hKK _ hX⟩
            · exact ⟨a3.1, a3.2.1, by rw [a3.2.2]; exact hKK _ hX⟩
            · exact a3.elim
          · exact hp.elim
        exact mono (fun X hX => ⟨by first | rfl | trivial, hX⟩) hst
      unfold wpOp
      simp only [ho]
      have hwant : wantW ops.toList F os True False := by unfold wantW; rw [hgd]; trivial
      rcases wanted_of hf.vals hwant with ⟨hwt, _⟩ | ⟨_, hno⟩
      · rw [if_pos hwt]
        left
        refine op_sound hT hdk hs hf hszt hw fun F' H' a' w' hK hst' => ?_
        obtain ⟨rfl, rfl⟩ := hK
        refine ih _ _ a' w' hi' ?_ hlen'
        rw [e1, hds]
        rw [hds] at hst'
        exact hst'
      · exact hno.elim
    · have e1 : heapOf js H0 H1 (listed.setIfInBounds i true) = heapOf js H0 H1 listed := by
        unfold heapOf
        rw [getD_set_ne false hij]
      have hyi : yieldsD P tt ops.toList o F (heapOf js H0 H1 listed) (qs i) := by
        refine yields_congr hlooks ?_
        unfold heapOf
        cases listed.getD js false with
        | true => exact (hy i o hij ho').2
        | false => exact (hy i o hij ho').1
      generalize heapOf js H0 H1 listed = H at *
      obtain ⟨ow, loc, hs, hf, hszt⟩ := hst0
      unfold wpOp
      simp only [ho]
      unfold yieldsD at hyi
      rcases wanted_of hf.vals hyi with ⟨hw, hyes⟩ | ⟨hw, hno⟩
      · rw [if_pos hw]
        left
        have hop : opW P tt o F H (fun F' H' => F' = F.put o.dst (qs i) ∧ H' = H) := opW_of_stepD (by
          exact hyes _ ⟨rfl, rfl⟩)
        refine op_sound hT hdk hs hf hszt hop fun F' H' a' w' hK hst' => ?_
        obtain ⟨rfl, rfl⟩ := hK
        exact ih _ _ a' w' hi' (by rw [e1]; exact hst') hlen'
      · rw [if_neg (by rw [hw]; simp)]
        have hst' : St E nt (F.put o.dst (.tup [])) H (a.put o.dst undef) w := put_st hs hf hszt hdk undef_ok (.tup [] fun i hi => by simp at hi)
        rw [hno] at hst'
        exact ih _ _ _ w hi' (by rw [e1]; exact hst') hlen'

theorem PW.regionS {id : Nat} {ops : Array Oper} {Q : Exit → Frame → Heap → Prop} (hT : TabOk P tt) (hm : P.follows .mixedOrders = true) (h1 : oneStore ops.toList = true) (hr : regOk ops.toList = true) (hd : ops.toList.all (fun o => dstOk nt o.dst) = true)
    (h : opsE P tt ops.toList ops.toList F H H fun F' H1 => opsX P tt ops.toList ops.toList F H1 (Same F') ∧ Q .normal F' H1) : PW P E nt (.region id ops true) Q F H := fun a w hst => by
  obtain ⟨qs, hs, h0, hy, hx, hq⟩ := traceE _ _ _ h
  obtain ⟨qs', hy', hsame⟩ := traceX _ _ hx
  unfold oneStore at h1
  rw [Bool.and_eq_true] at h1
  obtain ⟨ha, hc⟩ := h1
  have hR := regOk_spec hr
  have hall : ∀ (k : Nat) (o : Oper), ops.toList[k]? = some o → (match storeOf o.op with | some _ => o.guard.isNone && o.dst.isNone | none => o.dst.isSome) = true := fun k o ho => List.all_eq_true.1 ha o (List.mem_of_getElem? ho)
  -- the store's place
  obtain ⟨os, hfil⟩ : ∃ os, (ops.toList.filter fun o => (storeOf o.op).isSome) = [os] := List.length_eq_one_iff.1 (by simpa using hc)
  have hosm : os ∈ ops.toList.filter fun o => (storeOf o.op).isSome := by rw [hfil]; simp
  obtain ⟨hosl, hoss⟩ := List.mem_filter.1 hosm
  obtain ⟨js, hjlt, hjs⟩ := List.getElem_of_mem hosl
  have hjs' : ops.toList[js]? = some os := by rw [List.getElem?_eq_getElem hjlt, hjs]
  obtain ⟨x, hso⟩ := Option.isSome_iff_exists.1 hoss
  -- the only one
  have honly : ∀ k o, ops.toList[k]? = some o → k ≠ js → storeOf o.op = none := by
    intro k o ho hne
    cases hko : storeOf o.op with
    | none => rfl
    | some y =>
      exfalso
      have hklt : k < ops.toList.length := (List.getElem?_eq_some_iff.1 ho).1
      have hcount : 2 ≤ (ops.toList.filter fun o => (storeOf o.op).isSome).length := by
        have hsub : [ops.toList[min k js]'(by omega), ops.toList[max k js]'(by omega)].Sublist ops.toList := by
          have hlt : min k js < max k js := by omega
          have e := List.take_append_drop (max k js) ops.toList
          have s1 : [ops.toList[min k js]'(by omega)].Sublist (ops.toList.take (max k js)) := by
            rw [List.singleton_sublist]
            refine List.mem_of_getElem? (i := min k js) ?_
            rw [List.getElem?_take_of_lt hlt, List.getElem?_eq_getElem]
          have s2 : [ops.toList[max k js]'(by omega)].Sublist (ops.toList.drop (max k js)) := by
            rw [List.singleton_sublist]
            refine List.mem_of_getElem? (i := 0) ?_
            rw [List.getElem?_drop, Nat.add_zero, List.getElem?_eq_getElem]
          have := s1.append s2
          rw [e] at this
          exact this
        have hf := hsub.filter fun o => (storeOf o.op).isSome
        have ek : ops.toList[k]'hklt = o := by
          have := List.getElem?_eq_getElem hklt; rw [ho] at this; exact (Option.some.inj this).symm
        have b1 : (storeOf (ops.toList[min k js]'(by omega)).op).isSome = true := by
          rcases Nat.le_total k js with h | h
          · simp only [Nat.min_eq_left h, ek, hko, Option.isSome_some]
          · simp only [Nat.min_eq_right h, hjs, hso, Option.isSome_some]
        have b2 : (storeOf (ops.toList[max k js]'(by omega)).op).isSome = true := by
          rcases Nat.le_total k js with h | h
          · simp only [Nat.max_eq_right h, hjs, hso, Option.isSome_some]
          · simp only [Nat.max_eq_left h, ek, hko, Option.isSome_some]
        simp only [List.filter_cons, b1, b2, if_true, List.filter_nil] at hf
        exact hf.length_le
      rw [hfil] at hcount
      simp at hcount
  have hsj : ∀ k, js + 1 ≤ k → k ≤ ops.toList.length → hs k = hs (js + 1) := by
    intro k
    induction k with
    | zero => intro h; omega
    | succ k ih =>
      intro h1 h2
      by_cases e : k = js
      · rw [e]
      · have hko : ops.toList[k]? = some (ops.toList[k]'(by omega)) := List.getElem?_eq_getElem _
        rw [((hy k _ hko).1 (honly k _ hko e)).2]
        exact ih (by omega) (by omega)
  have hlast := hsj ops.toList.length (by omega) (Nat.le_refl _)
  -- both ways hand on the same
  have hqq : ∀ k, k < ops.toList.length → qs k = qs' k := by
    intro k hk
    have hko : ops.toList[k]? = some (ops.toList[k]'hk) := List.getElem?_eq_getElem _
    by_cases e : k = js
    · subst e
      rw [((hy k os hjs').2 x hso).1, ((hy' k os hjs').2 x hso)]
    · have hn := honly k _ hko e
      have hd2 := hall k _ hko
      rw [hn] at hd2
      simp only at hd2
      obtain ⟨t, ht⟩ := Option.isSome_iff_exists.1 hd2
      have hdst : dstAt ops.toList k = some t := by unfold dstAt; rw [hko]; exact ht
      have huniq : ∀ i, i ≠ k → dstAt ops.toList i ≠ some t := fun i hi hit => by
        obtain ⟨oi, hoi, hdi⟩ := dstAt_some hit
        exact hR.one i oi k _ t hoi hko hi ht hdi
      have g1 := frameAt_some ops.toList F qs ops.toList.length t k hk hdst huniq
      have g2 := frameAt_some ops.toList F qs' ops.toList.length t k hk hdst huniq
      have hsame' : frameAt F ops.toList qs ops.toList.length = frameAt F ops.toList qs' ops.toList.length := hsame
      rw [← g1, ← g2, hsame']
  have hg := hall js os hjs'
  rw [hso] at hg
  simp only [Bool.and_eq_true, Option.isNone_iff_eq_none] at hg
  refine wp_region_any hm ?_
  refine anyS_sound (H0 := H) (H1 := hs (js + 1)) (qs := qs) (F0 := F) hT hR hd hjs' hso hg.1 hg.2 (fun k o hne ho => ⟨((hy k o ho).1 (honly k o ho hne)).1, ?_⟩) ((hy js os hjs').2 x hso).2 (fun a' w' hst' => ⟨_, _, ?_, hst'⟩) ops.size (Array.replicate ops.size false) F a _ ⟨by simp, ?_, fun t _ => rfl, ?_⟩ ?_ (Nat.le_trans (List.length_filter_le _ _) (by simp))
  · have h2 := (hy' k o ho).1 (honly k o ho hne)
    have hk : k < ops.toList.length := (List.getElem?_eq_some_iff.1 ho).1
    rw [hlast] at h2
    rw [hqq k hk, frameAt_congr ops.toList F qs qs' k (by omega) fun j hj => hqq j (by omega)]
    exact h2
  · intro j t _ hl
    rcases Nat.lt_or_ge j ops.size with hj | hj
    · simp [hj] at hl
    · simp [hj] at hl
  · intro j oj _ hl
    rcases Nat.lt_or_ge j ops.size with hj | hj
    · simp [hj] at hl
    · simp [hj] at hl
  · have e : heapOf js H (hs (js + 1)) (Array.replicate ops.size false) = H := by
      unfold heapOf
      have : (Array.replicate ops.size false).getD js false = false := by
        have hjl : js < ops.size := by simpa using hjlt
        simp [hjl]
      rw [this]; rfl
    rw [e]
    exact hst.drawn
  · rw [← hlast]; exact hq
end
end Go.PV

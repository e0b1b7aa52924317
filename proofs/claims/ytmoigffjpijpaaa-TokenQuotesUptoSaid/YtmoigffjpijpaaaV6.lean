/- Pure values, part 6: fields, structs, conversions; all the operations that only read, in one theorem. -/
import Derived.Test.YtmoigffjpijpaaaV5
import Derived.Laws.BytesString
set_option linter.unusedVariables false
set_option linter.unusedSimpArgs false
namespace Go.PV
open Go Go.RowKit

section
variable {P : Program} {w : World} {ow : Nat → Prop} {loc : Locs} {n : Nat} {tt : Tab} {rows : Nat → Option Row}

theorem refs_ptr {r i j : Nat} (h : Refs n (.ptr r i j)) : r < n := by cases h; assumption
theorem refs_sl {r off len : Nat} {full : Bool} (h : Refs n (.sl r off len full)) : r < n := by cases h; assumption
theorem refs_agg {l : List PV} (h : Refs n (.agg l)) : ∀ i, i < l.length → Refs n (l.getD i .undef) := by cases h; assumption
theorem refs_tup {l : List PV} (h : Refs n (.tup l)) : ∀ i, i < l.length → Refs n (l.getD i .undef) := by cases h; assumption

theorem refs_cells {p : PV} (hk : known p = true) (h : Refs n p) : ∀ i, i < (cellsOf p).length → Refs n ((cellsOf p).getD i .undef) := by
  cases p with
  | agg l => exact refs_agg h
  | tup => simp [known] at hk
  | undef => simp [known] at hk
  | _ =>
    all_goals
      intro j hj
      have : j = 0 := by simpa [cellsOf] using hj
      subst this
      exact h

theorem sizeT_info {t : TypeId} (h : sizeT P t ≠ 0) : (∃ d, P.underlying t = some d) ∧ ∃ i, P.info? t = some i ∧ i.size = sizeT P t := by
  unfold sizeT at h ⊢
  cases hu : P.underlying t with
  | none => rw [hu] at h; simp at h
  | some d =>
    rw [hu] at h
    simp only [Option.isSome_some, cond_true] at h ⊢
    refine ⟨⟨d, rfl⟩, ?_⟩
    unfold Program.cellsOf at h ⊢
    cases hi : P.info? t with
    | none => rw [hi] at h; simp at h
    | some i => exact ⟨i, rfl, by simp⟩

theorem field_of {t : TypeId} {ti : TI} (ht : TIOk P t ti) {fs : List (Nat × Nat × Bool)} (hd : ti.desc = .struct fs) {f off sz : Nat} {ag : Bool} (hf : fs[f]? = some (off, sz, ag)) :
    ∃ fields fl, P.underlying t = some (.struct fields) ∧ fields[f]? = some fl ∧ fl.offset = off ∧ sizeT P fl.type = sz ∧ isAggT P fl.type = ag := by
  obtain ⟨fields, hu, he⟩ := ht.under_struct hd
  subst he
  rw [List.getElem?_map] at hf
  cases hfl : fields.toList[f]? with
  | none => rw [hfl] at hf; simp at hf
  | some fl =>
    rw [hfl] at hf
    simp only [Option.map_some, Option.some.injEq, Prod.mk.injEq] at hf
    exact ⟨fields, fl, hu, by rwa [Array.getElem?_toList] at hfl, hf.1, hf.2.1, hf.2.2⟩

theorem fieldAddr_sound {s : TypeId} {ti : TI} (ht : TIOk P s ti) {fs : List (Nat × Nat × Bool)} (hd : ti.desc = .struct fs) {f off sz : Nat} {ag : Bool} (hf : fs[f]? = some (off, sz, ag)) (hsz : sz ≠ 0)
    {p : PV} {v : Value} {K : PV → Prop} (hp : RV w ow loc p v) (hr : Refs n p) (h : fieldAddrW off p K) :
    Yld P w ow loc n (Instr.fieldAt s v f) K := by
  obtain ⟨fields, fl, hu, hfl, ho, hs, _⟩ := field_of ht hd hf
  obtain ⟨_, i, hi, his⟩ := sizeT_info (P := P) (t := fl.type) (by rw [hs]; exact hsz)
  have run : ∀ a : Addr, (Instr.fieldAt s (.pointer (some a)) f).run P w = .ok (.pointer (some (a.add off))) w := fun a => by
    have hne : ¬ sizeT P fl.type = 0 := by rw [hs]; exact hsz
    simp [Instr.fieldAt, run_underlying hu, hfl, Instr.sureAddr, fieldPlace, sizeOf, typeInfo, hi, his, hne, ho]
  cases p <;> try exact h.elim
  · rename_i r i' j
    cases hp with
    | data _ _ hd => cases hd
    | dangp _ _ _ a hl =>
      refine ⟨_, h, _, run a, ?_, ?_⟩
      · exact .dangp _ _ _ _ hl
      · exact .ptr _ _ _ (refs_ptr hr)
    | ptr _ _ _ L hl =>
      refine ⟨_, h, _, run _, ?_, ?_⟩
      · rw [cell_off, Nat.add_assoc]; exact .ptr _ _ _ L hl
      · exact .ptr _ _ _ (refs_ptr hr)
  · rename_i q j
    cases hp with
    | data _ _ hd => cases hd
    | rptr _ _ b o us hob hm h1 hdd h0 =>
      refine ⟨_, h, _, run _, ?_, .rptr _ _⟩
      rw [cell_off, Nat.add_assoc]; exact .rptr q (j + off) b o us hob hm h1 hdd h0

theorem run_isAggT {t : TypeId} {d : TypeDesc} (hu : P.underlying t = some d) : (isAgg t).run P w = .ok (isAggT P t) w := by
  cases d <;> simp [isAgg, run_underlying hu, isAggT, hu]

theorem part_agg {l : List PV} {vs : Array Value} (hl : l.length = vs.size) (h1 : ∀ u ∈ vs.toList, u.oneCell' = true) (hd : ∀ i, i < l.length → RV w ow loc (l.getD i .undef) (vs.getD i undef)) {off sz : Nat} (hle : off + sz ≤ l.length) :
    RV w ow loc (.agg ((l.drop off).take sz)) (.agg (vs.extract off (off + sz))) := by
  have hlen : ((l.drop off).take sz).length = sz := by simp; omega
  refine .agg _ _ ?_ ?_ ?_
  · rw [hlen, Array.size_extract]; omega
  · intro u hu
    refine h1 u ?_
    rw [Array.toList_extract, List.extract_eq_take_drop] at hu
    exact List.mem_of_mem_drop (List.mem_of_mem_take hu)
  · intro i hi
    rw [hlen] at hi
    have e1 : ((l.drop off).take sz).getD i .undef = l.getD (off + i) .undef := by simp [List.getD, hi]
    have e2 : (vs.extract off (off + sz)).getD i undef = vs.getD (off + i) undef := by
      rw [Array.getD_eq_getD_getElem?, Array.getD_eq_getD_getElem?, Array.getElem?_extract, if_pos (by omega)]
    rw [e1, e2]; exact hd _ (by omega)

theorem field_sound {s : TypeId} {ti : TI} (ht : TIOk P s ti) {fs : List (Nat × Nat × Bool)} (hd : ti.desc = .struct fs) {f off sz : Nat} {ag : Bool} (hf : fs[f]? = some (off, sz, ag)) (hsz : sz ≠ 0)
    {l : List PV} {v : Value} {K : PV → Prop} (hp : RV w ow loc (.agg l) v) (hr : Refs n (.agg l)) (h : partW ag sz l off K) : Yld P w ow loc n (Instr.field s v f) K := by
  obtain ⟨fields, fl, hu, hfl, ho, hs, ha⟩ := field_of ht hd hf
  obtain ⟨⟨d, hdu⟩, i, hi, his⟩ := sizeT_info (P := P) (t := fl.type) (by rw [hs]; exact hsz)
  obtain ⟨vs, rfl, hl, h1, hv⟩ := rv_agg hp
  have hrl : ∀ i, i < l.length → Refs n (l.getD i .undef) := by cases hr with | agg _ h => exact h
  cases ag with
  | true =>
    obtain ⟨hle, hk⟩ := h
    refine ⟨_, hk, _, ?_, part_agg hl h1 hv hle, .agg _ fun i hi => ?_⟩
    · simp [Instr.field, run_underlying hu, hfl, asAgg, part, run_isAggT hdu, ha, ho, sizeOf, typeInfo, hi, his, hs]
    · have hlen : ((l.drop off).take sz).length = sz := by simp; omega
      rw [hlen] at hi
      have e1 : ((l.drop off).take sz).getD i .undef = l.getD (off + i) .undef := by simp [List.getD, hi]
      rw [e1]; exact hrl _ (by omega)
  | false =>
    obtain ⟨hlt, hk⟩ := h
    have hlt' : off < vs.size := hl ▸ hlt
    refine ⟨_, hk, vs.getD off undef, ?_, hv _ hlt, hrl _ hlt⟩
    simp [Instr.field, run_underlying hu, hfl, asAgg, part, run_isAggT hdu, ha, ho, hlt', Array.getD]

-- structs built
theorem run_mapM_list {α β : Type} (f : α → Sem β) (g : α → β) : ∀ (l : List α), (∀ x ∈ l, (f x).run P w = .ok (g x) w) → (l.mapM f).run P w = .ok (l.map g) w
  | [], _ => by simp
  | x :: l, h => by
    have := run_mapM_list f g l fun y hy => h y (by simp [hy])
    simp [List.mapM_cons, h x (by simp), this]

theorem setL_length (l : List PV) (off : Nat) (cs : List PV) : (setL l off cs).length = l.length := by
  induction cs generalizing l off with
  | nil => rfl
  | cons c cs ih => simp [setL, ih]

theorem fill_cells {l : List PV} {vs : Array Value} (hl : l.length = vs.size) (h1 : ∀ i, i < vs.size → (vs.getD i undef).oneCell' = true) (hd : ∀ i, i < l.length → RV w ow loc (l.getD i .undef) (vs.getD i undef)) (hr : ∀ i, i < l.length → Refs n (l.getD i .undef)) :
    ∀ (cs : List PV) (us : List Value) (k off : Nat), cs.length = us.length → off + k + cs.length ≤ l.length → (∀ i, i < cs.length → RV w ow loc (cs.getD i .undef) (us.getD i undef) ∧ (us.getD i undef).oneCell' = true ∧ Refs n (cs.getD i .undef)) →
      ∃ vs', (us.zipIdx k).foldl (fun (a : Array Value) (x : Value × Nat) => a.setIfInBounds (off + x.2) x.1) vs = vs' ∧ (setL l (off + k) cs).length = vs'.size ∧ (∀ i, i < vs'.size → (vs'.getD i undef).oneCell' = true) ∧
        (∀ i, i < l.length → RV w ow loc ((setL l (off + k) cs).getD i .undef) (vs'.getD i undef)) ∧ ∀ i, i < l.length → Refs n ((setL l (off + k) cs).getD i .undef) := by
  intro cs
  induction cs generalizing l vs with
  | nil =>
    intro us k off hlen _ _
    have : us = [] := List.eq_nil_of_length_eq_zero hlen.symm
    subst this
    exact ⟨vs, rfl, hl, h1, hd, hr⟩
  | cons c cs ih =>
    intro us k off hlen hle hc
    cases us with
    | nil => simp at hlen
    | cons u us =>
      have hc0 := hc 0 (by simp)
      simp only [List.getD_cons_zero] at hc0
      have hlt : off + k < l.length := by simp at hle; omega
      have hget : ∀ i, (l.set (off + k) c).getD i .undef = if off + k = i then c else l.getD i .undef := fun i => by
        simp only [List.getD, List.getElem?_set]
        by_cases hi : off + k = i
        · subst hi; simp [hlt]
        · simp [hi]
      have hgetv : ∀ i, (vs.setIfInBounds (off + k) u).getD i undef = if off + k = i then u else vs.getD i undef := fun i => by
        simp only [Array.getD_eq_getD_getElem?, Array.getElem?_setIfInBounds]
        by_cases hi : off + k = i
        · subst hi; simp [← hl, hlt]
        · simp [hi]
      obtain ⟨vs', e, h⟩ := ih (l := l.set (off + k) c) (vs := vs.setIfInBounds (off + k) u) (by simp [hl])
        (fun i hi => by rw [hgetv]; split; exact hc0.2.1; exact h1 i (by simpa using hi))
        (fun i hi => by rw [hget, hgetv]; split; exact hc0.1; exact hd i (by simpa using hi))
        (fun i hi => by rw [hget]; split; exact hc0.2.2; exact hr i (by simpa using hi))
        us (k + 1) off (by simpa using hlen) (by simp at hle ⊢; omega) (fun i hi => by have := hc (i + 1) (by simpa using hi); simpa using this)
      refine ⟨vs', ?_, ?_⟩
      · simpa [List.zipIdx_cons] using e
      · rw [List.length_set] at h
        exact h

theorem fill_sound {place : Nat → Option (Nat × Nat)} {fs : List (Nat × Nat × Bool)} (hpl : ∀ i off sz ag, fs[i]? = some (off, sz, ag) → place i = some (off, sz)) :
    ∀ (parts : List (Nat × PV)) (vals : List (Nat × Value)) (l : List PV) (vs : Array Value) (K : List PV → Prop),
      parts.length = vals.length → (∀ i, i < parts.length → (parts.getD i (0, .undef)).1 = (vals.getD i (0, undef)).1 ∧ RV w ow loc (parts.getD i (0, .undef)).2 (vals.getD i (0, undef)).2 ∧ Refs n (parts.getD i (0, .undef)).2) →
      l.length = vs.size → (∀ i, i < vs.size → (vs.getD i undef).oneCell' = true) → (∀ i, i < l.length → RV w ow loc (l.getD i .undef) (vs.getD i undef)) → (∀ i, i < l.length → Refs n (l.getD i .undef)) → fillW fs l K parts →
      ∃ l' vs', K l' ∧ Instr.fill place vs vals = some vs' ∧ l'.length = vs'.size ∧ (∀ i, i < vs'.size → (vs'.getD i undef).oneCell' = true) ∧ (∀ i, i < l'.length → RV w ow loc (l'.getD i .undef) (vs'.getD i undef)) ∧ ∀ i, i < l'.length → Refs n (l'.getD i .undef) := by
  intro parts
  induction parts with
  | nil =>
    intro vals l vs K hlen _ hl h1 hd hr h
    have : vals = [] := List.eq_nil_of_length_eq_zero hlen.symm
    subst this
    exact ⟨l, vs, h, rfl, hl, h1, hd, hr⟩
  | cons x parts ih =>
    intro vals l vs K hlen hv hl h1 hd hr h
    cases vals with
    | nil => simp at hlen
    | cons y vals =>
      obtain ⟨i, p⟩ := x
      obtain ⟨i', v⟩ := y
      have h0 := hv 0 (by simp)
      simp only [List.getD_cons_zero] at h0
      obtain ⟨rfl, hpv, hpr⟩ := h0
      simp only [fillW] at h
      cases hf : fs[i]? with
      | none => rw [hf] at h; exact h.elim
      | some y =>
        obtain ⟨off, sz, ag⟩ := y
        rw [hf] at h
        obtain ⟨hk, hsz, hle, h⟩ := h
        obtain ⟨hcl, hcc⟩ := rv_cells hpv hk
        have hrc := refs_cells hk hpr
        obtain ⟨vs', e, e1, e2, e3, e4⟩ := fill_cells (n := n) hl h1 hd hr (cellsOf p) v.cells.toList 0 off (by simpa using hcl) (by omega) (fun j hj => by
          have := hcc j hj
          refine ⟨?_, ?_, hrc j hj⟩
          · have e : v.cells.toList.getD j undef = v.cells.getD j undef := by rw [Array.getD_eq_getD_getElem?, ← Array.getElem?_toList]; rfl
            rw [e]; exact this.1
          · have e : v.cells.toList.getD j undef = v.cells.getD j undef := by rw [Array.getD_eq_getD_getElem?, ← Array.getElem?_toList]; rfl
            rw [e]; exact this.2)
        have hlen' := setL_length l (off + 0) (cellsOf p)
        obtain ⟨l', vs'', hK, hfill, rest⟩ := ih vals (setL l (off + 0) (cellsOf p)) vs' K (by simpa using hlen) (fun j hj => by have := hv (j + 1) (by simpa using hj); simpa using this) e1 e2
          (fun j hj => e3 j (by omega)) (fun j hj => e4 j (by omega)) h
        refine ⟨l', vs'', hK, ?_, rest⟩
        have e' : v.cells.zipIdx.foldl (fun cs (x : Value × Nat) => cs.setIfInBounds (off + x.2) x.1) vs = vs' := by
          rw [← Array.foldl_toList]
          simpa using e
        have hc1 : ¬ (v.cells.size ≠ sz) := by simp; omega
        have hc2 : ¬ (vs.size < off + v.cells.size) := by omega
        simp only [Instr.fill, hpl i off sz ag hf]
        have hcond : (decide (v.cells.size ≠ sz) || decide (off + v.cells.size > vs.size)) = false := by simp; omega
        simp only [hcond, Bool.false_eq_true, if_false]
        rw [← hfill]
        congr 1

theorem build_sound {t : TypeId} {ti : TI} (ht : TIOk P t ti) {fs : List (Nat × Nat × Bool)} (hd : ti.desc = .struct fs) {zl : List PV} (hz : toPV ti.z = .agg zl) (hall : fs.all (fun f => f.2.1 != 0) = true)
    {parts : List (Nat × PV)} {vals : Array (Nat × Value)} {K : PV → Prop} (hlen : parts.length = vals.toList.length)
    (hv : ∀ i, i < parts.length → (parts.getD i (0, .undef)).1 = (vals.toList.getD i (0, undef)).1 ∧ RV w ow loc (parts.getD i (0, .undef)).2 (vals.toList.getD i (0, undef)).2 ∧ Refs n (parts.getD i (0, .undef)).2)
    (h : fillW fs zl (fun l => K (.agg l)) parts) : Yld P w ow loc n (Instr.build t vals) K := by
  obtain ⟨fields, hu, he⟩ := ht.under_struct hd
  obtain ⟨i, hi, hzz, hs, hb⟩ := ht.info
  have hzv : RV w ow loc (toPV ti.z) ti.z := .data _ _ (toPV_ok w ow _)
  rw [hz] at hzv
  obtain ⟨vs, hze, hl, h1, hdv⟩ := rv_agg hzv
  have hzr : ∀ i, i < zl.length → Refs n (zl.getD i .undef) := by
    have := toPV_refs n ti.z
    rw [hz] at this
    cases this with | agg _ h => exact h
  have hplaces : (fields.mapM (fun (f : Field) => (Prod.mk f.offset <$> sizeOf f.type : Sem (Nat × Nat)))).run P w = .ok (fields.map fun f => (f.offset, sizeT P f.type)) w := by
    have hl' := run_mapM_list (P := P) (w := w) (fun f : Field => (Prod.mk f.offset <$> sizeOf f.type : Sem (Nat × Nat))) (fun f => (f.offset, sizeT P f.type)) fields.toList (fun f hf => by
      have hne : sizeT P f.type ≠ 0 := by
        rw [← he, List.all_map, List.all_eq_true] at hall
        simpa using hall f hf
      obtain ⟨_, i, hi, his⟩ := sizeT_info hne
      simp [sizeOf, typeInfo, hi, his])
    rw [Array.mapM_eq_mapM_toList]
    simp only [Sem.run_map, hl', Result.andThen_ok]
    congr 1
    exact Array.ext' (by simp)
  obtain ⟨l', vs', hK, hfill, hl2, h12, hd2, hr2⟩ := fill_sound (w := w) (ow := ow) (loc := loc) (n := n) (place := fun x => Option.map (fun f : Field => (f.offset, sizeT P f.type)) fields[x]?) (fs := fs) (fun j off sz ag hf => by
      rw [← he, List.getElem?_map] at hf
      cases hfl : fields.toList[j]? with
      | none => rw [hfl] at hf; simp at hf
      | some fl =>
        rw [hfl] at hf
        simp only [Option.map_some, Option.some.injEq, Prod.mk.injEq] at hf
        rw [Array.getElem?_toList] at hfl
        simp [hfl, hf.1, hf.2.1]) parts vals.toList zl vs _ hlen hv hl
    (fun j hj => h1 _ (by simp [Array.getD, hj])) hdv hzr h
  refine ⟨_, hK, .agg vs', ?_, .agg _ _ hl2 ?_ hd2, .agg _ hr2⟩
  · simp [Instr.build, zeroValue, typeInfo, hi, hzz, hze, Value.cells, run_underlying hu, hplaces, hfill]
  · intro u hu
    obtain ⟨j, hj, rfl⟩ := List.getElem_of_mem hu
    have := h12 j (by simpa using hj)
    simp only [Array.length_toList] at hj
    simpa [Array.getD, hj] using this

-- conversions
theorem bytesI_strOf (l : List Int) : bytesI (strOfNums l) = l.map byteOf := by
  unfold bytesI strOfNums byteOf
  simp only [List.map_map]
  apply List.map_congr_left
  intro n _
  simp

theorem conv_bytes {src dst e : TypeId} (hs : P.underlying src = some (.slice e)) (he : P.underlying e = some (.int .u8)) (hd : P.underlying dst = some .string) (a : Option Addr) (b o cap : Nat) (l : List Int)
    (hm : ∀ i, i < l.length → w.cell? ⟨b, o + i, none⟩ = some (.int .u8 (l.getD i 0))) (ha : l ≠ [] → a = some ⟨b, o, none⟩) (hn : a = none → cap = 0) :
    (convert src dst (.slice a l.length cap)).run P w = .ok (.string (strOfNums l)) w := by
  cases l with
  | nil =>
    cases a with
    | none =>
      obtain rfl := hn rfl
      exact run_convert_bytes_nil w src e hs he 0 0 dst hd
    | some a =>
      rw [run_convert_bytes_string w src dst e _ _ cap hs he hd]
      exact run_bytesToString w a 0 cap [] (by simp [loadCells, loadCellsFrom])
  | cons x l =>
    obtain rfl := ha (by simp)
    exact run_convert_bytes_arg w src e hs he b o _ cap (x :: l) rfl hm dst hd

theorem strOf_sound {src dst e : TypeId} (hs : P.underlying src = some (.slice e)) (he : P.underlying e = some (.int .u8)) (hd : P.underlying dst = some .string) (hrows : RowsOk w ow loc n rows) {p : PV} {v : Value} {K : PV → Prop}
    (hp : RV w ow loc p v) (h : strOf rows p K) : Yld P w ow loc n (convert src dst v) K := by
  unfold strOf at h
  split at h
  · rename_i k l
    obtain ⟨rfl, hk⟩ := h
    obtain ⟨a, cap, rfl, hc, hn, hl⟩ := rv_ints hp
    refine .pure hk ?_ (.str _ _ (bytesI_strOf l)) (.str _)
    by_cases hne : l = []
    · subst hne
      exact conv_bytes (w := w) hs he hd a 0 0 cap [] (fun i hi => by simp at hi) (fun h => absurd rfl h) (fun h => (hn h).2)
    · obtain ⟨b, o, rfl, _, hm⟩ := hl hne
      exact conv_bytes hs he hd _ b o cap l hm (fun _ => rfl) (fun h => by cases h)
  · obtain rfl := rv_nil hp
    refine .pure h ?_ (.str _ _ (bytesI_strOf [])) (.str _)
    exact conv_bytes (w := w) hs he hd none 0 0 0 [] (fun i hi => by simp at hi) (fun h => absurd rfl h) (fun _ => rfl)
  · rename_i r off len full
    cases hrw : rows r with
    | none => rw [hrw] at h; exact h.elim
    | some row =>
      rw [hrw] at h
      cases row with
      | list => exact h.elim
      | var => exact h.elim
      | ints k l =>
        obtain ⟨rfl, hle, hk⟩ := h
        obtain ⟨L', hL', hat⟩ := hrows.at_ r _ hrw
        have hlen : ((l.drop off).take len).length = len := by simp; omega
        refine .pure hk ?_ (.str _ _ (bytesI_strOf _)) (.str _)
        cases hp with
        | data _ _ hd => cases hd
        | dang _ _ _ _ a m c hl => exact absurd hl (hrows.ne hrw)
        | slnil _ _ hl =>
          rw [hL'] at hl; injection hl with hl; subst hl
          have : l = [] := hat
          subst this
          exact conv_bytes (w := w) hs he hd none 0 0 0 [] (fun i hi => by simp at hi) (fun h => absurd rfl h) (fun _ => rfl)
        | sl _ _ _ _ L a c hl hlc hc hf ha =>
          rw [hL'] at hl; injection hl with hl; subst hl
          obtain ⟨cur, el, fr, hb, hsz, hfr, hs1, hlc', hcell⟩ := hat
          have := conv_bytes (w := w) hs he hd (some a) L.b (L.o + off * L.sz) c ((l.drop off).take len) ?_ ?_ (fun h => by cases h)
          · rwa [hlen] at this
          · intro i hi
            rw [hlen] at hi
            rw [cell_of_row' hb, hs1, Nat.mul_one, Nat.add_assoc, hcell _ (by omega)]
            simp [List.getD, hi]
          · intro hne
            rw [ha.resolve_left (by rintro rfl; exact hne (by rw [← List.length_eq_zero_iff, hlen]; omega))]
  · exact h.elim

theorem conv_sound (hT : TabOk P tt) (hrows : RowsOk w ow loc n rows) {src dst : TypeId} {p : PV} {v : Value} {K : PV → Prop} (hp : RV w ow loc p v) (h : convW tt rows src dst p K) :
    Yld P w ow loc n (convert src dst v) K := by
  unfold convW at h
  cases hs : tt src with
  | none => rw [hs] at h; exact h.elim
  | some s =>
    cases hdd : tt dst with
    | none => rw [hs, hdd] at h; exact h.elim
    | some d =>
      rw [hs, hdd] at h
      simp only at h
      obtain ⟨sd, hsu, hsd⟩ := (hT _ _ hs).ex
      have hstr : d.desc = .str → (match s.desc with
          | .slice e => match tt e with
            | some te => match te.desc with
              | .int .u8 => strOf rows p K
              | _ => False
            | none => False
          | _ => False) → Yld P w ow loc n (convert src dst v) K := by
        intro hd h
        split at h
        · rename_i e he
          cases hte : tt e with
          | none => rw [hte] at h; exact h.elim
          | some te =>
            rw [hte] at h
            simp only at h
            split at h
            · rename_i hu8
              exact strOf_sound ((hT _ _ hs).under_slice he) ((hT _ _ hte).under_int hu8) ((hT _ _ hdd).under_str hd) hrows hp h
            · exact h.elim
        · exact h.elim
      cases hd : d.desc <;> rw [hd] at h <;> try exact h.elim
      case int k' =>
        cases p <;> try exact h.elim
        rename_i k m
        obtain rfl := rv_int hp
        refine .pure h ?_ (.int _ _) (.int _ _)
        simp [convert, run_underlying hsu, run_underlying ((hT _ _ hdd).under_int hd), Conv.intToInt]
      case str =>
        cases p <;> try exact hstr hd h
        rename_i l
        obtain ⟨x, rfl, rfl⟩ := rv_str hp
        refine .pure h.2 ?_ (.str _ _ rfl) (.str _)
        have hns := h.1
        rw [← hsd] at hns
        cases sd <;> simp [convert, run_underlying hsu, run_underlying ((hT _ _ hdd).under_str hd)]
end
end Go.PV

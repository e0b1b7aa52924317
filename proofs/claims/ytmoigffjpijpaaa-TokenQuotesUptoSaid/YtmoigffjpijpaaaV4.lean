/- Pure values, part 4: the operations that only read, continued. -/
import Derived.Test.YtmoigffjpijpaaaV3
namespace Go.PV
open Go Go.RowKit

section
variable {P : Program} {w : World} {ow : Nat → Prop} {loc : Locs} {n : Nat} {tt : Tab} {rows : Nat → Option Row}

theorem un_sound {op : UnOp} {p : PV} {v : Value} {K : PV → Prop} (hp : RV w ow loc p v) (h : unW op p K) : Yld P w ow loc n (Op.unary op v) K := by
  cases op <;> simp only [unW] at h <;> (try exact h.elim) <;> split at h <;> try exact h.elim
  · obtain rfl := rv_int hp
    exact .pure h (by simp [Op.unary, Op.intArith]) (.int _ _) (.int _ _)
  · obtain rfl := rv_int hp
    refine .pure h ?_ (.int _ _) (.int _ _)
    simp [Op.unary, Op.intBits, ibits]
  · obtain rfl := rv_bool hp
    exact .pure h (by simp [Op.unary]) (.bool _) (.bool _)

/-- What a slice value looks like: its places and its length. -/
theorem rv_ints {k : IntKind} {l : List Int} {v : Value} (h : RV w ow loc (.ints k l) v) :
    ∃ a cap, v = .slice a l.length cap ∧ l.length ≤ cap ∧ (a = none → l = [] ∧ cap = 0) ∧
      (l ≠ [] → ∃ b o, a = some ⟨b, o, none⟩ ∧ ¬ ow b ∧ ∀ i, i < l.length → w.cell? ⟨b, o + i, none⟩ = some (.int k (l.getD i 0))) := by
  cases h with
  | data _ _ h =>
    cases h with
    | intsNil => exact ⟨none, 0, rfl, Nat.le_refl _, fun _ => ⟨rfl, rfl⟩, fun h => absurd rfl h⟩
    | intsE _ a cap => exact ⟨some a, cap, rfl, Nat.zero_le _, (fun h => by cases h), fun h => absurd rfl h⟩
    | ints _ _ m b o cap hn hc ho hm => subst hn; exact ⟨_, cap, rfl, hc, (fun h => by cases h), fun _ => ⟨b, o, rfl, ho, hm⟩⟩

theorem rv_list {sz : Nat} {l : List PV} {v : Value} (h : RV w ow loc (.list sz l) v) :
    ∃ a cap, v = .slice a l.length cap ∧ l.length ≤ cap ∧ (a = none → l = [] ∧ cap = 0) ∧
      (l ≠ [] → 0 < sz ∧ ∃ (b o : Nat) (us : Nat → Nat → Value), a = some ⟨b, o, none⟩ ∧ ¬ ow b ∧ (∀ i, i < l.length → (cellsOf (l.getD i .undef)).length = sz) ∧
        (∀ i j, i < l.length → j < sz → w.cell? ⟨b, o + (i * sz + j), none⟩ = some (us i j)) ∧ (∀ i j, i < l.length → j < sz → (us i j).oneCell' = true) ∧
        ∀ i j, i < l.length → j < sz → RD w ow ((cellsOf (l.getD i .undef)).getD j .undef) (us i j)) := by
  cases h with
  | data _ _ h =>
    cases h with
    | listNil => exact ⟨none, 0, rfl, Nat.le_refl _, fun _ => ⟨rfl, rfl⟩, fun h => absurd rfl h⟩
    | listE _ a cap => exact ⟨some a, cap, rfl, Nat.zero_le _, (fun h => by cases h), fun h => absurd rfl h⟩
    | list _ _ m b o cap us hn hc ho hsz hz hm h1 hd => subst hn; exact ⟨_, cap, rfl, hc, (fun h => by cases h), fun _ => ⟨hsz, b, o, us, rfl, ho, hz, hm, h1, hd⟩⟩

theorem rv_sl {r off len : Nat} {full : Bool} {v : Value} (h : RV w ow loc (.sl r off len full) v) : ∃ a m c, v = .slice a m c ∧ (loc r ≠ none → m = len) := by
  cases h with
  | data _ _ h => cases h
  | dang _ _ _ _ a m c h => exact ⟨a, m, c, rfl, fun h' => absurd h h'⟩
  | slnil _ _ h => exact ⟨none, 0, 0, rfl, fun _ => rfl⟩
  | sl _ _ _ _ L a c h => exact ⟨some a, len, c, rfl, fun _ => rfl⟩

theorem len_sound {t ty : TypeId} {ti : TI} (ht : TIOk P t ti) {p : PV} {v : Value} {K : PV → Prop} (hrow : ∀ r row, rows r = some row → loc r ≠ none) (hp : RV w ow loc p v) (h : lenW rows ti.desc p K) :
    Yld P w ow loc n (Builtin.len_ #[t] ty #[v]) K := by
  unfold lenW at h
  split at h
  · rename_i hd; obtain ⟨s, rfl, rfl⟩ := rv_str hp
    refine .pure h ?_ (.int _ _) (.int _ _)
    simp [Builtin.len_, run_underlying (ht.under_str hd), goInt, bytesI_length]
  · rename_i hd; obtain ⟨a, cap, rfl, _⟩ := rv_ints hp
    refine .pure h ?_ (.int _ _) (.int _ _)
    simp [Builtin.len_, run_underlying (ht.under_slice hd), goInt]
  · rename_i hd; obtain ⟨a, cap, rfl, _⟩ := rv_list hp
    refine .pure h ?_ (.int _ _) (.int _ _)
    simp [Builtin.len_, run_underlying (ht.under_slice hd), goInt]
  · rename_i hd; obtain rfl := rv_nil hp
    refine .pure h ?_ (.int _ _) (.int _ _)
    simp [Builtin.len_, run_underlying (ht.under_slice hd), goInt]
  · rename_i hd; obtain ⟨a, m, c, rfl, hm⟩ := rv_sl hp
    obtain ⟨row, hr⟩ := Option.isSome_iff_exists.1 h.1
    obtain rfl := hm (hrow _ _ hr)
    refine .pure h.2 ?_ (.int _ _) (.int _ _)
    simp [Builtin.len_, run_underlying (ht.under_slice hd), goInt]
  · exact h.elim

theorem cell_off (b o j : Nat) : (⟨b, o, none⟩ : Addr).add j = ⟨b, o + j, none⟩ := Addr.add_lit b o j

/-- A load of a row's cells: each of them, or one. -/
theorem load_cells {t : TypeId} {ti : TI} (ht : TIOk P t ti) (ho : isOther ti.desc = false) (b o : Nat) {ps : List PV} (us : Nat → Value) {K : PV → Prop} (agg : Bool) (hag : isStruct ti.desc = agg)
    (hm : ∀ i, i < ps.length → w.cell? ⟨b, o + i, none⟩ = some (us i)) (h1 : ∀ i, i < ps.length → (us i).oneCell' = true)
    (hv : ∀ i, i < ps.length → RV w ow loc (ps.getD i .undef) (us i)) (hr : ∀ i, i < ps.length → Refs n (ps.getD i .undef)) (j : Nat)
    (h : partW agg ti.size ps j K) :
    Yld P w ow loc n (Instr.loadAt t (.pointer (some ⟨b, o + j, none⟩))) K := by
  obtain ⟨i, hi, hz, hs, hb⟩ := ht.info
  cases agg with
  | false =>
    obtain ⟨hj, hk⟩ := h
    refine ⟨_, hk, us j, ?_, hv j hj, hr j hj⟩
    simp [Instr.loadAt, Instr.sureAddr, loadVar, ht.run_agg ho, hag, hm j hj]
  | true =>
    obtain ⟨hj, hk⟩ := h
    have hl : (loadCells ⟨b, o + j, none⟩ ti.size).run P w = .ok ((List.range ti.size).map fun k => us (j + k)).toArray w :=
      run_loadCells w _ _ _ fun k hk => by rw [cell_off, Nat.add_assoc]; exact hm _ (by omega)
    have hlen : ((ps.drop j).take ti.size).length = ti.size := by simp; omega
    have hget : ∀ k, k < ti.size → ((ps.drop j).take ti.size).getD k .undef = ps.getD (j + k) .undef := fun k hk => by
      simp [List.getD, hk]
    have hval : ∀ k, k < ti.size → (((List.range ti.size).map fun k => us (j + k)).toArray).getD k undef = us (j + k) := fun k hk => by
      simp [Array.getD, hk]
    refine ⟨_, hk, .agg ((List.range ti.size).map fun k => us (j + k)).toArray, ?_, .agg _ _ (by simp; omega) ?_ ?_, .agg _ ?_⟩
    · simp [Instr.loadAt, Instr.sureAddr, loadVar, ht.run_agg ho, hag, sizeOf, typeInfo, hi, hs, hl]
    · intro u hu
      simp at hu
      obtain ⟨k, hk, rfl⟩ := hu
      exact h1 _ (by omega)
    · intro k hk
      rw [hlen] at hk
      rw [hget k hk, hval k hk]
      exact hv _ (by omega)
    · intro k hk
      rw [hlen] at hk
      rw [hget k hk]
      exact hr _ (by omega)

theorem rd_refs {p : PV} {v : Value} (h : RD w ow p v) : Refs n p := by
  induction h with
  | agg l vs hl h1 hd ih => exact .agg l ih
  | tup l vs hl hd ih => exact .tup l ih
  | _ => constructor

theorem rd_cells {p : PV} {v : Value} (h : RD w ow p v) : ∀ i, i < (cellsOf p).length → Refs n ((cellsOf p).getD i .undef) := by
  intro i hi
  cases h with
  | agg l vs hl h1 hd => exact rd_refs (hd i hi)
  | _ =>
    all_goals
      have : i = 0 := by simpa [cellsOf] using hi
      subst this
      first | exact .undef | exact .int _ _ | exact .bool _ | exact .str _ | exact .nil | exact .nilptr | exact .ints _ _ | exact .list _ _ | (rename_i h; exact rd_refs (.tup _ _ ‹_› h))

structure RowsOk (w : World) (ow : Nat → Prop) (loc : Locs) (n : Nat) (rows : Nat → Option Row) : Prop where
  at_ : ∀ r row, rows r = some row → ∃ L, loc r = some L ∧ RowAt w ow loc L row
  refs : ∀ r l, rows r = some (.var l) → ∀ j, j < l.length → Refs n (l.getD j .undef)

theorem cell_of_row' {b : Nat} {cur : Array Value} {e : TypeId} {fr : Nat × Nat} (h : w.heap[b]? = some (.cells cur e fr)) (j : Nat) : w.cell? ⟨b, j, none⟩ = cur[j]? := cell_of_row w b j cur e fr h

theorem load_sound {t : TypeId} {ti : TI} (ht : TIOk P t ti) (ho : isOther ti.desc = false) (hrows : RowsOk w ow loc n rows) {p : PV} {v : Value} {K : PV → Prop} (hp : RV w ow loc p v)
    (h : loadW rows (isStruct ti.desc) ti.size p K) : Yld P w ow loc n (Instr.loadAt t v) K := by
  unfold loadW at h
  split at h
  · rename_i q j
    cases hp with
    | data _ _ hd => cases hd
    | rptr _ _ b o us hob hm h1 hd h0 =>
      exact load_cells ht ho b o us _ rfl hm h1 (fun i hi => .data _ _ (hd i hi)) (fun i hi => rd_refs (hd i hi)) j h
  · rename_i r i j
    cases hrw : rows r with
    | none => rw [hrw] at h; exact h.elim
    | some row =>
      rw [hrw] at h
      obtain ⟨L, hL, hat⟩ := hrows.at_ r row hrw
      cases hp with
      | data _ _ hd => cases hd
      | dangp _ _ _ a hl => rw [hl] at hL; cases hL
      | ptr _ _ _ L' hl' =>
        rw [hL] at hl'
        injection hl' with hl'
        subst hl'
        obtain ⟨cur, el, fr, hb, hsz, hfr, hin⟩ := hat
        cases row with
        | ints k l =>
          revert h
          cases hag : isStruct ti.desc with
          | true => exact fun h => h.elim
          | false =>
            rintro ⟨⟨hi, rfl⟩, hk⟩
            obtain ⟨hs1, hlc, hc⟩ := hin
            refine load_cells (ps := [.int k (l.getD i 0)]) ht ho L'.b (L'.o + i * L'.sz) (fun _ => .int k (l.getD i 0)) false hag ?_ (fun _ _ => rfl) ?_ ?_ 0 ⟨by simp, hk⟩
            · intro m hm
              have : m = 0 := by simpa using hm
              subst this
              rw [cell_of_row' hb, hs1, Nat.mul_one, Nat.add_zero]; exact hc i hi
            · intro m hm
              have : m = 0 := by simpa using hm
              subst this
              exact .data _ _ (.int _ _)
            · intro m hm
              have : m = 0 := by simpa using hm
              subst this
              exact .int _ _
        | list sz l =>
          obtain ⟨hs1, hpos, hlc, hc⟩ := hin
          obtain ⟨hi, hrest⟩ := h
          obtain ⟨hz, hcc⟩ := hc i hi
          refine load_cells ht ho L'.b (L'.o + i * L'.sz) (fun m => cur.getD (L'.o + (i * sz + m)) undef) _ rfl ?_ ?_ ?_ ?_ j hrest
          all_goals
            intro m hm
            obtain ⟨u, hu, hu1, hu2⟩ := hcc m (by omega)
            have hg : cur.getD (L'.o + (i * sz + m)) undef = u := by
              rw [Array.getD_eq_getD_getElem?, hu]; rfl
          · rw [cell_of_row' hb, hs1, Nat.add_assoc, hu, hg]
          · rw [hg]; exact hu1
          · rw [hg]; exact .data _ _ hu2
          · exact rd_refs hu2
        | var l =>
          obtain ⟨hs1, hcap, hc⟩ := hin
          obtain ⟨rfl, hrest⟩ := h
          rw [Nat.zero_mul, Nat.add_zero]
          refine load_cells ht ho L'.b L'.o (fun m => cur.getD (L'.o + m) undef) _ rfl ?_ ?_ ?_ (hrows.refs r l hrw) j hrest
          all_goals
            intro m hm
            obtain ⟨u, hu, hu1, hu2⟩ := hc m hm
            have hg : cur.getD (L'.o + m) undef = u := by
              rw [Array.getD_eq_getD_getElem?, hu]; rfl
          · rw [cell_of_row' hb, hu, hg]
          · rw [hg]; exact hu1
          · rw [hg]; exact hu2
  · exact h.elim
end
end Go.PV

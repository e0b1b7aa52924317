/- Pure values, part 11: new rows: variables, make, literals, bytes of a string. -/
import Derived.Test.YtmoigffjpijpaaaV10
set_option linter.unusedVariables false
set_option linter.unusedSimpArgs false
namespace Go.PV
open Go Go.RowKit

section
variable {P : Program} {w w' : World} {ow ow' : Nat → Prop} {loc loc' : Locs} {n nt : Nat} {E : Entry} {H : Heap} {F : Frame} {a : Act} {tt : Tab}

/-- What a step that makes a row comes to. -/
def Made (P : Program) (E : Entry) (H : Heap) (ow : Nat → Prop) (loc : Locs) (w : World) (s : Sem Value) (K : PV → Heap → Prop) : Prop :=
  ∃ q row, K q (H.new row) ∧ ∃ cv w' L, s.run P w = .ok cv w' ∧ HS E (H.new row) (fun b => ow b ∨ b = L.b) (locNew loc H.nx (some L)) w' ∧ Stable ow w w' ∧ w.heap.size ≤ L.b ∧
    RV w' (fun b => ow b ∨ b = L.b) (locNew loc H.nx (some L)) q cv ∧ Refs (H.nx + 1) q

theorem alloc_at (w : World) (cs : Array Value) (e : TypeId) (i : Nat) : (w.alloc (.cells cs e)).heap[w.heap.size]? = some (.cells cs e) := heap_alloc_new w _

theorem unfrozen_zero (n : Nat) : unfrozen (0, 0) n := fun i _ h => by omega

/-- A new block with these cells. -/
theorem made_of (hs : HS E H ow loc w) {s : Sem Value} {K : PV → Heap → Prop} {q : PV} {row : Row} {cv : Value} {w' : World} {cs : Array Value} {e : TypeId} {cap sz : Nat} {fr : Nat × Nat}
    (hk : K q (H.new row)) (hrun : s.run P w = .ok cv w') (hc : Chg w w' w.heap.size) (hsz' : w'.heap.size = w.heap.size + 1) (hb : w'.heap[w.heap.size]? = some (.cells cs e fr)) (hfr : unfrozen fr cs.size) (hsz : cs.size = cap * sz)
    (hin : RowIn w' (fun b => ow b ∨ b = w.heap.size) (locNew loc H.nx (some ⟨w.heap.size, 0, cap, sz⟩)) ⟨w.heap.size, 0, cap, sz⟩ cs row)
    (hrf : ∀ l, row = .var l → ∀ j, j < l.length → Refs (H.nx + 1) (l.getD j .undef))
    (hq : RV w' (fun b => ow b ∨ b = w.heap.size) (locNew loc H.nx (some ⟨w.heap.size, 0, cap, sz⟩)) q cv) (hr : Refs (H.nx + 1) q) : Made P E H ow loc w s K := by
  refine ⟨q, row, hk, cv, w', ⟨w.heap.size, 0, cap, sz⟩, hrun, ?_, Stable.of_chg_new hc (Nat.le_refl _) ow, Nat.le_refl _, hq, hr⟩
  exact hs.new hc (Nat.le_refl _) (by show w.heap.size < _; omega) ⟨cs, e, fr, hb, by simpa using hsz, hfr, hin⟩ hrf

theorem var_sound (hs : HS E H ow loc w) {elem : TypeId} {p : PV} {v : Value} {K : PV → Heap → Prop} (hp : RV w ow loc p v) (hr : Refs H.nx p) (hk : known p = true) (h : K (.ptr H.nx 0 0) (H.new (.var (cellsOf p)))) :
    Made P E H ow loc w (do pure (.pointer (some (← newVar elem v)))) K := by
  obtain ⟨hcl, hcc⟩ := rv_cells hp hk
  have hrc := refs_cells hk hr
  have hc := Chg.of_alloc w (.cells v.cells elem) w.heap.size
  have hst : Stable ow w (w.alloc (.cells v.cells elem)) := Stable.of_chg_new hc (Nat.le_refl _) ow
  have hL : locNew loc H.nx (some ⟨w.heap.size, 0, 1, v.cells.size⟩) H.nx = some (some ⟨w.heap.size, 0, 1, v.cells.size⟩) := by simp [locNew]
  refine made_of hs (cap := 1) (sz := v.cells.size) (fr := (0, 0)) (cs := v.cells) (e := elem) h (cv := .pointer (some ⟨w.heap.size, 0, none⟩)) (w' := w.alloc (.cells v.cells elem)) ?_ hc (by simp) (heap_alloc_new w _) (unfrozen_zero _) (by simp) ?_ ?_ ?_ ?_
  · simp [newVar, newRow]
  · refine ⟨hcl.symm, rfl, fun j hj => ?_⟩
    obtain ⟨h1, h2⟩ := hcc j hj
    have hj' : j < v.cells.size := hcl ▸ hj
    refine ⟨v.cells.getD j undef, ?_, h2, ?_⟩
    · simp [Array.getD, hj']
    · exact h1.newLoc hst (fun b hb h => h.elim id (fun e => by omega)) (fun r hr => .inl (by simp [locNew, Nat.ne_of_lt hr])) (hrc j hj)
  · intro l e j hj
    injection e with e
    subst e
    exact (hrc j hj).mono (by omega)
  · have := RV.ptr (w := w.alloc (.cells v.cells elem)) (ow := fun b => ow b ∨ b = w.heap.size) H.nx 0 0 _ hL
    simpa using this
  · exact .ptr _ _ _ (by omega)

/-- make([]T, n, m), as the proofs see it. -/
def makeW (tt : Tab) (t : TypeId) (p q : PV) (H : Heap) (K : PV → Heap → Prop) : Prop :=
  match tt t with
  | some ti => match ti.desc with
    | .slice e => match tt e, p, q with
      | some te, .int _ n, .int _ m => (0 ≤ n ∧ n ≤ m ∧ (te.bytes : Int) * m ≤ 281474976710656 ∧ m ≤ 9223372036854775807) ∧
        (match te.desc, te.z with
        | .int k, .int k' z => k = k' ∧ K (.sl H.nx 0 n.toNat true) (H.new (.ints k (List.replicate n.toNat z)))
        | _, _ => 0 < te.size ∧ known (toPV te.z) = true ∧ K (.sl H.nx 0 n.toNat true) (H.new (.list te.size (List.replicate n.toNat (toPV te.z)))))
      | _, _, _ => False
    | _ => False
  | none => False

theorem madeCells_get (z : Array Value) (n i : Nat) (h : i < n) (hz : 0 < z.size) : (madeCells z n)[i]? = some (z.getD (i % z.size) undef) := by
  have hlt : i % z.size < z.size := Nat.mod_lt _ hz
  simp [madeCells, h, Array.getD, hlt]

theorem make_sound (hT : TabOk P tt) (hs : HS E H ow loc w) {t : TypeId} {p q : PV} {u v : Value} {K : PV → Heap → Prop} (hp : RV w ow loc p u) (hq : RV w ow loc q v) (h : makeW tt t p q H K) :
    Made P E H ow loc w (Instr.makeSlice t u v) K := by
  unfold makeW at h
  cases hti : tt t with
  | none => rw [hti] at h; exact h.elim
  | some ti =>
    rw [hti] at h
    simp only at h
    split at h
    · rename_i e hd
      cases hte : tt e with
      | none => rw [hte] at h; exact h.elim
      | some te =>
        rw [hte] at h
        cases p <;> try exact h.elim
        rename_i k1 m1
        cases q <;> try exact h.elim
        rename_i k2 m2
        obtain rfl := rv_int hp
        obtain rfl := rv_int hq
        obtain ⟨⟨h0, h1, h2, h3⟩, h⟩ := h
        have ht := hT _ _ hti
        have hte' := hT _ _ hte
        obtain ⟨i, hi, hz, his, hby⟩ := hte'.info
        have hrun := run_make (P := P) w t e i te.z (ht.under_slice hd) hi hz k1 k2 m1 m2 h0 h1 (by rw [hby]; exact h2) h3
        have hc := Chg.of_alloc w (.cells (madeCells te.z.cells (m2.toNat * i.size)) e) w.heap.size
        have hst : Stable ow w (w.alloc (.cells (madeCells te.z.cells (m2.toNat * i.size)) e)) := Stable.of_chg_new hc (Nat.le_refl _) ow
        have hzs : te.z.cells.size = te.size := hte'.s
        have fin : ∀ row, RowIn (w.alloc (.cells (madeCells te.z.cells (m2.toNat * i.size)) e)) (fun b => ow b ∨ b = w.heap.size) (locNew loc H.nx (some ⟨w.heap.size, 0, m2.toNat, i.size⟩)) ⟨w.heap.size, 0, m2.toNat, i.size⟩ (madeCells te.z.cells (m2.toNat * i.size)) row →
            (∀ l, row = .var l → False) → K (.sl H.nx 0 m1.toNat true) (H.new row) → Made P E H ow loc w (Instr.makeSlice t (.int k1 m1) (.int k2 m2)) K := by
          intro row hin hnv hK
          have hL : locNew loc H.nx (some ⟨w.heap.size, 0, m2.toNat, i.size⟩) H.nx = some (some ⟨w.heap.size, 0, m2.toNat, i.size⟩) := by simp [locNew]
          refine made_of hs (cap := m2.toNat) (sz := i.size) (fr := (0, 0)) hK hrun hc (by simp) (heap_alloc_new w _) (unfrozen_zero _) (size_madeCells _ _) hin (fun l e => (hnv l e).elim) ?_ (.sl _ _ _ _ (by omega))
          exact .sl _ _ _ _ _ _ _ hL (by omega) (by simp) (fun _ => by simp) (.inr (by simp))
        split at h
        · rename_i k k' z hdd hzz
          obtain ⟨rfl, hK⟩ := h
          have hcz : te.z.cells = #[.int k z] := by rw [hzz]; rfl
          have hone : i.size = 1 := by rw [his, ← hzs, hcz]; rfl
          refine fin (.ints k (List.replicate m1.toNat z)) ⟨hone, by simp only [List.length_replicate]; omega, fun j hj => ?_⟩ (fun l e => by cases e) hK
          simp only [List.length_replicate] at hj
          rw [hcz, hone, Nat.mul_one, Nat.zero_add, madeCells_get _ _ _ (by omega) (by simp)]
          simp [hj, Nat.mod_one]
        · obtain ⟨hpos, hkn, hK⟩ := h
          have hzv : RV w ow loc (toPV te.z) te.z := .data _ _ (toPV_ok w ow _)
          obtain ⟨hcl, hcc⟩ := rv_cells hzv hkn
          refine fin (.list te.size (List.replicate m1.toNat (toPV te.z))) ⟨his, hpos, by simp only [List.length_replicate]; omega, fun x hx => ?_⟩ (fun l e => by cases e) hK
          simp only [List.length_replicate] at hx
          have e1 : (List.replicate m1.toNat (toPV te.z)).getD x .undef = toPV te.z := by simp [List.getD, hx]
          rw [e1]
          refine ⟨hcl.trans hzs, fun j hj => ?_⟩
          have hidx : x * te.size + j < m2.toNat * i.size := by
            rw [his]
            have : (x + 1) * te.size ≤ m2.toNat * te.size := Nat.mul_le_mul_right _ (by omega)
            rw [Nat.add_mul, Nat.one_mul] at this
            omega
          have hmod : (x * te.size + j) % te.z.cells.size = j := by
            rw [hzs, Nat.add_comm, Nat.add_mul_mod_self_right, Nat.mod_eq_of_lt hj]
          refine ⟨te.z.cells.getD j undef, ?_, ?_, ?_⟩
          · rw [Nat.zero_add, madeCells_get _ _ _ hidx (by rw [hzs]; exact hpos), hmod]
          · exact (hcc j (by rw [hcl, hzs]; exact hj)).2
          · exact (rd_of0' (toPV_ok _ _ _) hkn j (by rw [hcl, hzs]; exact hj))
    · exact h.elim
end
end Go.PV

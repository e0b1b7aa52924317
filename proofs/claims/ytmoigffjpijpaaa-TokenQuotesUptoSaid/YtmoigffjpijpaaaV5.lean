/- Pure values, part 5: the operations that only read, ended: slices, indices, fields, conversions. -/
import Derived.Test.YtmoigffjpijpaaaV4
namespace Go.PV
open Go Go.RowKit

section
variable {P : Program} {w : World} {ow : Nat → Prop} {loc : Locs} {n : Nat} {tt : Tab} {rows : Nat → Option Row}

theorem RowsOk.ne (h : RowsOk w ow loc n rows) {r : Nat} {row : Row} (hr : rows r = some row) : loc r ≠ none := by
  obtain ⟨L, hL, _⟩ := h.at_ r row hr
  rw [hL]; exact fun h => by cases h

theorem mul_one' (a : Nat) : a * 1 = a := Nat.mul_one a

theorem index_sound {t : TypeId} {ti : TI} (ht : TIOk P t ti) {p q : PV} {v u : Value} {K : PV → Prop} (hp : RV w ow loc p v) (hq : RV w ow loc q u)
    (h : indexW ti.desc p q K) :
    Yld P w ow loc n (Instr.index t v u) K := by
  unfold indexW at h
  split at h
  · rename_i l k m hd
    obtain ⟨s, rfl, rfl⟩ := rv_str hp
    obtain rfl := rv_int hq
    obtain ⟨⟨h0, h1⟩, hk⟩ := h
    rw [bytesI_length] at h1
    have hlt : m.toNat < s.size := by omega
    refine .pure hk ?_ (.int _ _) (.int _ _)
    have e : (bytesI s).getD m.toNat 0 = ((s[m.toNat]'hlt).toNat : Int) := by
      unfold bytesI
      have : m.toNat < s.data.toList.length := by simpa using hlt
      simp only [List.getD, List.getElem?_map, List.getElem?_eq_getElem this]
      rfl
    rw [e]
    simp [Instr.index, asIntOf, run_underlying (ht.under_str hd), h0, hlt]
  · exact h.elim

theorem idx_sound {t el : TypeId} {ti te : TI} (ht : TIOk P t ti) (hd : ti.desc = .slice el) (hte : TIOk P el te) (hrows : RowsOk w ow loc n rows) {p q : PV} {v u : Value} {K : PV → Prop}
    (hp : RV w ow loc p v) (hrp : Refs n p) (hq : RV w ow loc q u) (h : idxW rows te.size p q K) : Yld P w ow loc n (Instr.indexAt t v u) K := by
  obtain ⟨i, hi, hz, hs, hb⟩ := hte.info
  unfold idxW at h
  split at h
  · rename_i k l k' m
    obtain rfl := rv_int hq
    obtain ⟨hsz, ⟨h0, h1⟩, hk⟩ := h
    obtain ⟨a, cap, rfl, hc, hn, hl⟩ := rv_ints hp
    obtain ⟨b, o, rfl, hob, hm⟩ := hl (by intro e; rw [e] at h1; simp at h1; omega)
    refine ⟨_, hk, .pointer (some ⟨b, o + m.toNat, none⟩), ?_, ?_, .rptr _ _⟩
    · simp [Instr.indexAt, asIntOf, run_underlying (ht.under_slice hd), h0, h1, sizeOf, typeInfo, hi, hs, hsz, cell_off]
    · refine .rptr _ 0 b (o + m.toNat) (fun _ => .int k (l.getD m.toNat 0)) hob ?_ (fun _ _ => rfl) ?_ (by simp [cellsOf])
      · intro j hj
        have : j = 0 := by simpa [cellsOf] using hj
        subst this
        exact hm _ (by omega)
      · intro j hj
        have : j = 0 := by simpa [cellsOf] using hj
        subst this
        exact .int _ _
  · rename_i sz l k' m
    obtain rfl := rv_int hq
    obtain ⟨hsz, ⟨h0, h1⟩, hk⟩ := h
    obtain ⟨a, cap, rfl, hc, hn, hl⟩ := rv_list hp
    obtain ⟨hpos, b, o, us, rfl, hob, hzz, hm, h1c, hdd⟩ := hl (by intro e; rw [e] at h1; simp at h1; omega)
    refine ⟨_, hk, .pointer (some ⟨b, o + m.toNat * sz, none⟩), ?_, ?_, .rptr _ _⟩
    · simp [Instr.indexAt, asIntOf, run_underlying (ht.under_slice hd), h0, h1, sizeOf, typeInfo, hi, hs, hsz, cell_off]
    · have hlt : m.toNat < l.length := by omega
      refine .rptr _ 0 b (o + m.toNat * sz) (us m.toNat) hob ?_ ?_ ?_ (by rw [hzz _ hlt]; exact hpos)
      · intro j hj
        rw [hzz _ hlt] at hj
        rw [Nat.add_assoc]; exact hm _ _ hlt hj
      · intro j hj
        rw [hzz _ hlt] at hj
        exact h1c _ _ hlt hj
      · intro j hj
        rw [hzz _ hlt] at hj
        exact hdd _ _ hlt hj
  · rename_i r off len full k' m
    obtain rfl := rv_int hq
    obtain ⟨hpos, hsz, ⟨h0, h1⟩, hk⟩ := h
    cases hrw : rows r with
    | none => rw [hrw] at hsz; simp [rowSz] at hsz; omega
    | some row =>
      rw [hrw] at hsz
      have hne := hrows.ne hrw
      obtain ⟨L', hL', hat⟩ := hrows.at_ r row hrw
      cases hp with
      | data _ _ hd => cases hd
      | dang _ _ _ _ a m c hl => exact absurd hl hne
      | slnil => simp at h1; omega
      | sl _ _ _ _ L a c hl hlc hc hf ha =>
        rw [hL'] at hl
        injection hl with hl
        subst hl
        have hc0 : c ≠ 0 := by omega
        obtain rfl := ha.resolve_left hc0
        have hLsz : L.sz = te.size := by
          obtain ⟨cur, e, fr, _, _, _, hin⟩ := hat
          cases row <;> simp only [rowSz] at hsz <;> rw [hsz] <;> exact hin.1
        refine ⟨_, hk, .pointer (some ⟨L.b, L.o + off * L.sz + m.toNat * te.size, none⟩), ?_, ?_, ?_⟩
        · simp [Instr.indexAt, asIntOf, run_underlying (ht.under_slice hd), h0, h1, sizeOf, typeInfo, hi, hs, cell_off]
        · have := RV.ptr (w := w) (ow := ow) (loc := loc) r (off + m.toNat) 0 L hL'
          rw [← hLsz]
          rwa [Nat.add_zero, Nat.add_mul, ← Nat.add_assoc] at this
        · cases hrp with | sl _ _ _ _ h => exact .ptr _ _ _ h
  · exact h.elim

inductive OI : Option PV → Option Value → Int → Int → Prop
  | none (d : Int) : OI none none d d
  | some (k : IntKind) (x d : Int) : OI (some (.int k x)) (some (.int k x)) d x

/-- An operand that may be left out. -/
def OV (w : World) (ow : Nat → Prop) (loc : Locs) (p : Option PV) (v : Option Value) : Prop :=
  (p = none ∧ v = none) ∨ ∃ q u, p = some q ∧ v = some u ∧ RV w ow loc q u

theorem optI_elim {p : Option PV} {v : Option Value} {d : Int} {K : Int → Prop} (hv : OV w ow loc p v) (h : optI p d K) : ∃ x, OI p v d x ∧ K x := by
  rcases hv with ⟨rfl, rfl⟩ | ⟨q, u, rfl, rfl, hu⟩
  · exact ⟨d, .none d, h⟩
  · cases q <;> try exact h.elim
    obtain rfl := rv_int hu
    exact ⟨_, .some _ _ d, h⟩

theorem bounds_none {len cap : Nat} {lo hi : Option PV} {vlo vhi : Option Value} {a b : Int} (ha : OI lo vlo 0 a) (hb : OI hi vhi len b) (isSlice : Bool) (h0 : 0 ≤ a) (h1 : a ≤ b) (h2 : b ≤ cap) :
    (Instr.sliceBounds isSlice len cap vlo vhi none).run P w = .ok (a.toNat, b.toNat, cap) w := by
  have h0b : 0 ≤ b := by omega
  have e1 : a ≤ max b 0 := by omega
  cases ha <;> cases hb <;> simp [Instr.sliceBounds, Instr.sliceBound, asIntOf, *]

theorem bounds_max {len cap : Nat} {lo hi : Option PV} {vlo vhi : Option Value} {a b m : Int} {k : IntKind} (ha : OI lo vlo 0 a) (hb : OI hi vhi len b) (hs : hi.isSome = true) (isSlice : Bool) (h0 : 0 ≤ a) (h1 : a ≤ b) (h2 : b ≤ m) (h3 : m ≤ cap) :
    (Instr.sliceBounds isSlice len cap vlo vhi (some (.int k m))).run P w = .ok (a.toNat, b.toNat, m.toNat) w := by
  have h0b : 0 ≤ b := by omega
  have h0m : 0 ≤ m := by omega
  have e1 : a ≤ max b 0 := by omega
  have e2 : b ≤ max m 0 := by omega
  cases hb with
  | none => simp at hs
  | some => cases ha <;> simp [Instr.sliceBounds, Instr.sliceBound, asIntOf, *]

theorem cutL_eq {α : Type} {l : List α} {lo hi : Option PV} {vlo vhi : Option Value} {a b : Int} (ha : OI lo vlo 0 a) (hb : OI hi vhi l.length b) : cutL l lo hi = (l.take b.toNat).drop a.toNat := by
  cases ha <;> cases hb <;> simp [cutL]

theorem getD_cut {α : Type} (l : List α) (a b i : Nat) (d : α) (hi : a + i < b) : ((l.take b).drop a).getD i d = l.getD (a + i) d := by
  simp [List.getD, hi]

theorem bytesI_extract (s : ByteArray) (a b : Nat) : bytesI (s.extract a b) = ((bytesI s).take b).drop a := by
  unfold bytesI
  rw [← List.map_take, ← List.map_drop]
  congr 1
  rw [ByteArray.data_extract, Array.toList_extract]
  first | rfl | (rw [List.extract_eq_take_drop, List.drop_take])

theorem slice_sound {t : TypeId} {ti : TI} (hT : TabOk P tt) (ht : TIOk P t ti) (hrows : RowsOk w ow loc n rows) {p : PV} {v : Value} {lo hi mx : Option PV} {vlo vhi vmx : Option Value} {K : PV → Prop}
    (hp : RV w ow loc p v) (hrp : Refs n p) (hlo : OV w ow loc lo vlo) (hhi : OV w ow loc hi vhi) (hmx : OV w ow loc mx vmx) (h : sliceW rows ti.desc (elemSize tt ti.desc) p lo hi mx K) :
    Yld P w ow loc n (Instr.sliceAt t v vlo vhi vmx) K := by
  have elem : ∀ e, ti.desc = .slice e → 0 < elemSize tt ti.desc → ∃ i, P.info? e = some i ∧ i.size = elemSize tt ti.desc := by
    intro e he h0
    rw [he] at h0 ⊢
    cases hte : tt e with
    | none => simp [elemSize, hte] at h0
    | some te =>
      obtain ⟨i, hi, _, hs, _⟩ := (hT e te hte).info
      exact ⟨i, hi, by simp [elemSize, hte, hs]⟩
  cases hd : ti.desc <;> cases p <;> rw [hd] at h <;> try exact h.elim
  case str.str l =>
    obtain ⟨s, rfl, rfl⟩ := rv_str hp
    obtain ⟨hm, h⟩ := h
    rcases hmx with ⟨rfl, rfl⟩ | ⟨q, u, rfl, rfl, hu⟩
    · obtain ⟨a, ha, h⟩ := optI_elim hlo h
      obtain ⟨b, hb, h⟩ := optI_elim hhi h
      obtain ⟨⟨h0, h1, h2⟩, hk⟩ := h
      rw [cutL_eq ha hb] at hk
      rw [bytesI_length] at hb h2
      refine .pure hk ?_ (.str _ _ (bytesI_extract s _ _)) (.str _)
      simp [Instr.sliceAt, Instr.slice, run_underlying (ht.under_str hd), bounds_none ha hb false h0 h1 h2]
    · simp at hm
  case slice.ints e k l =>
    obtain ⟨hes, h⟩ := h
    rw [← hd] at hes
    obtain ⟨i, hinf, his⟩ := elem e hd (by omega)
    obtain ⟨A, cap, rfl, hlc, hnil, hl⟩ := rv_ints hp
    obtain ⟨a, ha, h⟩ := optI_elim hlo h
    obtain ⟨b, hb, h⟩ := optI_elim hhi h
    have main : ∀ c : Nat, (Instr.sliceBounds true l.length cap vlo vhi vmx).run P w = .ok (a.toNat, b.toNat, c) w → c ≤ cap → 0 ≤ a → a ≤ b → b ≤ c → b ≤ l.length → K (.ints k (cutL l lo hi)) → Yld P w ow loc n (Instr.sliceAt t (.slice A l.length cap) vlo vhi vmx) K := by
      intro c hrun hcc h0 h1 h2 h3 hk
      rw [cutL_eq ha hb] at hk
      have hlen : ((l.take b.toNat).drop a.toNat).length = b.toNat - a.toNat := by simp; omega
      refine ⟨_, hk, .slice (if c = a.toNat then A else A.map (·.add (a.toNat * i.size))) (b.toNat - a.toNat) (c - a.toNat), ?_, .data _ _ ?_, .ints _ _⟩
      · simp [Instr.sliceAt, Instr.slice, run_underlying (ht.under_slice hd), hrun, sizeOf, typeInfo, hinf]
      · have hbc : b.toNat ≤ c := by omega
        by_cases hz : b.toNat - a.toNat = 0
        · have : (l.take b.toNat).drop a.toNat = [] := List.eq_nil_of_length_eq_zero (hlen.trans hz)
          rw [this, hz]
          cases A with
          | none =>
            obtain ⟨rfl, rfl⟩ := hnil rfl
            have hc0 : c - a.toNat = 0 := by omega
            rw [hc0]
            split <;> exact .intsNil k
          | some A => split <;> exact .intsE k _ _
        · obtain ⟨bb, o, rfl, hob, hm⟩ := hl (by rintro rfl; simp at h3; omega)
          rw [if_neg (show ¬ c = a.toNat by omega)]
          simp only [Option.map_some, cell_off]
          refine .ints k _ _ bb _ _ hlen.symm (Nat.sub_le_sub_right hbc _) hob ?_
          intro j hj
          rw [hlen] at hj
          rw [getD_cut _ _ _ _ _ (by omega), his, hes, Nat.mul_one, Nat.add_assoc]
          exact hm _ (by omega)
    rcases hmx with ⟨rfl, rfl⟩ | ⟨q, u, rfl, rfl, hu⟩
    · obtain ⟨⟨h0, h1, h2⟩, hk⟩ := h
      exact main cap (bounds_none ha hb true h0 h1 (by omega)) (Nat.le_refl _) h0 h1 (by omega) h2 hk
    · cases q <;> try exact h.elim
      obtain rfl := rv_int hu
      obtain ⟨hs, ⟨h0, h1, h2, h3⟩, hk⟩ := h
      exact main _ (bounds_max ha hb hs true h0 h1 h2 (by omega)) (by omega) h0 h1 (by omega) (by omega) hk
  case slice.list e sz l =>
    obtain ⟨hpos0, hes, h⟩ := h
    rw [← hd] at hes
    obtain ⟨A, cap, rfl, hlc, hnil, hl⟩ := rv_list hp
    obtain ⟨a, ha, h⟩ := optI_elim hlo h
    obtain ⟨b, hb, h⟩ := optI_elim hhi h
    have main : ∀ c : Nat, (Instr.sliceBounds true l.length cap vlo vhi vmx).run P w = .ok (a.toNat, b.toNat, c) w → c ≤ cap → 0 ≤ a → a ≤ b → b ≤ c → b ≤ l.length → K (.list sz (cutL l lo hi)) → Yld P w ow loc n (Instr.sliceAt t (.slice A l.length cap) vlo vhi vmx) K := by
      intro c hrun hcc h0 h1 h2 h3 hk
      rw [cutL_eq ha hb] at hk
      have hlen : ((l.take b.toNat).drop a.toNat).length = b.toNat - a.toNat := by simp; omega
      obtain ⟨i, hinf, his⟩ := elem e hd (by omega)
      refine ⟨_, hk, .slice (if c = a.toNat then A else A.map (·.add (a.toNat * i.size))) (b.toNat - a.toNat) (c - a.toNat), ?_, .data _ _ ?_, .list _ _⟩
      · simp [Instr.sliceAt, Instr.slice, run_underlying (ht.under_slice hd), hrun, sizeOf, typeInfo, hinf]
      · have hbc : b.toNat ≤ c := by omega
        by_cases hz : b.toNat - a.toNat = 0
        · have : (l.take b.toNat).drop a.toNat = [] := List.eq_nil_of_length_eq_zero (hlen.trans hz)
          rw [this, hz]
          cases A with
          | none =>
            obtain ⟨rfl, rfl⟩ := hnil rfl
            have hc0 : c - a.toNat = 0 := by omega
            rw [hc0]
            split <;> exact .listNil sz
          | some A => split <;> exact .listE sz _ _
        · obtain ⟨hpos, bb, o, us, rfl, hob, hzz, hm, h1c, hdd⟩ := hl (by rintro rfl; simp at h3; omega)
          rw [if_neg (show ¬ c = a.toNat by omega)]
          simp only [Option.map_some, cell_off]
          refine .list sz _ _ bb _ _ (fun x y => us (a.toNat + x) y) hlen.symm (Nat.sub_le_sub_right hbc _) hob hpos ?_ ?_ ?_ ?_
          · intro j hj
            rw [hlen] at hj
            rw [getD_cut _ _ _ _ _ (by omega)]
            exact hzz _ (by omega)
          · intro x y hx hy
            rw [hlen] at hx
            have := hm (a.toNat + x) y (by omega) hy
            rw [his, hes, show o + a.toNat * sz + (x * sz + y) = o + ((a.toNat + x) * sz + y) by rw [Nat.add_mul]; omega]
            exact this
          · intro x y hx hy
            rw [hlen] at hx
            exact h1c _ _ (by omega) hy
          · intro x y hx hy
            rw [hlen] at hx
            rw [getD_cut _ _ _ _ _ (by omega)]
            exact hdd _ _ (by omega) hy
    rcases hmx with ⟨rfl, rfl⟩ | ⟨q, u, rfl, rfl, hu⟩
    · obtain ⟨⟨h0, h1, h2⟩, hk⟩ := h
      exact main cap (bounds_none ha hb true h0 h1 (by omega)) (Nat.le_refl _) h0 h1 (by omega) h2 hk
    · cases q <;> try exact h.elim
      obtain rfl := rv_int hu
      obtain ⟨hs, ⟨h0, h1, h2, h3⟩, hk⟩ := h
      exact main _ (bounds_max ha hb hs true h0 h1 h2 (by omega)) (by omega) h0 h1 (by omega) (by omega) hk
  case slice.nil e =>
    obtain rfl := rv_nil hp
    obtain ⟨hpos, h⟩ := h
    rw [← hd] at hpos
    obtain ⟨i, hinf, his⟩ := elem e hd hpos
    obtain ⟨a, ha, h⟩ := optI_elim hlo h
    obtain ⟨b, hb, h⟩ := optI_elim hhi h
    have main : (Instr.sliceBounds true 0 0 vlo vhi vmx).run P w = .ok (0, 0, 0) w → K .nil → Yld P w ow loc n (Instr.sliceAt t (.slice none 0 0) vlo vhi vmx) K := by
      intro hrun hk
      refine .pure hk ?_ .nil .nil
      simp [Instr.sliceAt, Instr.slice, run_underlying (ht.under_slice hd), hrun, sizeOf, typeInfo, hinf]
    rcases hmx with ⟨rfl, rfl⟩ | ⟨q, u, rfl, rfl, hu⟩
    · obtain ⟨⟨h0, h1, h2⟩, hk⟩ := h
      refine main ?_ hk
      have := bounds_none (P := P) (w := w) (len := 0) (cap := 0) ha hb true h0 h1 h2
      rwa [show a.toNat = 0 by omega, show b.toNat = 0 by omega] at this
    · cases q <;> try exact h.elim
      obtain rfl := rv_int hu
      obtain ⟨hs, ⟨h0, h1, h2, h3⟩, hk⟩ := h
      refine main ((bounds_max ha hb hs true h0 h1 h2 h3).trans ?_) hk
      simp; omega
  case slice.sl e r off len full =>
    obtain ⟨hpos, hes, h⟩ := h
    rw [← hd] at hpos hes
    obtain ⟨i, hinf, his⟩ := elem e hd hpos
    cases hrw : rows r with
    | none => rw [hrw] at hes; simp [rowSz] at hes; omega
    | some row =>
      rw [hrw] at hes h
      have hne := hrows.ne hrw
      obtain ⟨L', hL', hat⟩ := hrows.at_ r row hrw
      have hr0 : r < n := by cases hrp with | sl _ _ _ _ h => exact h
      obtain ⟨a, ha, h⟩ := optI_elim hlo h
      obtain ⟨b, hb, h⟩ := optI_elim hhi h
      have hbase : ∃ A cap, v = .slice A len cap ∧ len ≤ cap ∧ (A = none → cap = 0 ∧ L' = none) ∧ (∀ L, L' = some L → off + cap ≤ L.cap ∧ (full = true → off + cap = L.cap) ∧ (cap = 0 ∨ A = some ⟨L.b, L.o + off * L.sz, none⟩)) ∧ (∀ L, L' = some L → A ≠ none) ∧ (L' = none → A = none ∧ off = 0 ∧ len = 0) := by
        cases hp with
        | data _ _ hd => cases hd
        | dang _ _ _ _ _ _ _ hl => exact absurd hl hne
        | slnil _ _ hl =>
          rw [hL'] at hl; injection hl with hl; subst hl
          exact ⟨none, 0, rfl, Nat.le_refl _, fun _ => ⟨rfl, rfl⟩, fun L h => (by cases h), fun L h => (by cases h), fun _ => ⟨rfl, rfl, rfl⟩⟩
        | sl _ _ _ _ L A c hl hlc hc hf hA =>
          rw [hL'] at hl; injection hl with hl; subst hl
          refine ⟨some A, c, rfl, hlc, fun h => (by cases h), fun L2 h => ?_, fun L2 h => (by simp), fun h => (by cases h)⟩
          injection h with h; subst h
          exact ⟨hc, hf, hA.imp id (fun e => by rw [e])⟩
      obtain ⟨A, cap, rfl, hlc, hA0, hA, hA1, hA2⟩ := hbase
      have main : ∀ (c : Nat) (fl : Bool), (Instr.sliceBounds true len cap vlo vhi vmx).run P w = .ok (a.toNat, b.toNat, c) w → 0 ≤ a → a ≤ b → b ≤ c → c ≤ cap → (fl = true → full = true ∧ c = cap) → K (.sl r (off + a.toNat) (b - a).toNat fl) →
          Yld P w ow loc n (Instr.sliceAt t (.slice A len cap) vlo vhi vmx) K := by
        intro c fl hrun h0 h1 h2 h3 hfl hk
        refine ⟨_, hk, .slice (if c = a.toNat then A else A.map (·.add (a.toNat * i.size))) (b.toNat - a.toNat) (c - a.toNat), ?_, ?_, .sl _ _ _ _ hr0⟩
        · simp [Instr.sliceAt, Instr.slice, run_underlying (ht.under_slice hd), hrun, sizeOf, typeInfo, hinf]
        · rw [show (b - a).toNat = b.toNat - a.toNat by omega]
          cases L' with
          | none =>
            obtain ⟨rfl, rfl, rfl⟩ := hA2 rfl
            have hcap := (hA0 rfl).1
            rw [show b.toNat - a.toNat = 0 by omega, show c - a.toNat = 0 by omega, show 0 + a.toNat = 0 by omega]
            split <;> exact .slnil r fl hL'
          | some L =>
            obtain ⟨hcc, hff, hAA⟩ := hA L rfl
            have hLsz : L.sz = i.size := by
              rw [his, hes]
              obtain ⟨cur, e, fr, _, _, _, hin⟩ := hat
              cases row <;> exact hin.1
            cases A with
            | none => exact absurd rfl (hA1 L rfl)
            | some A0 =>
              have fin : ∀ A', (c - a.toNat = 0 ∨ A' = ⟨L.b, L.o + (off + a.toNat) * L.sz, none⟩) → RV w ow loc (.sl r (off + a.toNat) (b.toNat - a.toNat) fl) (.slice (some A') (b.toNat - a.toNat) (c - a.toNat)) := fun A' hA' =>
                .sl r _ _ fl L A' _ hL' (by omega) (by omega) (fun hf => by have := hfl hf; have := hff this.1; omega) hA'
              by_cases hca : c = a.toNat
              · rw [if_pos hca]; exact fin A0 (.inl (by omega))
              · rw [if_neg hca]
                have hcap : cap ≠ 0 := by omega
                have hA0' := hAA.resolve_left hcap
                injection hA0' with hA0'
                subst hA0'
                simp only [Option.map_some, cell_off]
                refine fin _ (.inr ?_)
                rw [← hLsz, Nat.add_mul, Nat.add_assoc]
      rcases hmx with ⟨rfl, rfl⟩ | ⟨q, u, rfl, rfl, hu⟩
      · obtain ⟨⟨h0, h1, h2⟩, hk⟩ := h
        have hbc : b ≤ cap := by
          rcases h2 with h2 | ⟨hf, h2⟩
          · omega
          · cases L' with
            | none =>
              obtain ⟨rfl, rfl, rfl⟩ := hA2 rfl
              cases row <;> simp [RowAt] at hat <;> subst hat <;> simp [rowLen] at h2 <;> omega
            | some L =>
              have h3 := (hA L rfl).2.1 hf
              have : rowLen (some row) ≤ L.cap := by
                obtain ⟨cur, e, fr, _, _, _, hin⟩ := hat
                cases row with
                | ints k l => exact hin.2.1
                | list sz l => exact hin.2.2.1
                | var l => simp only [rowLen]; exact Nat.le_of_eq hin.2.1.symm
              omega
        exact main cap full (bounds_none ha hb true h0 h1 hbc) h0 h1 hbc (Nat.le_refl _) (fun h => ⟨h, rfl⟩) hk
      · cases q <;> try exact h.elim
        obtain rfl := rv_int hu
        obtain ⟨hs, ⟨h0, h1, h2, h3⟩, hk⟩ := h
        exact main _ false (bounds_max ha hb hs true h0 h1 h2 (by omega)) h0 h1 (by omega) (by omega) (fun h => by cases h) hk
end
end Go.PV

/- Pure values, part 14: append, as the proofs see it and as the machine carries it out. -/
import Derived.Test.YtmoigffjpijpaaaV13
set_option linter.unusedVariables false
set_option linter.unusedSimpArgs false
namespace Go.PV
open Go Go.RowKit

section
variable {P : Program} {w w' : World} {ow ow' : Nat → Prop} {loc loc' : Locs} {n nt : Nat} {E : Entry} {H : Heap} {F : Frame} {a : Act} {tt : Tab} {rows : Nat → Option Row}

/-- Where an append's slice lies before it. -/
inductive Base (w : World) (sz : Nat) : Option RowLoc → Nat → Bool → Value → Nat → Nat → Prop
  | nil (off : Nat) (full : Bool) : Base w sz none off full (.slice none 0 0) 0 0
  | at_ (L : RowLoc) (off : Nat) (full : Bool) (A : Addr) (len c : Nat) (hlc : len ≤ c) (hc : off + c ≤ L.cap) (hf : full = true → off + c = L.cap) (ha : c = 0 ∨ A = ⟨L.b, L.o + off * sz, none⟩) (hsz : L.sz = sz) :
      Base w sz (some L) off full (.slice (some A) len c) len c

/-- The cells at a place of a row. -/
structure CellsAt (w : World) (M : RowLoc) (sz k : Nat) (vals : List Value) : Prop where
  szs : M.sz = sz
  lt : M.b < w.heap.size
  cap : k ≤ M.cap
  at_ : ∃ cur e fr, w.heap[M.b]? = some (.cells cur e fr) ∧ cur.size = M.o + M.cap * M.sz ∧ unfrozen fr cur.size ∧ ∀ i, i < k * sz → cur[M.o + i]? = vals[i]?

theorem app_core {t u e : TypeId} {ti te : TI} {d : TypeDesc} (ht : TIOk P t ti) (hd : ti.desc = .slice e) (hte : TIOk P e te) (hu : P.underlying u = some d) (hdi : ∀ k, d ≠ .int k) (hpos : 0 < te.size)
    {Lo : Option RowLoc} {off : Nat} {full : Bool} {s : Value} {len c : Nat} (hb : Base w te.size Lo off full s len c)
    (hblk : ∀ L, Lo = some L → ∃ cur e fr, w.heap[L.b]? = some (.cells cur e fr) ∧ cur.size = L.o + L.cap * L.sz ∧ unfrozen fr cur.size)
    {olds : List Value} (holen : olds.length = len * te.size) (hold : ∀ L, Lo = some L → ∀ cur e fr, w.heap[L.b]? = some (.cells cur e fr) → ∀ i, i < len * te.size → cur[L.o + off * te.size + i]? = olds[i]?)
    {x : Value} {m : Nat} {news : List Value} (hx : Src P w te.size x m news) (h63 : len + m ≤ 9223372036854775807) (hfit : (len + m) * te.bytes ≤ 140737488355328) (ty : TypeId) :
    ∃ cv w' L' b, (Builtin.append_ #[t, u] ty #[s, x]).run P w = .ok cv w' ∧ Chg w w' b ∧ ((∃ L, Lo = some L ∧ b = L.b) ∨ w.heap.size ≤ b) ∧ (L' = none → len + m = 0 ∧ cv = .slice none 0 0 ∧ w' = w) ∧
      ∀ M, L' = some M → (Lo = none → b = M.b) ∧ ((∃ L, Lo = some L ∧ M.b = L.b) ∨ (w.heap.size ≤ M.b)) ∧ CellsAt w' M te.size (len + m) (olds ++ news) ∧
        ∃ a' c', cv = .slice (some a') (len + m) c' ∧ len + m ≤ c' ∧ c' ≤ M.cap ∧ (full = true → c' = M.cap) ∧ (c' = 0 ∨ a' = ⟨M.b, M.o, none⟩) := by
  obtain ⟨i, hi, hz, his, hby⟩ := hte.info
  rw [← his] at hx holen hold
  rw [← hby] at hfit
  have hzc : te.z.cells.size = i.size := by rw [his]; exact hte.s
  -- a new block
  have grow : ∀ (A : Option Addr), (∀ w', w'.heap = w.heap → (Builtin.firstCells i.size len (.slice A len c)).run P w' = .ok olds.toArray w') → c < len + m →
      ∃ cv w' L' b, (Builtin.append_ #[t, u] ty #[.slice A len c, x]).run P w = .ok cv w' ∧ Chg w w' b ∧ ((∃ L, Lo = some L ∧ b = L.b) ∨ w.heap.size ≤ b) ∧ (L' = none → len + m = 0 ∧ cv = .slice none 0 0 ∧ w' = w) ∧
      ∀ M, L' = some M → (Lo = none → b = M.b) ∧ ((∃ L, Lo = some L ∧ M.b = L.b) ∨ (w.heap.size ≤ M.b)) ∧ CellsAt w' M te.size (len + m) (olds ++ news) ∧
        ∃ a' c', cv = .slice (some a') (len + m) c' ∧ len + m ≤ c' ∧ c' ≤ M.cap ∧ (full = true → c' = M.cap) ∧ (c' = 0 ∨ a' = ⟨M.b, M.o, none⟩) := by
    intro A hfirst hg
    have hrun := append_grow (P := P) (ty := ty) (ht.under_slice hd) hu hdi hi hz hx holen hfirst hg h63 hfit
    have hge := grownCap_ge w (len + m) c e
    generalize hcs : (olds.toArray ++ news.toArray ++ Builtin.zeroCells te.z.cells (grownCap w (len + m) c e - (len + m))) = cs at hrun
    have hcsz : cs.size = grownCap w (len + m) c e * i.size := by
      rw [← hcs]
      simp only [Array.size_append, List.size_toArray, size_zeroCells, hzc, holen, hx.size, ← Nat.add_mul]
      congr 1
      omega
    refine ⟨_, _, some ⟨w.heap.size, 0, grownCap w (len + m) c e, te.size⟩, w.heap.size, hrun, Chg.of_drew_alloc w _ _, .inr (Nat.le_refl _), (fun h => by cases h), fun M hM => ?_⟩
    injection hM with hM
    subst hM
    refine ⟨fun _ => rfl, .inr (Nat.le_refl _), ⟨rfl, by simp, hge, cs, e, (0, 0), heap_alloc_new w.drew _, by simp only; rw [hcsz, his]; omega, unfrozen_zero _, fun j hj => ?_⟩, _, _, rfl, hge, Nat.le_refl _, fun _ => rfl, .inr rfl⟩
    rw [← hcs]
    simp only [Nat.zero_add]
    have hl : (olds ++ news).length = (len + m) * te.size := by rw [List.length_append, holen, hx.size, his, Nat.add_mul]
    rw [Array.getElem?_append_left (by simp; rw [← List.length_append, hl]; exact hj)]
    simp
  cases hb with
  | nil off full =>
    by_cases hm : m = 0
    · subst hm
      have hr := append_room (P := P) (ty := ty) (t := t) (ht.under_slice hd) hu hdi hi hx (A := none) (n := 0) (c := 0) (by omega) (fun _ => rfl) (b := 0) (o := 0) (cur := #[]) (fr := (0, 0)) (e' := 0) (fun h => absurd rfl h) (fun h => absurd rfl h) (unfrozen_zero _) (fun h => absurd rfl h)
      exact ⟨_, _, none, w.heap.size, hr, ⟨rfl, rfl, rfl, by simp, fun _ _ _ => by simp⟩, .inr (Nat.le_refl _), fun _ => ⟨rfl, rfl, by simp⟩, fun M hM => by cases hM⟩
    · have hon : olds = [] := List.eq_nil_of_length_eq_zero (by simpa using holen)
      subst hon
      exact grow none (fun w' _ => by simp [Builtin.firstCells]) (by omega)
  | at_ L off full A len c hlc hc hf ha hsz =>
    obtain ⟨cur, e', fr, hbk, hcsz, hfr⟩ := hblk L rfl
    have hole := hold L rfl cur e' fr hbk
    have hlt : L.b < w.heap.size := (Array.getElem?_eq_some_iff.1 hbk).1
    by_cases hroom : len + m ≤ c
    · have hcap : (off + c) * te.size ≤ L.cap * te.size := Nat.mul_le_mul_right _ hc
      have hrm : (len + m) * te.size ≤ c * te.size := Nat.mul_le_mul_right _ hroom
      rw [Nat.add_mul] at hcap hrm
      have hnl : news.length = m * te.size := by rw [hx.size, his]
      have hr := append_room (P := P) (ty := ty) (t := t) (ht.under_slice hd) hu hdi hi hx (A := some A) (n := len) (c := c) hroom (fun h => by cases h) (b := L.b) (o := L.o + off * te.size) (cur := cur) (fr := fr) (e' := e')
        (fun hm => by rw [ha.resolve_left (by omega)]) (fun _ => hbk) hfr (fun _ => by rw [hcsz, hsz, his, hnl]; omega)
      have hLsz : L.o + off * te.size + (L.cap - off) * te.size = L.o + L.cap * L.sz := by
        rw [hsz, Nat.add_assoc, ← Nat.add_mul]; congr 2; omega
      refine ⟨_, _, some ⟨L.b, L.o + off * te.size, L.cap - off, te.size⟩, L.b, hr, ?_, .inl ⟨L, rfl, rfl⟩, (fun h => by cases h), fun M hM => ?_⟩
      · split
        · exact ⟨rfl, rfl, rfl, Nat.le_refl _, fun _ _ _ => rfl⟩
        · exact Chg.of_setRow w L.b _
      · injection hM with hM
        subst hM
        have slice : ∃ a' c', Value.slice (some A) (len + m) c = .slice (some a') (len + m) c' ∧ len + m ≤ c' ∧ c' ≤ L.cap - off ∧ (full = true → c' = L.cap - off) ∧ (c' = 0 ∨ a' = ⟨L.b, L.o + off * te.size, none⟩) :=
          ⟨A, c, rfl, hroom, by omega, fun h => by have := hf h; omega, ha⟩
        by_cases hm : m = 0
        · subst hm
          have hnn : news = [] := List.eq_nil_of_length_eq_zero (by simpa using hnl)
          subst hnn
          rw [if_pos rfl]
          refine ⟨(fun h => by cases h), .inl ⟨L, rfl, rfl⟩, ⟨rfl, hlt, by show len + 0 ≤ L.cap - off; omega, cur, e', fr, hbk, by simp only; omega, hfr, fun j hj => ?_⟩, slice⟩
          simp only [List.append_nil, Nat.add_zero] at hj ⊢
          rw [his] at hole
          exact hole j hj
        · rw [if_neg hm]
          have hle : L.o + off * te.size + len * i.size + news.length ≤ cur.size := by rw [hcsz, hsz, his, hnl]; omega
          refine ⟨(fun h => by cases h), .inl ⟨L, rfl, rfl⟩, ⟨rfl, by simp; exact hlt, by show len + m ≤ L.cap - off; omega, _, e', fr, setRow_heap w L.b cur _ e' fr hbk, ?_, ?_, fun j hj => ?_⟩, slice⟩
          · rw [splice_size cur _ news hle]; simp only; omega
          · rw [splice_size cur _ news hle]; exact hfr
          · rw [splice_get cur _ news hle]
            simp only
            rw [Nat.add_mul] at hj
            by_cases h1 : j < len * te.size
            · rw [if_pos (by rw [his]; omega), List.getElem?_append_left (by rw [holen, his]; exact h1)]
              rw [his] at hole
              exact hole j h1
            · rw [if_neg (by rw [his]; omega), if_pos (by rw [his, hnl]; omega), List.getElem?_append_right (by rw [holen, his]; omega)]
              congr 1
              rw [holen, his]
              omega
    · refine grow (some A) (fun w' hw' => ?_) (by omega)
      have hcell : ∀ j v, olds[j]? = some v → w'.cell? (A.add j) = some v := by
        intro j v hj
        have hjl : j < len * i.size := by
          rw [← holen]
          exact (List.getElem?_eq_some_iff.1 hj).1
        have hlen0 : 0 < len := by
          rcases Nat.eq_zero_or_pos len with h | h
          · rw [h] at hjl; simp at hjl
          · exact h
        rw [ha.resolve_left (by omega), cell_off]
        have : w'.heap[L.b]? = some (.cells cur e' fr) := by rw [hw']; exact hbk
        rw [cell_of_row' this, ← his, hole j hjl, hj]
      exact run_firstCells_some w' i.size len A len c olds holen hcell

/-- What is appended: numbers. -/
def srcI (rows : Nat → Option Row) (k : IntKind) (x : PV) (K : List Int → Prop) : Prop :=
  match x with
  | .ints k' l => k = k' ∧ K l
  | .str l => k = .u8 ∧ K l
  | .nil => K []
  | .sl r off len _ => match rows r with
    | some (.ints k' l) => k = k' ∧ off + len ≤ l.length ∧ K ((l.drop off).take len)
    | _ => False
  | _ => False

def srcL (rows : Nat → Option Row) (sz : Nat) (x : PV) (K : List PV → Prop) : Prop :=
  match x with
  | .list sz' l => sz = sz' ∧ K l
  | .nil => K []
  | .sl r off len _ => match rows r with
    | some (.list sz' l) => sz = sz' ∧ off + len ≤ l.length ∧ K ((l.drop off).take len)
    | _ => False
  | _ => False

theorem src_slice {A : Option Addr} {m c sz : Nat} {news : List Value} (hl : news.length = m * sz) (h1 : ∀ u ∈ news, u.oneCell' = true) (hA : A = none → m = 0) (hc : ∀ a, A = some a → ∀ j u, news[j]? = some u → w.cell? (a.add j) = some u) :
    Src P w sz (.slice A m c) m news := by
  refine ⟨fun w' => by simp [Builtin.lenOf], fun w' hw' k hk => ?_, hl, h1⟩
  cases A with
  | none =>
    obtain rfl := hA rfl
    have : news = [] := List.eq_nil_of_length_eq_zero (by simpa using hl)
    subst this
    obtain rfl : k = 0 := by omega
    simp [Builtin.firstCells]
  | some a =>
    have hlen : (news.take (k * sz)).length = k * sz := by
      rw [List.length_take, hl]
      exact Nat.min_eq_left (Nat.mul_le_mul_right _ hk)
    refine run_firstCells_some w' sz k a m c (news.take (k * sz)) hlen fun j u hj => ?_
    rw [World.cell?_of_block (w := w) (by rw [hw'])]
    refine hc a rfl j u ?_
    rw [List.getElem?_take] at hj
    split at hj
    · exact hj
    · cases hj

theorem getElem?_mapInt (k : IntKind) (l : List Int) (j : Nat) (u : Value) (h : (l.map (Value.int k))[j]? = some u) : j < l.length ∧ u = .int k (l.getD j 0) := by
  rw [List.getElem?_map] at h
  cases hj : l[j]? with
  | none => rw [hj] at h; cases h
  | some x =>
    rw [hj] at h
    injection h with h
    exact ⟨(List.getElem?_eq_some_iff.1 hj).1, by simp [List.getD, hj, ← h]⟩

theorem oneInt (k : IntKind) (l : List Int) : ∀ u ∈ l.map (Value.int k), u.oneCell' = true := by
  intro u hu
  obtain ⟨x, _, rfl⟩ := List.mem_map.1 hu
  rfl

theorem srcI_sound (hrows : RowsOk w ow loc n rows) {k : IntKind} {x : PV} {v : Value} {K : List Int → Prop} (hp : RV w ow loc x v) (h : srcI rows k x K) : ∃ l, K l ∧ Src P w 1 v l.length (l.map (Value.int k)) := by
  unfold srcI at h
  split at h
  · rename_i k' l
    obtain ⟨rfl, hk⟩ := h
    obtain ⟨A, cap, rfl, hc, hn, hl⟩ := rv_ints hp
    refine ⟨l, hk, src_slice (by simp) (oneInt k l) (fun e => by rw [(hn e).1]; rfl) fun a ha j u hj => ?_⟩
    obtain ⟨hjl, rfl⟩ := getElem?_mapInt k l j u hj
    obtain ⟨b, o, he, _, hm⟩ := hl (by rintro rfl; simp at hjl)
    rw [ha] at he; injection he with he; subst he
    rw [cell_off]; exact hm j hjl
  · rename_i l
    obtain ⟨rfl, hk⟩ := h
    obtain ⟨s, rfl, rfl⟩ := rv_str hp
    refine ⟨_, hk, ⟨fun w' => by simp [Builtin.lenOf, bytesI_length], fun w' _ m hm => ?_, by simp, oneInt _ _⟩⟩
    have e : ((s.extract 0 m).data.map fun b => Value.int .u8 b.toNat) = (((bytesI s).map (Value.int .u8)).take (m * 1)).toArray := by
      apply Array.ext'
      have := bytesI_extract s 0 m
      simp only [List.drop_zero] at this
      rw [Nat.mul_one, ← List.map_take, ← this]
      simp [bytesI, List.map_map, Function.comp_def]
    simp only [Builtin.firstCells]
    rw [e]
    rfl
  · obtain rfl := rv_nil hp
    exact ⟨[], h, src_slice (by simp) (by simp) (fun _ => rfl) fun a ha => by cases ha⟩
  · rename_i r off len full
    cases hrw : rows r with
    | none => rw [hrw] at h; exact h.elim
    | some row =>
      rw [hrw] at h
      cases row with
      | list => exact h.elim
      | var => exact h.elim
      | ints k' l =>
        obtain ⟨rfl, hle, hk⟩ := h
        obtain ⟨L', hL', hat⟩ := hrows.at_ r _ hrw
        have hlen : ((l.drop off).take len).length = len := by simp; omega
        refine ⟨_, hk, ?_⟩
        rw [hlen]
        cases hp with
        | data _ _ hd => cases hd
        | dang _ _ _ _ a m c hl => exact absurd hl (hrows.ne hrw)
        | slnil _ _ hl =>
          rw [hL'] at hl; injection hl with hl; subst hl
          have : l = [] := hat
          subst this
          exact src_slice (by simp) (by simp) (fun _ => rfl) fun a ha => by cases ha
        | sl _ _ _ _ L a c hl hlc hc hf ha =>
          rw [hL'] at hl; injection hl with hl; subst hl
          obtain ⟨cur, el, fr, hb, hsz, hfr, hs1, hlc', hcell⟩ := hat
          refine src_slice (by simpa using hlen) (oneInt _ _) (fun e => by cases e) fun a' ha' j u hj => ?_
          injection ha' with ha'
          subst ha'
          obtain ⟨hjl, rfl⟩ := getElem?_mapInt k _ j u hj
          rw [hlen] at hjl
          rw [ha.resolve_left (by omega), cell_off, cell_of_row' hb, hs1, Nat.mul_one, Nat.add_assoc, hcell _ (by omega)]
          simp [List.getD, hjl]
  · exact h.elim

/-- The cells of a list's elements, one behind the other. -/
def Laid (w : World) (ow : Nat → Prop) (sz : Nat) (l : List PV) (vals : List Value) : Prop :=
  vals.length = l.length * sz ∧ ∀ i, i < l.length → (cellsOf (l.getD i .undef)).length = sz ∧ ∀ j, j < sz → ∃ u, vals[i * sz + j]? = some u ∧ u.oneCell' = true ∧ RD w ow ((cellsOf (l.getD i .undef)).getD j .undef) u

theorem Laid.nil (sz : Nat) : Laid w ow sz [] [] := ⟨by simp, fun i hi => by simp at hi⟩

theorem laid_of (sz : Nat) (hpos : 0 < sz) (l : List PV) (us : Nat → Nat → Value) (hz : ∀ i, i < l.length → (cellsOf (l.getD i .undef)).length = sz) (h1 : ∀ i j, i < l.length → j < sz → (us i j).oneCell' = true)
    (hd : ∀ i j, i < l.length → j < sz → RD w ow ((cellsOf (l.getD i .undef)).getD j .undef) (us i j)) :
    ∃ vals, Laid w ow sz l vals ∧ (∀ u ∈ vals, u.oneCell' = true) ∧ ∀ k u, vals[k]? = some u → k / sz < l.length ∧ k % sz < sz ∧ u = us (k / sz) (k % sz) := by
  have hdiv : ∀ k, k < l.length * sz → k / sz < l.length := fun k hk => (Nat.div_lt_iff_lt_mul hpos).2 hk
  refine ⟨(List.range (l.length * sz)).map fun k => us (k / sz) (k % sz), ⟨by simp, fun i hi => ⟨hz i hi, fun j hj => ⟨us i j, ?_, h1 i j hi hj, hd i j hi hj⟩⟩⟩, ?_, ?_⟩
  · have hlt : i * sz + j < l.length * sz := by
      have : (i + 1) * sz ≤ l.length * sz := Nat.mul_le_mul_right _ hi
      rw [Nat.add_mul, Nat.one_mul] at this
      omega
    have e1 : (i * sz + j) / sz = i := by rw [Nat.add_comm, Nat.add_mul_div_right _ _ hpos, Nat.div_eq_of_lt hj, Nat.zero_add]
    have e2 : (i * sz + j) % sz = j := by rw [Nat.add_comm, Nat.add_mul_mod_self_right, Nat.mod_eq_of_lt hj]
    simp [hlt, e1, e2]
  · intro u hu
    obtain ⟨k, hk, rfl⟩ := List.mem_map.1 hu
    exact h1 _ _ (hdiv k (List.mem_range.1 hk)) (Nat.mod_lt _ hpos)
  · intro k u hu
    rw [List.getElem?_map] at hu
    cases hk : (List.range (l.length * sz))[k]? with
    | none => rw [hk] at hu; cases hu
    | some x =>
      rw [hk] at hu
      injection hu with hu
      have hlt := (List.getElem?_eq_some_iff.1 hk).1
      rw [List.length_range] at hlt
      have hx : x = k := by rw [List.getElem?_range hlt] at hk; injection hk with hk; exact hk.symm
      subst hx
      exact ⟨hdiv _ hlt, Nat.mod_lt _ hpos, hu.symm⟩

theorem srcL_sound (hrows : RowsOk w ow loc n rows) {sz : Nat} (hpos : 0 < sz) {x : PV} {v : Value} {K : List PV → Prop} (hp : RV w ow loc x v) (h : srcL rows sz x K) : ∃ l, K l ∧ ∃ news, Src P w sz v l.length news ∧ Laid w ow sz l news := by
  unfold srcL at h
  split at h
  · rename_i sz' l
    obtain ⟨rfl, hk⟩ := h
    obtain ⟨A, cap, rfl, hc, hn, hl⟩ := rv_list hp
    by_cases hne : l = []
    · subst hne
      exact ⟨[], hk, [], src_slice (by simp) (by simp) (fun _ => rfl) (fun a ha j u hj => by simp at hj), Laid.nil sz⟩
    · obtain ⟨_, b, o, us, rfl, _, hz, hm, h1, hd⟩ := hl hne
      obtain ⟨vals, hlaid, hone, hget⟩ := laid_of sz hpos l us hz h1 hd
      refine ⟨l, hk, vals, src_slice hlaid.1 hone (fun e => by cases e) fun a ha j u hj => ?_, hlaid⟩
      injection ha with ha
      subst ha
      obtain ⟨h2, h3, rfl⟩ := hget j u hj
      rw [cell_off, ← hm _ _ h2 h3]
      congr 2
      have := Nat.div_add_mod j sz
      rw [Nat.mul_comm] at this
      omega
  · obtain rfl := rv_nil hp
    exact ⟨[], h, [], src_slice (by simp) (by simp) (fun _ => rfl) (fun a ha => by cases ha), Laid.nil sz⟩
  · rename_i r off len full
    cases hrw : rows r with
    | none => rw [hrw] at h; exact h.elim
    | some row =>
      rw [hrw] at h
      cases row with
      | ints => exact h.elim
      | var => exact h.elim
      | list sz' l =>
        obtain ⟨rfl, hle, hk⟩ := h
        obtain ⟨L', hL', hat⟩ := hrows.at_ r _ hrw
        have hlen : ((l.drop off).take len).length = len := by simp; omega
        refine ⟨_, hk, ?_⟩
        rw [hlen]
        cases hp with
        | data _ _ hd => cases hd
        | dang _ _ _ _ a m c hl => exact absurd hl (hrows.ne hrw)
        | slnil _ _ hl =>
          rw [hL'] at hl; injection hl with hl; subst hl
          have : l = [] := hat
          subst this
          exact ⟨[], src_slice (by simp) (by simp) (fun _ => rfl) (fun a ha => by cases ha), by simpa using Laid.nil sz⟩
        | sl _ _ _ _ L a c hl hlc hc hf ha =>
          rw [hL'] at hl; injection hl with hl; subst hl
          obtain ⟨cur, el, fr, hb, hsz, hfr, hs1, _, hlc', hcell⟩ := hat
          have hget : ∀ i, i < len → ((l.drop off).take len).getD i .undef = l.getD (off + i) .undef := fun i hi => by simp [List.getD, hi]
          have hcur : ∀ i j, i < len → j < sz → ∃ u, cur[L.o + ((off + i) * sz + j)]? = some u ∧ u.oneCell' = true ∧ RD w ow ((cellsOf (l.getD (off + i) .undef)).getD j .undef) u := fun i j hi hj => (hcell (off + i) (by omega)).2 j hj
          obtain ⟨vals, hlaid, hone, hgv⟩ := laid_of (w := w) (ow := ow) sz hpos ((l.drop off).take len) (fun i j => cur.getD (L.o + ((off + i) * sz + j)) undef) (fun i hi => by rw [hlen] at hi; rw [hget i hi]; exact (hcell _ (by omega)).1)
            (fun i j hi hj => by rw [hlen] at hi; obtain ⟨u, h1, h2, _⟩ := hcur i j hi hj; rw [Array.getD_eq_getD_getElem?, h1]; exact h2)
            (fun i j hi hj => by rw [hlen] at hi; obtain ⟨u, h1, _, h3⟩ := hcur i j hi hj; rw [Array.getD_eq_getD_getElem?, h1, hget i hi]; exact h3)
          refine ⟨vals, src_slice (by rw [hlaid.1, hlen]) hone (fun e => by cases e) fun a' ha' j u hj => ?_, hlaid⟩
          injection ha' with ha'
          subst ha'
          obtain ⟨h2, h3, rfl⟩ := hgv j u hj
          rw [hlen] at h2
          obtain ⟨u, h4, _, _⟩ := hcur _ _ h2 h3
          have hc0 : c ≠ 0 := Nat.ne_of_gt (Nat.lt_of_lt_of_le (Nat.lt_of_le_of_lt (Nat.zero_le _) h2) hlc)
          rw [ha.resolve_left hc0, cell_off, cell_of_row' hb, hs1, Array.getD_eq_getD_getElem?, h4, Option.getD_some, ← h4]
          congr 1
          have := Nat.div_add_mod j sz
          rw [Nat.mul_comm] at this
          rw [Nat.add_mul]
          omega
  · exact h.elim
end
end Go.PV

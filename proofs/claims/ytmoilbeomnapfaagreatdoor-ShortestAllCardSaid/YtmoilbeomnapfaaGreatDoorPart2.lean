/- Contracts and laws that the row leans on, part 2: texts that were built one by one, laid together. -/
import Derived.Test.YtmoilbeomnapfaaGreatDoorPart1
set_option linter.unusedVariables false
set_option linter.unusedSimpArgs false
namespace Go.PV
open Go Go.RowKit
section
variable {P : Program} {w w' : World} {ow ow' : Nat → Prop} {loc loc' : Locs} {n nt : Nat} {E : Entry P} {H : Heap} {F : Frame} {a : Act} {tt : Tab}
def inOrder : Nat → List (Nat × PV) → Bool
  | _, [] => true
  | k, (i, _) :: rest => k == i && inOrder (k + 1) rest
def intsOf (k : IntKind) : List (Nat × PV) → (List Int → Prop) → Prop
  | [], K => K []
  | (_, p) :: rest, K => match p with
    | .int k' m => k = k' ∧ intsOf k rest fun l => K (m :: l)
    | _ => False
def partsOk (sz : Nat) : List (Nat × PV) → Prop
  | [] => True
  | (_, p) :: rest => (known p = true ∧ dataB p = true ∧ (cellsOf p).length = sz) ∧ partsOk sz rest
def litW (tt : Tab) (t : TypeId) (len : Nat) (parts : List (Nat × PV)) (H : Heap) (K : PV → Heap → Prop) : Prop :=
  match tt t with
  | some ti => match ti.desc with
    | .slice e => match tt e with
      | some te => (inOrder 0 parts = true ∧ parts.length = len ∧ 0 < te.size ∧ len * te.size ≤ 16777216) ∧
        (match te.desc with
        | .int k => te.size = 1 ∧ intsOf k parts fun l => K (.sl H.nx 0 len true) (H.newT e (.ints k l))
        | _ => partsOk te.size parts ∧ K (.sl H.nx 0 len true) (H.newT e (.list te.size (parts.map (·.2)))))
      | none => False
    | _ => False
  | none => False
theorem fill_seq (sz : Nat) (hsz : 0 < sz) : ∀ (vals : List (Nat × Value)) (k : Nat) (cs : Array Value), (∀ x ∈ vals, x.2.cells.size = sz) → (∀ j, j < vals.length → (vals.getD j (0, undef)).1 = k + j) → (k + vals.length) * sz ≤ cs.size →
    ∃ cs', Instr.fill (fun i => some (i * sz, sz)) cs vals = some cs' ∧ cs'.size = cs.size ∧ (∀ i, i < k * sz → cs'[i]? = cs[i]?) ∧
      ∀ j m, j < vals.length → m < sz → cs'[(k + j) * sz + m]? = some ((vals.getD j (0, undef)).2.cells.getD m undef) := by
  intro vals
  induction vals with
  | nil => intro k cs _ _ _; exact ⟨cs, rfl, rfl, fun _ _ => rfl, fun j m hj => by simp at hj⟩
  | cons x vals ih =>
    intro k cs hx hk hle
    obtain ⟨i, v⟩ := x
    have hi : i = k := by have := hk 0 (by simp); simpa using this
    subst hi
    have hv : v.cells.size = sz := hx (i, v) (by simp)
    have hle1 : (i + 1) * sz ≤ cs.size := Nat.le_trans (Nat.mul_le_mul_right _ (by simp)) hle
    have hle1' := hle1
    rw [Nat.add_mul, Nat.one_mul] at hle1
    have step : ∀ (us : List Value) (j : Nat) (c : Array Value), i * sz + j + us.length ≤ c.size →
        (∀ x, ((us.zipIdx j).foldl (fun (cs : Array Value) (y : Value × Nat) => cs.setIfInBounds (i * sz + y.2) y.1) c)[x]? = if i * sz + j ≤ x ∧ x < i * sz + j + us.length then us[x - (i * sz + j)]? else c[x]?) ∧
        ((us.zipIdx j).foldl (fun (cs : Array Value) (y : Value × Nat) => cs.setIfInBounds (i * sz + y.2) y.1) c).size = c.size := by
      intro us
      induction us with
      | nil => intro j c _; exact ⟨fun x => by rw [if_neg (by simp only [List.length_nil]; omega)]; rfl, rfl⟩
      | cons u us ihu =>
        intro j c hc
        simp only [List.zipIdx_cons, List.foldl_cons]
        simp only [List.length_cons] at hc
        obtain ⟨h1, h2⟩ := ihu (j + 1) (c.setIfInBounds (i * sz + j) u) (by simp; omega)
        refine ⟨fun x => ?_, by rw [h2]; simp⟩
        rw [h1]
        simp only [List.length_cons]
        by_cases hxj : x = i * sz + j
        · subst hxj
          rw [if_neg (by omega), if_pos (by omega)]
          simp [show i * sz + j < c.size by omega]
        · by_cases hin : i * sz + (j + 1) ≤ x ∧ x < i * sz + (j + 1) + us.length
          · rw [if_pos hin, if_pos (by omega)]
            rw [show x - (i * sz + j) = (x - (i * sz + (j + 1))) + 1 by omega]
            simp
          · rw [if_neg hin, if_neg (by omega)]
            simp [Ne.symm hxj]
    obtain ⟨hg, hsz1⟩ := step v.cells.toList 0 cs (by simp [hv]; omega)
    have hlen : v.cells.toList.length = sz := by simpa using hv
    generalize hcs1 : ((v.cells.toList.zipIdx 0).foldl (fun (cs : Array Value) (y : Value × Nat) => cs.setIfInBounds (i * sz + y.2) y.1) cs) = cs1 at hg hsz1
    obtain ⟨cs', hf, hs', hlow, hhigh⟩ := ih (i + 1) cs1 (fun y hy => hx y (by simp [hy])) (fun j hj => by have := hk (j + 1) (by simpa using hj); simp only [List.getD_cons_succ] at this; omega)
      (by rw [hsz1]; simp only [List.length_cons] at hle; rw [show i + 1 + vals.length = i + (vals.length + 1) by omega]; exact hle)
    refine ⟨cs', ?_, hs'.trans hsz1, ?_, ?_⟩
    · have e : v.cells.zipIdx.foldl (fun cs (x : Value × Nat) => cs.setIfInBounds (i * sz + x.2) x.1) cs = cs1 := by
        rw [← hcs1, ← Array.foldl_toList]; simp
      have hcond : (decide (v.cells.size ≠ sz) || decide (i * sz + v.cells.size > cs.size)) = false := by simp; omega
      simp only [Instr.fill, hcond, Bool.false_eq_true, if_false]
      rw [← hf]
      congr 1
    · intro x hxl
      rw [hlow x (by rw [Nat.add_mul]; omega), hg, if_neg (by omega)]
    · intro j m hj hm
      cases j with
      | zero =>
        simp only [Nat.add_zero, List.getD_cons_zero]
        rw [hlow _ (by rw [Nat.add_mul]; omega), hg, if_pos (by omega)]
        rw [show i * sz + m - (i * sz + 0) = m by omega, Array.getElem?_toList]
        have : m < v.cells.size := by omega
        simp [Array.getD, this]
      | succ j =>
        simp only [List.getD_cons_succ]
        rw [← hhigh j m (by simpa using hj) hm, show i + 1 + j = i + (j + 1) by omega]
theorem inOrder_get : ∀ (parts : List (Nat × PV)) (k : Nat), inOrder k parts = true → ∀ j, j < parts.length → (parts.getD j (0, .undef)).1 = k + j
  | [], _, _, j, hj => by simp at hj
  | (i, p) :: rest, k, h, j, hj => by
    simp only [inOrder, Bool.and_eq_true, beq_iff_eq] at h
    cases j with
    | zero => simpa using h.1.symm
    | succ j =>
      have := inOrder_get rest (k + 1) h.2 j (by simpa using hj)
      simp only [List.getD_cons_succ]
      omega
theorem intsOf_get (k : IntKind) : ∀ (parts : List (Nat × PV)) (K : List Int → Prop), intsOf k parts K → ∃ l, K l ∧ l.length = parts.length ∧ ∀ j, j < parts.length → (parts.getD j (0, .undef)).2 = .int k (l.getD j 0)
  | [], K, h => ⟨[], h, rfl, fun j hj => by simp at hj⟩
  | (i, p) :: rest, K, h => by
    simp only [intsOf] at h
    cases p <;> try exact h.elim
    obtain ⟨rfl, h⟩ := h
    obtain ⟨l, hK, hl, hg⟩ := intsOf_get k rest _ h
    refine ⟨_, hK, by simp [hl], fun j hj => ?_⟩
    cases j with
    | zero => rfl
    | succ j => simp only [List.getD_cons_succ]; exact hg j (by simpa using hj)
theorem partsOk_get (sz : Nat) : ∀ (parts : List (Nat × PV)), partsOk sz parts → ∀ j, j < parts.length → known (parts.getD j (0, .undef)).2 = true ∧ dataB (parts.getD j (0, .undef)).2 = true ∧ (cellsOf (parts.getD j (0, .undef)).2).length = sz
  | [], _, j, hj => by simp at hj
  | (i, p) :: rest, h, j, hj => by
    cases j with
    | zero => exact h.1
    | succ j => simp only [List.getD_cons_succ]; exact partsOk_get sz rest h.2 j (by simpa using hj)
theorem lit_sound (hT : TabOk P tt) (hs : HS E H ow loc w) {t : TypeId} {len : Nat} {parts : List (Nat × PV)} {vals : Array (Nat × Value)} {K : PV → Heap → Prop} (hlen : parts.length = vals.toList.length)
    (hv : ∀ i, i < parts.length → (parts.getD i (0, .undef)).1 = (vals.toList.getD i (0, undef)).1 ∧ RV w ow loc (parts.getD i (0, .undef)).2 (vals.toList.getD i (0, undef)).2)
    (h : litW tt t len parts H K) : Made P E H ow loc w (Instr.buildSlice t len vals) K := by
  unfold litW at h
  cases hti : tt t with
  | none => rw [hti] at h; exact h.elim
  | some ti =>
    rw [hti] at h
    simp only at h
    split at h
    · rename_i e hd
      cases hte : tt e with
      | none => rw [hte] at h; exact h.elim
      | some te =>
        rw [hte] at h
        obtain ⟨⟨hord, hpl, hpos, hbig⟩, h⟩ := h
        have ht := hT _ _ hti
        have hte' := hT _ _ hte
        obtain ⟨i, hi, hz, his, hby⟩ := hte'.info
        have hord' := inOrder_get parts 0 hord
        -- every part has its size
        have hcells : ∀ j, j < parts.length → (vals.toList.getD j (0, undef)).2.cells.size = te.size ∧ ∀ m, m < te.size → ((vals.toList.getD j (0, undef)).2.cells.getD m undef).oneCell' = true := by
          intro j hj
          have hvj := (hv j hj).2
          split at h
          · rename_i k hk
            obtain ⟨h1, h⟩ := h
            obtain ⟨l, hK, hl, hg⟩ := intsOf_get k parts _ h
            rw [hg j hj] at hvj
            rw [rv_int hvj, h1]
            refine ⟨rfl, fun m hm => ?_⟩
            obtain rfl : m = 0 := by omega
            rfl
          · obtain ⟨hk, hd, hc⟩ := partsOk_get _ parts h.1 j hj
            obtain ⟨h1, h2⟩ := rv_cells hvj hk
            exact ⟨by rw [← h1]; exact hc, fun m hm => (h2 m (by omega)).2⟩
        have hzc : te.z.cells.size = te.size := hte'.s
        obtain ⟨cs', hf, hcs, _, hget⟩ := fill_seq te.size hpos vals.toList 0 ((Array.range (len * te.size)).map (te.z.cells[· % te.z.cells.size]!)) (fun x hx => by
            obtain ⟨j, hj, rfl⟩ := List.getElem_of_mem hx
            have := (hcells j (by omega)).1
            have e2 : vals.toList.getD j (0, undef) = vals.toList[j] := by rw [List.getD_eq_getElem?_getD, List.getElem?_eq_getElem hj]; rfl
            rwa [e2] at this) (fun j hj => by
            have h1 := (hv j (by omega)).1
            have h2 := hord' j (by omega)
            omega) (by simp; rw [← hpl, hlen]; simp)
        have hcs' : cs'.size = len * te.size := by rw [hcs]; simp
        have hrun : (Instr.buildSlice t len vals).run P w = .ok (.slice (some ⟨w.heap.size, 0, none⟩) len len) (w.alloc (.cells cs' e)) := by
          have hb : ¬ (16777216 < len * i.size) := by rw [his]; omega
          have hf' : Instr.fill (fun i => some (i * te.size, te.size)) (madeCells te.z.cells (len * te.size)) vals.toList = some cs' := hf
          by_cases hz0 : len * i.size = 0
          · have hl0 : len = 0 := by rcases Nat.mul_eq_zero.1 hz0 with h | h; exact h; omega
            subst hl0
            have hvn : vals.toList = [] := List.eq_nil_of_length_eq_zero (by omega)
            rw [hvn] at hf
            simp [Instr.fill] at hf
            simp [Instr.buildSlice, run_underlying (ht.under_slice hd), sizeOf, typeInfo, hi, newRow, hvn, Instr.fill, ← hf, Array.range_zero']
          · simp only [madeCells] at hf'
            rw [← his] at hf'
            simp [Instr.buildSlice, run_underlying (ht.under_slice hd), sizeOf, typeInfo, zeroValue, hi, hz, hb, hz0, hf', newRow]
        have hc := Chg.of_alloc w (.cells cs' e) w.heap.size
        have hst : Stable ow w (w.alloc (.cells cs' e)) := Stable.of_chg_new hc (Nat.le_refl _) ow
        have hbb : ∀ b, b < w.heap.size → (ow b ∨ b = w.heap.size) → ow b := fun b hb h => h.elim id (fun e => by omega)
        have fin : ∀ row, RowIn (w.alloc (.cells cs' e)) (fun b => ow b ∨ b = w.heap.size) (locNew loc H.nx (some ⟨w.heap.size, 0, len, te.size⟩)) ⟨w.heap.size, 0, len, te.size⟩ cs' row →
            (∀ l, row = .var l → False) → K (.sl H.nx 0 len true) (H.newT e row) → Made P E H ow loc w (Instr.buildSlice t len vals) K := by
          intro row hin hnv hK
          have hL : locNew loc H.nx (some ⟨w.heap.size, 0, len, te.size⟩) H.nx = some (some ⟨w.heap.size, 0, len, te.size⟩) := by simp [locNew]
          refine made_of hs (cap := len) (sz := te.size) (fr := (0, 0)) hK hrun hc (by simp) (heap_alloc_new w _) (unfrozen_zero _) hcs' hin (fun l e => (hnv l e).elim) ?_ (.sl _ _ _ _ (by omega))
          exact .sl _ _ _ _ _ _ _ hL (Nat.le_refl _) (by simp) (fun _ => by simp) (.inr (by simp))
        split at h
        · rename_i k hk
          obtain ⟨h1, h⟩ := h
          obtain ⟨l, hK, hl, hg⟩ := intsOf_get k parts _ h
          refine fin (.ints k l) ⟨h1, by show l.length ≤ len; omega, fun j hj => ?_⟩ (fun l e => by cases e) hK
          have := hget j 0 (by omega) hpos
          rw [h1] at this
          simp only [Nat.zero_add, Nat.mul_one, Nat.add_zero] at this ⊢
          rw [this]
          have hvj := (hv j (by omega)).2
          rw [hg j (by omega)] at hvj
          rw [rv_int hvj]
          rfl
        · refine fin (.list te.size (parts.map (·.2))) ⟨rfl, hpos, by show (parts.map (·.2)).length ≤ len; rw [List.length_map]; omega, fun j hj => ?_⟩ (fun l e => by cases e) h.2
          rw [List.length_map] at hj
          have e1 : (parts.map (·.2)).getD j .undef = (parts.getD j (0, .undef)).2 := by simp [List.getD, hj]
          rw [e1]
          obtain ⟨hk, hdd, hcl⟩ := partsOk_get _ parts h.1 j hj
          refine ⟨hcl, fun m hm => ⟨_, ?_, (hcells j hj).2 m hm, ?_⟩⟩
          · have := hget j m (by omega) hm
            simpa using this
          · exact (rd_of0' (rd_of (hv j hj).2 hdd) hk m (by omega)).mono hst hbb
    · exact h.elim
theorem bytes_sound (hT : TabOk P tt) (hs : HS E H ow loc w) {src dst e : TypeId} {sti : TypeDesc} (hsu : P.underlying src = some sti) (hd : P.underlying dst = some (.slice e)) (he : P.underlying e = some (.int .u8)) {l : List Int} {v : Value} {K : PV → Heap → Prop}
    (hp : RV w ow loc (.str l) v) (hbig : l.length ≤ 9223372036854775807) (h : K (.sl H.nx 0 l.length true) (H.newT e (.ints .u8 l))) : Made P E H ow loc w (convert src dst v) K := by
  obtain ⟨s, rfl, rfl⟩ := rv_str hp
  rw [bytesI_length] at h hbig
  generalize hcap : (Question.appendCap s.size 0 e).cut (w.tape w.drawn (.appendCap s.size 0 e)) = cap
  have hcap' : s.size ≤ cap := by rw [← hcap]; simp [Question.cut]
  generalize hcs : (s.data.map fun b => Value.int .u8 b.toNat) ++ Array.replicate (cap - s.size) (.int .u8 0) = cs
  have hsz : cs.size = cap := by rw [← hcs]; simp; have : s.data.size = s.size := rfl; omega
  have hrun : (convert src dst (.string s)).run P w = .ok (.slice (some ⟨w.heap.size, 0, none⟩) s.size cap) ((w.drew.alloc (.cells cs e)).freeze ⟨w.heap.size, cap, none⟩ 1) := by
    have hfo : (Question.appendCap s.size 0 e).forced = false := rfl
    have hsh : (w.drew.alloc (.cells cs e)).shape? w.heap.size = some (e, cap) := by
      unfold World.shape?
      rw [show (w.drew.alloc (.cells cs e)).heap[w.heap.size]? = some (.cells cs e) from heap_alloc_new w.drew _]
      simp [hsz]
    cases sti <;> simp [convert, run_underlying hsu, run_underlying hd, run_underlying he, Conv.stringToBytes, hfo, hcap, hcs, newRow, markStringish, hsh]
  have hheap : ((w.drew.alloc (.cells cs e)).freeze ⟨w.heap.size, cap, none⟩ 1).heap[w.heap.size]? = some (.cells cs e (cap, cap + 1)) := by
    have := heap_alloc_new w.drew (.cells cs e)
    unfold World.freeze
    simp only [Nat.one_ne_zero, if_false, Array.getElem?_modify]
    rw [show (w.drew.alloc (.cells cs e)).heap[w.heap.size]? = some (.cells cs e) from this]
    simp
  have hc : Chg w ((w.drew.alloc (.cells cs e)).freeze ⟨w.heap.size, cap, none⟩ 1) w.heap.size := by
    refine ⟨rfl, rfl, rfl, ?_, ?_⟩
    · simp [World.freeze]
    · intro k hk hne
      have := heap_alloc_old w.drew (.cells cs e) k hk
      unfold World.freeze
      simp only [Nat.one_ne_zero, if_false, Array.getElem?_modify]
      rw [if_neg (Ne.symm hne)]
      exact this
  have hL : locNew loc H.nx (some ⟨w.heap.size, 0, cap, 1⟩) H.nx = some (some ⟨w.heap.size, 0, cap, 1⟩) := by simp [locNew]
  refine made_of hs (cap := cap) (sz := 1) (fr := (cap, cap + 1)) h hrun hc (by simp [World.freeze]) hheap (fun i hi => by rw [hsz] at hi; simp only; omega) (by omega) ⟨rfl, by rw [bytesI_length]; exact hcap', fun j hj => ?_⟩ (fun l e => by cases e) ?_ (.sl _ _ _ _ (by omega))
  · rw [bytesI_length] at hj
    have hj' : j < s.data.size := hj
    rw [← hcs]
    simp only [Nat.zero_add]
    rw [Array.getElem?_append_left (by simpa using hj')]
    simp [bytesI]
    exact ⟨s.data[j], Array.getElem?_eq_getElem hj', by rw [Array.getElem?_eq_getElem hj']; rfl⟩
  · exact .sl _ _ _ _ _ _ _ hL hcap' (by simp) (fun _ => by simp) (.inr (by simp))
end
def kill0 (r : Nat) : PV → PV
  | .sl r' off len full => bif r == r' then .undef else .sl r' off len full
  | .ptr r' i j => bif r == r' then .undef else .ptr r' i j
  | .agg _ => .undef
  | .tup _ => .undef
  | p => p
def kill1 (r : Nat) : PV → PV
  | .agg l => .agg (l.map (kill0 r))
  | p => kill0 r p
def kill (r : Nat) : PV → PV
  | .tup l => .tup (l.map (kill1 r))
  | p => kill1 r p
def Frame.kill (r : Nat) : Frame → Frame
  | [] => []
  | (t, p) :: rest => (t, Go.PV.kill r p) :: Frame.kill r rest
def killRow (r : Nat) : Row → Row
  | .var l => .var (l.map (kill0 r))
  | row => row
def killRows (r : Nat) : List (Nat × Row) → List (Nat × Row)
  | [] => []
  | (k, row) :: rest => (k, killRow r row) :: killRows r rest
def Heap.move (H : Heap) (r : Nat) (row : Row) : Heap := { nx := H.nx, rows := setRow (killRows r H.rows) r row, g := H.g.map (Frame.kill r), ty := dropT r H.ty }
def hasT : Option TypeId → TypeId → Bool
  | some t, e => t == e
  | none, _ => false
theorem hasT_spec {o : Option TypeId} {e : TypeId} (h : hasT o e = true) : o = some e := by
  cases o with
  | none => cases h
  | some t => simp only [hasT, beq_iff_eq] at h; rw [h]
def Heap.moveT (H : Heap) (e : TypeId) (off r : Nat) (row : Row) : Heap := { nx := H.nx, rows := setRow (killRows r H.rows) r row, g := H.g.map (Frame.kill r), ty := bif hasT (getT H.ty r) e && off == 0 then (r, e) :: dropT r H.ty else dropT r H.ty }
theorem getRow_kill (r : Nat) (rows : List (Nat × Row)) (r' : Nat) : getRow (killRows r rows) r' = (getRow rows r').map (killRow r) := by
  induction rows with
  | nil => rfl
  | cons x rest ih =>
    obtain ⟨k, row⟩ := x
    simp only [killRows, getRow, ih]
    cases k == r' <;> rfl
theorem Heap.get_move (H : Heap) (r : Nat) (row : Row) (r' : Nat) : (H.move r row).get r' = if r = r' then some row else (H.get r').map (killRow r) := by
  unfold Heap.move Heap.get
  rw [getRow_setRow, getRow_kill]
theorem Frame.get_kill (r : Nat) (F : Frame) (t : Nat) : (Frame.kill r F).get t = Go.PV.kill r (F.get t) := by
  induction F with
  | nil => rfl
  | cons x rest ih =>
    obtain ⟨k, p⟩ := x
    simp only [Frame.kill, Frame.get, ih]
    cases k == t <;> rfl
section
variable {P : Program} {w w' : World} {ow ow' : Nat → Prop} {loc loc' : Locs} {n nt : Nat} {E : Entry P} {H : Heap} {F : Frame} {a : Act} {tt : Tab}
theorem getD_map_undef (f : PV → PV) (hf : f .undef = .undef) (l : List PV) (i : Nat) : (l.map f).getD i .undef = f (l.getD i .undef) := by
  simp only [List.getD, List.getElem?_map]
  cases l[i]? <;> simp [hf]
def Others (r n : Nat) (loc loc' : Locs) : Prop := ∀ r', r' ≠ r → r' < n → loc' r' = loc r' ∨ loc' r' = none
theorem RV.kill0 {r : Nat} (hs : Stable ow w w') (hb : ∀ b, b < w.heap.size → ow' b → ow b) (hl : Others r n loc loc') {p : PV} {v : Value} (h : RV w ow loc p v) (hr : Refs n p) :
    RV w' ow' loc' (Go.PV.kill0 r p) v ∧ Refs n (Go.PV.kill0 r p) := by
  cases p with
  | sl r' off len full =>
    simp only [Go.PV.kill0]
    cases e : r == r' with
    | true => exact ⟨.data _ _ (.undef _), .undef⟩
    | false =>
      have hne : r' ≠ r := fun h => by subst h; simp at e
      have hlt := refs_sl hr
      refine ⟨?_, hr⟩
      simp only [cond_false]
      cases h with
      | data _ _ h => cases h
      | dang _ _ _ _ a m c h => exact .dang _ _ _ _ a m c ((hl r' hne hlt).elim (fun e => e.trans h) id)
      | slnil _ _ h => exact (hl r' hne hlt).elim (fun e => .slnil _ _ (e.trans h)) fun e => .dang _ _ _ _ _ _ _ e
      | sl _ _ _ _ L a c h h1 h2 h3 h4 => exact (hl r' hne hlt).elim (fun e => .sl _ _ _ _ L a c (e.trans h) h1 h2 h3 h4) fun e => .dang _ _ _ _ _ _ _ e
  | ptr r' i j =>
    simp only [Go.PV.kill0]
    cases e : r == r' with
    | true => exact ⟨.data _ _ (.undef _), .undef⟩
    | false =>
      have hne : r' ≠ r := fun h => by subst h; simp at e
      have hlt := refs_ptr hr
      refine ⟨?_, hr⟩
      simp only [cond_false]
      cases h with
      | data _ _ h => cases h
      | dangp _ _ _ a h => exact .dangp _ _ _ a ((hl r' hne hlt).elim (fun e => e.trans h) id)
      | ptr _ _ _ L h => exact (hl r' hne hlt).elim (fun e => .ptr _ _ _ L (e.trans h)) fun e => .dangp _ _ _ _ e
  | agg l => exact ⟨.data _ _ (.undef _), .undef⟩
  | tup l => exact ⟨.data _ _ (.undef _), .undef⟩
  | rptr q j =>
    refine ⟨?_, hr⟩
    cases h with
    | data _ _ h => cases h
    | rptr _ _ b o us ho hm h1 hd h0 =>
      have hlt := World.block_lt_of_cell? w _ (hm 0 h0)
      exact .rptr q j b o us (fun h => ho (hb b hlt h)) (fun i hi => hs b _ _ ho (hm i hi)) h1 (fun i hi => (hd i hi).mono hs hb) h0
  | _ =>
    refine ⟨?_, hr⟩
    cases h with
    | data _ _ h => exact .data _ _ (h.mono hs hb)
theorem RV.kill1 {r : Nat} (hs : Stable ow w w') (hb : ∀ b, b < w.heap.size → ow' b → ow b) (hl : Others r n loc loc') {p : PV} {v : Value} (h : RV w ow loc p v) (hr : Refs n p) :
    RV w' ow' loc' (Go.PV.kill1 r p) v ∧ Refs n (Go.PV.kill1 r p) := by
  cases p with
  | agg l =>
    obtain ⟨vs, rfl, hle, h1, hd⟩ := rv_agg h
    have hra := refs_agg hr
    simp only [Go.PV.kill1]
    refine ⟨.agg _ vs (by simpa using hle) h1 fun i hi => ?_, .agg _ fun i hi => ?_⟩
    all_goals
      rw [List.length_map] at hi
      rw [getD_map_undef _ rfl]
    · exact (RV.kill0 hs hb hl (hd i hi) (hra i hi)).1
    · exact (RV.kill0 hs hb hl (hd i hi) (hra i hi)).2
  | _ => exact RV.kill0 hs hb hl h hr
theorem RV.kill {r : Nat} (hs : Stable ow w w') (hb : ∀ b, b < w.heap.size → ow' b → ow b) (hl : Others r n loc loc') {p : PV} {v : Value} (h : RV w ow loc p v) (hr : Refs n p) :
    RV w' ow' loc' (Go.PV.kill r p) v ∧ Refs n (Go.PV.kill r p) := by
  cases p with
  | tup l =>
    obtain ⟨vs, rfl, hle, hd⟩ := rv_tup h
    have hra := refs_tup hr
    simp only [Go.PV.kill]
    refine ⟨.tup _ vs (by simpa using hle) fun i hi => ?_, .tup _ fun i hi => ?_⟩
    all_goals
      rw [List.length_map] at hi
      rw [getD_map_undef _ rfl]
    · exact (RV.kill1 hs hb hl (hd i hi) (hra i hi)).1
    · exact (RV.kill1 hs hb hl (hd i hi) (hra i hi)).2
  | _ => exact RV.kill1 hs hb hl h hr
def locSet (loc : Locs) (r : Nat) (L : Option RowLoc) : Locs := fun r' => if r' = r then some L else loc r'
theorem others_set (loc : Locs) (r n : Nat) (L : Option RowLoc) : Others r n loc (locSet loc r L) := fun r' hne _ => .inl (by simp [locSet, hne])
theorem RowAt.kill {r : Nat} (hs : Stable ow w w') (hb : ∀ b, b < w.heap.size → ow' b → ow b) (hl : Others r n loc loc') {L : Option RowLoc} {row : Row}
    (hr : ∀ l, row = .var l → ∀ j, j < l.length → Refs n (l.getD j .undef)) (hk : ∀ M, L = some M → w'.heap[M.b]? = w.heap[M.b]?) (h : RowAt w ow loc L row) : RowAt w' ow' loc' L (killRow r row) := by
  cases L with
  | none => cases row <;> exact h
  | some L =>
    obtain ⟨cur, e, fr, h1, h2, h3, h4⟩ := h
    refine ⟨cur, e, fr, (hk L rfl).trans h1, h2, h3, ?_⟩
    cases row with
    | ints k l => exact h4
    | list sz l => exact ⟨h4.1, h4.2.1, h4.2.2.1, fun i hi => ⟨(h4.2.2.2 i hi).1, fun j hj => by obtain ⟨u, h1, h2, h3⟩ := (h4.2.2.2 i hi).2 j hj; exact ⟨u, h1, h2, h3.mono hs hb⟩⟩⟩
    | var l =>
      refine ⟨by rw [List.length_map]; exact h4.1, h4.2.1, fun j hj => ?_⟩
      rw [List.length_map] at hj
      obtain ⟨u, h1, h2, h3⟩ := h4.2.2 j hj
      refine ⟨u, h1, h2, ?_⟩
      rw [getD_map_undef _ rfl]
      exact (RV.kill0 hs hb hl h3 (hr l rfl j hj)).1
theorem GS.kill {r : Nat} {g : List Frame} {gv : Nat → Nat → Value} (h : GS w ow loc n g gv) (hs : Stable ow w w') (hb : ∀ b, b < w.heap.size → ow' b → ow b) (hl : Others r n loc loc') : GS w' ow' loc' n (g.map (Frame.kill r)) gv := fun i t => by
  have e : ((g.map (Frame.kill r)).getD i []).get t = Go.PV.kill r ((g.getD i []).get t) := by
    rw [← Frame.get_kill]
    simp only [List.getD, List.getElem?_map]
    cases g[i]? <;> rfl
  rw [e]
  exact RV.kill hs hb hl (h i t).1 (h i t).2
theorem HS.move (h : HS E H ow loc w) {r : Nat} {Lo L' : Option RowLoc} {row : Row} {b : Nat} (hLo : loc r = some Lo) (hc : Chg w w' b) (hbo : (∃ L, Lo = some L ∧ b = L.b) ∨ w.heap.size ≤ b)
    (how : ∀ b, ow b → ow' b) (hb : ∀ b, b < w.heap.size → ow' b → ow b) (hL' : ∀ M, L' = some M → ow' M.b ∧ M.b < w'.heap.size ∧ ((∃ L, Lo = some L ∧ M.b = L.b) ∨ w.heap.size ≤ M.b))
    (howlt : ∀ b, ow' b → b < w'.heap.size) (hat : RowAt w' ow' (locSet loc r L') L' row) (hnv : ∀ l, row ≠ .var l) : HS E (H.move r row) ow' (locSet loc r L') w' ∧ Stable ow w w' := by
  have hrn : r < H.nx := by
    rcases Nat.lt_or_ge r H.nx with h1 | h1
    · exact h1
    · rw [h.nx r h1] at hLo; cases hLo
  have hlive : ∀ L, Lo = some L → ow L.b ∧ L.b < w.heap.size ∧ (E.w0.heap.size ≤ L.b ∨ E.S0 L.b) := fun L e => h.live r L (by rw [hLo, e])
  have hs : Stable ow w w' := by
    rcases hbo with ⟨L, e, rfl⟩ | hbo
    · exact Stable.of_chg hc (hlive L e).1
    · exact Stable.of_chg_new hc hbo ow
  have hl := others_set loc r H.nx L'
  refine ⟨⟨?_, ?_, ?_, ?_, ?_, hc.os.trans h.os, hc.tape.trans h.tape, hc.output.trans h.output, ?_, howlt, fun b hA => how b (h.forb b hA), h.alt, ?_, ?_, h.gh.kill hs hb hl, fun r' t ht => ⟨(h.ty r' t (getT_drop ht).2).1, fun L2 hL2 => ?_⟩⟩, hs⟩
  rotate_right
  · obtain ⟨hne, ht⟩ := getT_drop ht
    have hL3 : loc r' = some (some L2) := by
      have e : locSet loc r L' r' = loc r' := by simp [locSet, hne]
      rw [← e]; exact hL2
    obtain ⟨cur, fr, hc0, ho0⟩ := (h.ty r' t ht).2 L2 hL3
    refine ⟨cur, fr, (hc.block _ (h.live r' L2 hL3).2.1 ?_).trans hc0, ho0⟩
    rcases hbo with ⟨L, e, rfl⟩ | hbo
    · exact h.ne hL3 (by rw [hLo, e]) hne
    · have := (h.live r' L2 hL3).2.1; omega
  · intro r' row' hr'
    rw [Heap.get_move] at hr'
    split at hr'
    · rename_i e; subst e; injection hr' with hr'; subst hr'
      exact ⟨L', by simp [locSet], hat⟩
    · rename_i hne
      cases hg : H.get r' with
      | none => rw [hg] at hr'; cases hr'
      | some row0 =>
        rw [hg] at hr'
        injection hr' with hr'
        subst hr'
        obtain ⟨L2, hL2, hat2⟩ := h.rows r' row0 hg
        refine ⟨L2, by simp [locSet, Ne.symm hne, hL2], hat2.kill hs hb hl (fun l e => h.refs r' l (by rw [hg, e])) fun M hM => ?_⟩
        subst hM
        have hM := h.live r' M hL2
        refine hc.block _ hM.2.1 ?_
        rcases hbo with ⟨L, e, rfl⟩ | hbo
        · exact h.ne hL2 (by rw [hLo, e]) (Ne.symm hne)
        · omega
  · intro r' L2 hr'
    unfold locSet at hr'
    split at hr'
    · injection hr' with hr'
      obtain ⟨h1, h2, h3⟩ := hL' L2 hr'
      refine ⟨h1, h2, ?_⟩
      rcases h3 with ⟨L, e, e2⟩ | h3
      · rw [e2]; exact (hlive L e).2.2
      · left; have := h.size; omega
    · have := h.live r' L2 hr'
      exact ⟨how _ this.1, by have := hc.size; omega, this.2.2⟩
  · intro r1 r2 L1 L2 h1 h2 e
    have cross : ∀ (M : RowLoc) (r3 : Nat) (L3 : RowLoc), L' = some M → r3 ≠ r → loc r3 = some (some L3) → M.b ≠ L3.b := by
      intro M r3 L3 hM hne h3 e3
      obtain ⟨_, _, h5⟩ := hL' M hM
      have hl3 := h.live r3 L3 h3
      rcases h5 with ⟨L, e, e2⟩ | h5
      · exact hne (h.inj r3 r L3 L h3 (by rw [hLo, e]) (by omega))
      · omega
    unfold locSet at h1 h2
    split at h1 <;> split at h2
    · omega
    · injection h1 with h1
      exact absurd e (cross L1 r2 L2 h1 ‹_› h2)
    · injection h2 with h2
      exact absurd e.symm (cross L2 r1 L1 h2 ‹_› h1)
    · exact h.inj r1 r2 L1 L2 h1 h2 e
  · intro b0 hb0 hS
    rw [hc.block b0 (by have := h.size; omega) ?_]
    · exact h.old b0 hb0 hS
    · rintro rfl
      rcases hbo with ⟨L, e, rfl⟩ | hbo
      · rcases (hlive L e).2.2 with h1 | h1
        · omega
        · exact hS h1
      · have := h.size; omega
  · have := h.size; have := hc.size; omega
  · intro r' hr'
    have hr2 : H.nx ≤ r' := hr'
    unfold locSet
    rw [if_neg (by omega)]
    exact h.nx r' hr2
  · intro r' L2 hr' hA
    unfold locSet at hr'
    split at hr'
    · injection hr' with hr'
      obtain ⟨_, _, h5⟩ := hL' L2 hr'
      rcases h5 with ⟨L, e, e2⟩ | h5
      · rw [e2] at hA; exact h.apart r L (by rw [hLo, e]) hA
      · have := h.alt _ hA; have := h.size; omega
    · exact h.apart r' L2 hr' hA
  · intro r' l hr' j hj
    rw [Heap.get_move] at hr'
    split at hr'
    · injection hr' with hr'; exact absurd hr' (hnv l)
    · cases hg : H.get r' with
      | none => rw [hg] at hr'; cases hr'
      | some row0 =>
        rw [hg] at hr'
        injection hr' with hr'
        cases row0 with
        | ints => cases hr'
        | list => cases hr'
        | var l0 =>
          injection hr' with hr'
          subst hr'
          rw [List.length_map] at hj
          rw [getD_map_undef _ rfl]
          have hrr := h.refs r' l0 hg j hj
          generalize l0.getD j .undef = p at hrr
          cases p <;> simp only [Go.PV.kill0] <;> first | exact hrr | exact .undef | (split <;> first | exact .undef | exact hrr) | (cases (r == _) <;> first | exact hrr | exact .undef)
theorem FS.kill {get : Nat → PV} (h : FS w ow loc n get a) {r : Nat} {L : Option RowLoc} (hs : Stable ow w w') (hb : ∀ b, b < w.heap.size → ow' b → ow b) : FS w' ow' (locSet loc r L) n (fun t => Go.PV.kill r (get t)) a :=
  ⟨fun t => (RV.kill hs hb (others_set loc r n L) (h.vals t) (h.refs t)).1, fun t => (RV.kill (w' := w') (ow' := ow') hs hb (others_set loc r n L) (h.vals t) (h.refs t)).2, h.defers⟩
end
section
variable {P : Program} {w w' : World} {ow ow' : Nat → Prop} {loc loc' : Locs} {n nt : Nat} {E : Entry P} {H : Heap} {F : Frame} {a : Act} {tt : Tab} {rows : Nat → Option Row}
inductive Base (w : World) (sz : Nat) : Option RowLoc → Nat → Bool → Value → Nat → Nat → Prop
  | nil (off : Nat) (full : Bool) : Base w sz none off full (.slice none 0 0) 0 0
  | at_ (L : RowLoc) (off : Nat) (full : Bool) (A : Addr) (len c : Nat) (hlc : len ≤ c) (hc : off + c ≤ L.cap) (hf : full = true → off + c = L.cap) (ha : c = 0 ∨ A = ⟨L.b, L.o + off * sz, none⟩) (hsz : L.sz = sz) :
      Base w sz (some L) off full (.slice (some A) len c) len c
structure CellsAt (w : World) (M : RowLoc) (sz k : Nat) (vals : List Value) : Prop where
  szs : M.sz = sz
  lt : M.b < w.heap.size
  cap : k ≤ M.cap
  at_ : ∃ cur e fr, w.heap[M.b]? = some (.cells cur e fr) ∧ cur.size = M.o + M.cap * M.sz ∧ unfrozen fr cur.size ∧ ∀ i, i < k * sz → cur[M.o + i]? = vals[i]?
def TyAt (w w' : World) (e : TypeId) (off sz : Nat) (Lo : Option RowLoc) (M : RowLoc) : Prop :=
  (M.o = 0 ∧ ∃ cur fr, w'.heap[M.b]? = some (.cells cur e fr)) ∨
    ∃ L, Lo = some L ∧ M.b = L.b ∧ M.o = L.o + off * sz ∧ ∀ cur t fr, w.heap[L.b]? = some (.cells cur t fr) → ∃ cur' fr', w'.heap[M.b]? = some (.cells cur' t fr')
theorem app_core {t u e : TypeId} {ti te : TI} {d : TypeDesc} (ht : TIOk P t ti) (hd : ti.desc = .slice e) (hte : TIOk P e te) (hu : P.underlying u = some d) (hdi : ∀ k, d ≠ .int k) (hpos : 0 < te.size)
    {Lo : Option RowLoc} {off : Nat} {full : Bool} {s : Value} {len c : Nat} (hb : Base w te.size Lo off full s len c)
    (hblk : ∀ L, Lo = some L → ∃ cur e fr, w.heap[L.b]? = some (.cells cur e fr) ∧ cur.size = L.o + L.cap * L.sz ∧ unfrozen fr cur.size)
    {olds : List Value} (holen : olds.length = len * te.size) (hold : ∀ L, Lo = some L → ∀ cur e fr, w.heap[L.b]? = some (.cells cur e fr) → ∀ i, i < len * te.size → cur[L.o + off * te.size + i]? = olds[i]?)
    {x : Value} {m : Nat} {news : List Value} (hx : Src P w te.size x m news) (h63 : len + m ≤ 9223372036854775807) (hfit : (len + m) * te.bytes ≤ 140737488355328) (ty : TypeId) :
    ∃ cv w' L' b, (Builtin.append_ #[t, u] ty #[s, x]).run P w = .ok cv w' ∧ Chg w w' b ∧ ((∃ L, Lo = some L ∧ b = L.b) ∨ w.heap.size ≤ b) ∧ (L' = none → len + m = 0 ∧ cv = .slice none 0 0 ∧ w' = w) ∧
      ∀ M, L' = some M → (Lo = none → b = M.b) ∧ ((∃ L, Lo = some L ∧ M.b = L.b) ∨ (w.heap.size ≤ M.b)) ∧ TyAt w w' e off te.size Lo M ∧ CellsAt w' M te.size (len + m) (olds ++ news) ∧
        ∃ a' c', cv = .slice (some a') (len + m) c' ∧ len + m ≤ c' ∧ c' ≤ M.cap ∧ (full = true → c' = M.cap) ∧ (c' = 0 ∨ a' = ⟨M.b, M.o, none⟩) := by
  obtain ⟨i, hi, hz, his, hby⟩ := hte.info
  rw [← his] at hx holen hold
  rw [← hby] at hfit
  have hzc : te.z.cells.size = i.size := by rw [his]; exact hte.s
  -- a new block
  have grow : ∀ (A : Option Addr), (∀ w', w'.heap = w.heap → (Builtin.firstCells i.size len (.slice A len c)).run P w' = .ok olds.toArray w') → c < len + m →
      ∃ cv w' L' b, (Builtin.append_ #[t, u] ty #[.slice A len c, x]).run P w = .ok cv w' ∧ Chg w w' b ∧ ((∃ L, Lo = some L ∧ b = L.b) ∨ w.heap.size ≤ b) ∧ (L' = none → len + m = 0 ∧ cv = .slice none 0 0 ∧ w' = w) ∧
      ∀ M, L' = some M → (Lo = none → b = M.b) ∧ ((∃ L, Lo = some L ∧ M.b = L.b) ∨ (w.heap.size ≤ M.b)) ∧ TyAt w w' e off te.size Lo M ∧ CellsAt w' M te.size (len + m) (olds ++ news) ∧
        ∃ a' c', cv = .slice (some a') (len + m) c' ∧ len + m ≤ c' ∧ c' ≤ M.cap ∧ (full = true → c' = M.cap) ∧ (c' = 0 ∨ a' = ⟨M.b, M.o, none⟩) := by
    intro A hfirst hg
    have hrun := append_grow (P := P) (ty := ty) (ht.under_slice hd) hu hdi hi hz hx holen hfirst hg h63 hfit
    have hge := grownCap_ge w (len + m) c e
    generalize hcs : (olds.toArray ++ news.toArray ++ Builtin.zeroCells te.z.cells (grownCap w (len + m) c e - (len + m))) = cs at hrun
    have hcsz : cs.size = grownCap w (len + m) c e * i.size := by
      rw [← hcs]
      simp only [Array.size_append, List.size_toArray, size_zeroCells, hzc, holen, hx.size, ← Nat.add_mul]
      congr 1
      omega
    refine ⟨_, _, some ⟨w.heap.size, 0, grownCap w (len + m) c e, te.size⟩, w.heap.size, hrun, Chg.of_drew_alloc w _ _, .inr (Nat.le_refl _), (fun h => by cases h), fun M hM => ?_⟩
    injection hM with hM
    subst hM
    refine ⟨fun _ => rfl, .inr (Nat.le_refl _), .inl ⟨rfl, cs, (0, 0), heap_alloc_new w.drew _⟩, ⟨rfl, by simp, hge, cs, e, (0, 0), heap_alloc_new w.drew _, by simp only; rw [hcsz, his]; omega, unfrozen_zero _, fun j hj => ?_⟩, _, _, rfl, hge, Nat.le_refl _, fun _ => rfl, .inr rfl⟩
    rw [← hcs]
    simp only [Nat.zero_add]
    have hl : (olds ++ news).length = (len + m) * te.size := by rw [List.length_append, holen, hx.size, his, Nat.add_mul]
    rw [Array.getElem?_append_left (by simp; rw [← List.length_append, hl]; exact hj)]
    simp
  cases hb with
  | nil off full =>
    by_cases hm : m = 0
    · subst hm
      have hr := append_room (P := P) (ty := ty) (t := t) (ht.under_slice hd) hu hdi hi hx (A := none) (n := 0) (c := 0) (by omega) (fun _ => rfl) (b := 0) (o := 0) (cur := #[]) (fr := (0, 0)) (e' := 0) (fun h => absurd rfl h) (fun h => absurd rfl h) (unfrozen_zero _) (fun h => absurd rfl h)
      exact ⟨_, _, none, w.heap.size, hr, ⟨rfl, rfl, rfl, by simp, fun _ _ _ => by simp⟩, .inr (Nat.le_refl _), fun _ => ⟨rfl, rfl, by simp⟩, fun M hM => by cases hM⟩
    · have hon : olds = [] := List.eq_nil_of_length_eq_zero (by simpa using holen)
      subst hon
      exact grow none (fun w' _ => by simp [Builtin.firstCells]) (by omega)
  | at_ L off full A len c hlc hc hf ha hsz =>
    obtain ⟨cur, e', fr, hbk, hcsz, hfr⟩ := hblk L rfl
    have hole := hold L rfl cur e' fr hbk
    have hlt : L.b < w.heap.size := (Array.getElem?_eq_some_iff.1 hbk).1
    by_cases hroom : len + m ≤ c
    · have hcap : (off + c) * te.size ≤ L.cap * te.size := Nat.mul_le_mul_right _ hc
      have hrm : (len + m) * te.size ≤ c * te.size := Nat.mul_le_mul_right _ hroom
      rw [Nat.add_mul] at hcap hrm
      have hnl : news.length = m * te.size := by rw [hx.size, his]
      have hr := append_room (P := P) (ty := ty) (t := t) (ht.under_slice hd) hu hdi hi hx (A := some A) (n := len) (c := c) hroom (fun h => by cases h) (b := L.b) (o := L.o + off * te.size) (cur := cur) (fr := fr) (e' := e')
        (fun hm => by rw [ha.resolve_left (by omega)]) (fun _ => hbk) hfr (fun _ => by rw [hcsz, hsz, his, hnl]; omega)
      have hLsz : L.o + off * te.size + (L.cap - off) * te.size = L.o + L.cap * L.sz := by
        rw [hsz, Nat.add_assoc, ← Nat.add_mul]; congr 2; omega
      refine ⟨_, _, some ⟨L.b, L.o + off * te.size, L.cap - off, te.size⟩, L.b, hr, ?_, .inl ⟨L, rfl, rfl⟩, (fun h => by cases h), fun M hM => ?_⟩
      · split
        · exact ⟨rfl, rfl, rfl, Nat.le_refl _, fun _ _ _ => rfl⟩
        · exact Chg.of_setRow w L.b _
      · injection hM with hM
        subst hM
        have slice : ∃ a' c', Value.slice (some A) (len + m) c = .slice (some a') (len + m) c' ∧ len + m ≤ c' ∧ c' ≤ L.cap - off ∧ (full = true → c' = L.cap - off) ∧ (c' = 0 ∨ a' = ⟨L.b, L.o + off * te.size, none⟩) :=
          ⟨A, c, rfl, hroom, by omega, fun h => by have := hf h; omega, ha⟩
        by_cases hm : m = 0
        · subst hm
          have hnn : news = [] := List.eq_nil_of_length_eq_zero (by simpa using hnl)
          subst hnn
          rw [if_pos rfl]
          refine ⟨(fun h => by cases h), .inl ⟨L, rfl, rfl⟩, .inr ⟨L, rfl, rfl, rfl, fun cur t fr h => ⟨cur, fr, h⟩⟩, ⟨rfl, hlt, by show len + 0 ≤ L.cap - off; omega, cur, e', fr, hbk, by simp only; omega, hfr, fun j hj => ?_⟩, slice⟩
          simp only [List.append_nil, Nat.add_zero] at hj ⊢
          rw [his] at hole
          exact hole j hj
        · rw [if_neg hm]
          have hle : L.o + off * te.size + len * i.size + news.length ≤ cur.size := by rw [hcsz, hsz, his, hnl]; omega
          refine ⟨(fun h => by cases h), .inl ⟨L, rfl, rfl⟩, .inr ⟨L, rfl, rfl, rfl, tyKept hbk (setRow_heap w L.b cur _ e' fr hbk)⟩, ⟨rfl, by simp; exact hlt, by show len + m ≤ L.cap - off; omega, _, e', fr, setRow_heap w L.b cur _ e' fr hbk, ?_, ?_, fun j hj => ?_⟩, slice⟩
          · rw [splice_size cur _ news hle]; simp only; omega
          · rw [splice_size cur _ news hle]; exact hfr
          · rw [splice_get cur _ news hle]
            simp only
            rw [Nat.add_mul] at hj
            by_cases h1 : j < len * te.size
            · rw [if_pos (by rw [his]; omega), List.getElem?_append_left (by rw [holen, his]; exact h1)]
              rw [his] at hole
              exact hole j h1
            · rw [if_neg (by rw [his]; omega), if_pos (by rw [his, hnl]; omega), List.getElem?_append_right (by rw [holen, his]; omega)]
              congr 1
              rw [holen, his]
              omega
    · refine grow (some A) (fun w' hw' => ?_) (by omega)
      have hcell : ∀ j v, olds[j]? = some v → w'.cell? (A.add j) = some v := by
        intro j v hj
        have hjl : j < len * i.size := by
          rw [← holen]
          exact (List.getElem?_eq_some_iff.1 hj).1
        have hlen0 : 0 < len := by
          rcases Nat.eq_zero_or_pos len with h | h
          · rw [h] at hjl; simp at hjl
          · exact h
        rw [ha.resolve_left (by omega), cell_off]
        have : w'.heap[L.b]? = some (.cells cur e' fr) := by rw [hw']; exact hbk
        rw [cell_of_row' this, ← his, hole j hjl, hj]
      exact run_firstCells_some w' i.size len A len c olds holen hcell
def srcI (rows : Nat → Option Row) (k : IntKind) (x : PV) (K : List Int → Prop) : Prop :=
  match x with
  | .ints k' l => k = k' ∧ K l
  | .str l => k = .u8 ∧ K l
  | .nil => K []
  | .sl r off len _ => match rows r with
    | some (.ints k' l) => k = k' ∧ off + len ≤ l.length ∧ K ((l.drop off).take len)
    | _ => False
  | _ => False
def srcL (rows : Nat → Option Row) (sz : Nat) (x : PV) (K : List PV → Prop) : Prop :=
  match x with
  | .list sz' l => sz = sz' ∧ K l
  | .nil => K []
  | .sl r off len _ => match rows r with
    | some (.list sz' l) => sz = sz' ∧ off + len ≤ l.length ∧ K ((l.drop off).take len)
    | _ => False
  | _ => False
theorem src_slice {A : Option Addr} {m c sz : Nat} {news : List Value} (hl : news.length = m * sz) (h1 : ∀ u ∈ news, u.oneCell' = true) (hA : A = none → m = 0) (hc : ∀ a, A = some a → ∀ j u, news[j]? = some u → w.cell? (a.add j) = some u) :
    Src P w sz (.slice A m c) m news := by
  refine ⟨fun w' => by simp [Builtin.lenOf], fun w' hw' k hk => ?_, hl, h1⟩
  cases A with
  | none =>
    obtain rfl := hA rfl
    have : news = [] := List.eq_nil_of_length_eq_zero (by simpa using hl)
    subst this
    obtain rfl : k = 0 := by omega
    simp [Builtin.firstCells]
  | some a =>
    have hlen : (news.take (k * sz)).length = k * sz := by
      rw [List.length_take, hl]
      exact Nat.min_eq_left (Nat.mul_le_mul_right _ hk)
    refine run_firstCells_some w' sz k a m c (news.take (k * sz)) hlen fun j u hj => ?_
    rw [World.cell?_of_block (w := w) (by rw [hw'])]
    refine hc a rfl j u ?_
    rw [List.getElem?_take] at hj
    split at hj
    · exact hj
    · cases hj
theorem getElem?_mapInt (k : IntKind) (l : List Int) (j : Nat) (u : Value) (h : (l.map (Value.int k))[j]? = some u) : j < l.length ∧ u = .int k (l.getD j 0) := by
  rw [List.getElem?_map] at h
  cases hj : l[j]? with
  | none => rw [hj] at h; cases h
  | some x =>
    rw [hj] at h
    injection h with h
    exact ⟨(List.getElem?_eq_some_iff.1 hj).1, by simp [List.getD, hj, ← h]⟩
theorem oneInt (k : IntKind) (l : List Int) : ∀ u ∈ l.map (Value.int k), u.oneCell' = true := by
  intro u hu
  obtain ⟨x, _, rfl⟩ := List.mem_map.1 hu
  rfl
theorem srcI_sound (hrows : RowsOk w ow loc n rows) {k : IntKind} {x : PV} {v : Value} {K : List Int → Prop} (hp : RV w ow loc x v) (h : srcI rows k x K) : ∃ l, K l ∧ Src P w 1 v l.length (l.map (Value.int k)) := by
  unfold srcI at h
  split at h
  · rename_i k' l
    obtain ⟨rfl, hk⟩ := h
    obtain ⟨A, cap, rfl, hc, hn, hl⟩ := rv_ints hp
    refine ⟨l, hk, src_slice (by simp) (oneInt k l) (fun e => by rw [(hn e).1]; rfl) fun a ha j u hj => ?_⟩
    obtain ⟨hjl, rfl⟩ := getElem?_mapInt k l j u hj
    obtain ⟨b, o, he, _, hm⟩ := hl (by rintro rfl; simp at hjl)
    rw [ha] at he; injection he with he; subst he
    rw [cell_off]; exact hm j hjl
  · rename_i l
    obtain ⟨rfl, hk⟩ := h
    obtain ⟨s, rfl, rfl⟩ := rv_str hp
    refine ⟨_, hk, ⟨fun w' => by simp [Builtin.lenOf, bytesI_length], fun w' _ m hm => ?_, by simp, oneInt _ _⟩⟩
    have e : ((s.extract 0 m).data.map fun b => Value.int .u8 b.toNat) = (((bytesI s).map (Value.int .u8)).take (m * 1)).toArray := by
      apply Array.ext'
      have := bytesI_extract s 0 m
      simp only [List.drop_zero] at this
      rw [Nat.mul_one, ← List.map_take, ← this]
      simp [bytesI, List.map_map, Function.comp_def]
    simp only [Builtin.firstCells]
    rw [e]
    rfl
  · obtain rfl := rv_nil hp
    exact ⟨[], h, src_slice (by simp) (by simp) (fun _ => rfl) fun a ha => by cases ha⟩
  · rename_i r off len full
    cases hrw : rows r with
    | none => rw [hrw] at h; exact h.elim
    | some row =>
      rw [hrw] at h
      cases row with
      | list => exact h.elim
      | var => exact h.elim
      | ints k' l =>
        obtain ⟨rfl, hle, hk⟩ := h
        obtain ⟨L', hL', hat⟩ := hrows.at_ r _ hrw
        have hlen : ((l.drop off).take len).length = len := by simp; omega
        refine ⟨_, hk, ?_⟩
        rw [hlen]
        cases hp with
        | data _ _ hd => cases hd
        | dang _ _ _ _ a m c hl => exact absurd hl (hrows.ne hrw)
        | slnil _ _ hl =>
          rw [hL'] at hl; injection hl with hl; subst hl
          have : l = [] := hat
          subst this
          exact src_slice (by simp) (by simp) (fun _ => rfl) fun a ha => by cases ha
        | sl _ _ _ _ L a c hl hlc hc hf ha =>
          rw [hL'] at hl; injection hl with hl; subst hl
          obtain ⟨cur, el, fr, hb, hsz, hfr, hs1, hlc', hcell⟩ := hat
          refine src_slice (by simpa using hlen) (oneInt _ _) (fun e => by cases e) fun a' ha' j u hj => ?_
          injection ha' with ha'
          subst ha'
          obtain ⟨hjl, rfl⟩ := getElem?_mapInt k _ j u hj
          rw [hlen] at hjl
          rw [ha.resolve_left (by omega), cell_off, cell_of_row' hb, hs1, Nat.mul_one, Nat.add_assoc, hcell _ (by omega)]
          simp [List.getD, hjl]
  · exact h.elim
def Laid (w : World) (ow : Nat → Prop) (sz : Nat) (l : List PV) (vals : List Value) : Prop :=
  vals.length = l.length * sz ∧ ∀ i, i < l.length → (cellsOf (l.getD i .undef)).length = sz ∧ ∀ j, j < sz → ∃ u, vals[i * sz + j]? = some u ∧ u.oneCell' = true ∧ RD w ow ((cellsOf (l.getD i .undef)).getD j .undef) u
theorem Laid.nil (sz : Nat) : Laid w ow sz [] [] := ⟨by simp, fun i hi => by simp at hi⟩
theorem laid_of (sz : Nat) (hpos : 0 < sz) (l : List PV) (us : Nat → Nat → Value) (hz : ∀ i, i < l.length → (cellsOf (l.getD i .undef)).length = sz) (h1 : ∀ i j, i < l.length → j < sz → (us i j).oneCell' = true)
    (hd : ∀ i j, i < l.length → j < sz → RD w ow ((cellsOf (l.getD i .undef)).getD j .undef) (us i j)) :
    ∃ vals, Laid w ow sz l vals ∧ (∀ u ∈ vals, u.oneCell' = true) ∧ ∀ k u, vals[k]? = some u → k / sz < l.length ∧ k % sz < sz ∧ u = us (k / sz) (k % sz) := by
  have hdiv : ∀ k, k < l.length * sz → k / sz < l.length := fun k hk => (Nat.div_lt_iff_lt_mul hpos).2 hk
  refine ⟨(List.range (l.length * sz)).map fun k => us (k / sz) (k % sz), ⟨by simp, fun i hi => ⟨hz i hi, fun j hj => ⟨us i j, ?_, h1 i j hi hj, hd i j hi hj⟩⟩⟩, ?_, ?_⟩
  · have hlt : i * sz + j < l.length * sz := by
      have : (i + 1) * sz ≤ l.length * sz := Nat.mul_le_mul_right _ hi
      rw [Nat.add_mul, Nat.one_mul] at this
      omega
    have e1 : (i * sz + j) / sz = i := by rw [Nat.add_comm, Nat.add_mul_div_right _ _ hpos, Nat.div_eq_of_lt hj, Nat.zero_add]
    have e2 : (i * sz + j) % sz = j := by rw [Nat.add_comm, Nat.add_mul_mod_self_right, Nat.mod_eq_of_lt hj]
    simp [hlt, e1, e2]
  · intro u hu
    obtain ⟨k, hk, rfl⟩ := List.mem_map.1 hu
    exact h1 _ _ (hdiv k (List.mem_range.1 hk)) (Nat.mod_lt _ hpos)
  · intro k u hu
    rw [List.getElem?_map] at hu
    cases hk : (List.range (l.length * sz))[k]? with
    | none => rw [hk] at hu; cases hu
    | some x =>
      rw [hk] at hu
      injection hu with hu
      have hlt := (List.getElem?_eq_some_iff.1 hk).1
      rw [List.length_range] at hlt
      have hx : x = k := by rw [List.getElem?_range hlt] at hk; injection hk with hk; exact hk.symm
      subst hx
      exact ⟨hdiv _ hlt, Nat.mod_lt _ hpos, hu.symm⟩
theorem srcL_sound (hrows : RowsOk w ow loc n rows) {sz : Nat} (hpos : 0 < sz) {x : PV} {v : Value} {K : List PV → Prop} (hp : RV w ow loc x v) (h : srcL rows sz x K) : ∃ l, K l ∧ ∃ news, Src P w sz v l.length news ∧ Laid w ow sz l news := by
  unfold srcL at h
  split at h
  · rename_i sz' l
    obtain ⟨rfl, hk⟩ := h
    obtain ⟨A, cap, rfl, hc, hn, hl⟩ := rv_list hp
    by_cases hne : l = []
    · subst hne
      exact ⟨[], hk, [], src_slice (by simp) (by simp) (fun _ => rfl) (fun a ha j u hj => by simp at hj), Laid.nil sz⟩
    · obtain ⟨_, b, o, us, rfl, _, hz, hm, h1, hd⟩ := hl hne
      obtain ⟨vals, hlaid, hone, hget⟩ := laid_of sz hpos l us hz h1 hd
      refine ⟨l, hk, vals, src_slice hlaid.1 hone (fun e => by cases e) fun a ha j u hj => ?_, hlaid⟩
      injection ha with ha
      subst ha
      obtain ⟨h2, h3, rfl⟩ := hget j u hj
      rw [cell_off, ← hm _ _ h2 h3]
      congr 2
      have := Nat.div_add_mod j sz
      rw [Nat.mul_comm] at this
      omega
  · obtain rfl := rv_nil hp
    exact ⟨[], h, [], src_slice (by simp) (by simp) (fun _ => rfl) (fun a ha => by cases ha), Laid.nil sz⟩
  · rename_i r off len full
    cases hrw : rows r with
    | none => rw [hrw] at h; exact h.elim
    | some row =>
      rw [hrw] at h
      cases row with
      | ints => exact h.elim
      | var => exact h.elim
      | list sz' l =>
        obtain ⟨rfl, hle, hk⟩ := h
        obtain ⟨L', hL', hat⟩ := hrows.at_ r _ hrw
        have hlen : ((l.drop off).take len).length = len := by simp; omega
        refine ⟨_, hk, ?_⟩
        rw [hlen]
        cases hp with
        | data _ _ hd => cases hd
        | dang _ _ _ _ a m c hl => exact absurd hl (hrows.ne hrw)
        | slnil _ _ hl =>
          rw [hL'] at hl; injection hl with hl; subst hl
          have : l = [] := hat
          subst this
          exact ⟨[], src_slice (by simp) (by simp) (fun _ => rfl) (fun a ha => by cases ha), by simpa using Laid.nil sz⟩
        | sl _ _ _ _ L a c hl hlc hc hf ha =>
          rw [hL'] at hl; injection hl with hl; subst hl
          obtain ⟨cur, el, fr, hb, hsz, hfr, hs1, _, hlc', hcell⟩ := hat
          have hget : ∀ i, i < len → ((l.drop off).take len).getD i .undef = l.getD (off + i) .undef := fun i hi => by simp [List.getD, hi]
          have hcur : ∀ i j, i < len → j < sz → ∃ u, cur[L.o + ((off + i) * sz + j)]? = some u ∧ u.oneCell' = true ∧ RD w ow ((cellsOf (l.getD (off + i) .undef)).getD j .undef) u := fun i j hi hj => (hcell (off + i) (by omega)).2 j hj
          obtain ⟨vals, hlaid, hone, hgv⟩ := laid_of (w := w) (ow := ow) sz hpos ((l.drop off).take len) (fun i j => cur.getD (L.o + ((off + i) * sz + j)) undef) (fun i hi => by rw [hlen] at hi; rw [hget i hi]; exact (hcell _ (by omega)).1)
            (fun i j hi hj => by rw [hlen] at hi; obtain ⟨u, h1, h2, _⟩ := hcur i j hi hj; rw [Array.getD_eq_getD_getElem?, h1]; exact h2)
            (fun i j hi hj => by rw [hlen] at hi; obtain ⟨u, h1, _, h3⟩ := hcur i j hi hj; rw [Array.getD_eq_getD_getElem?, h1, hget i hi]; exact h3)
          refine ⟨vals, src_slice (by rw [hlaid.1, hlen]) hone (fun e => by cases e) fun a' ha' j u hj => ?_, hlaid⟩
          injection ha' with ha'
          subst ha'
          obtain ⟨h2, h3, rfl⟩ := hgv j u hj
          rw [hlen] at h2
          obtain ⟨u, h4, _, _⟩ := hcur _ _ h2 h3
          have hc0 : c ≠ 0 := Nat.ne_of_gt (Nat.lt_of_lt_of_le (Nat.lt_of_le_of_lt (Nat.zero_le _) h2) hlc)
          rw [ha.resolve_left hc0, cell_off, cell_of_row' hb, hs1, Array.getD_eq_getD_getElem?, h4, Option.getD_some, ← h4]
          congr 1
          have := Nat.div_add_mod j sz
          rw [Nat.mul_comm] at this
          rw [Nat.add_mul]
          omega
  · exact h.elim
end
def killG (kl : Option Nat) (get : Nat → PV) : Nat → PV :=
  match kl with
  | none => get
  | some r => fun t => kill r (get t)
def baseI (rows : Nat → Option Row) (k : IntKind) (s : PV) (K : Option (Nat × Bool × Nat) → List Int → Prop) : Prop :=
  match s with
  | .nil => K none []
  | .sl r off len full => match rows r with
    | some (.ints k' l) => k = k' ∧ off + len ≤ l.length ∧ K (some (r, full, off)) ((l.drop off).take len)
    | _ => False
  | _ => False
def baseL (rows : Nat → Option Row) (sz : Nat) (s : PV) (K : Option (Nat × Bool × Nat) → List PV → Prop) : Prop :=
  match s with
  | .nil => K none []
  | .sl r off len full => match rows r with
    | some (.list sz' l) => sz = sz' ∧ off + len ≤ l.length ∧ K (some (r, full, off)) ((l.drop off).take len)
    | _ => False
  | _ => False
def putRes (H : Heap) (e : TypeId) (b : Option (Nat × Bool × Nat)) (n : Nat) (row : Row) (K : PV → Heap → Option Nat → Prop) : Prop :=
  match b with
  | none => K (.sl H.nx 0 n true) (H.newT e row) none
  | some (r, full, off) => K (.sl r 0 n full) (H.moveT e off r row) (some r)
def notInt : TD → Bool
  | .slice _ | .str => true
  | _ => false
def appW (tt : Tab) (t u : TypeId) (s x : PV) (H : Heap) (K : PV → Heap → Option Nat → Prop) : Prop :=
  match tt t, tt u with
  | some ti, some ui => notInt ui.desc = true ∧ (match ti.desc with
    | .slice e => match tt e with
      | some te => 0 < te.size ∧ (match te.desc with
        | .int k => te.size = 1 ∧ baseI H.get k s fun b l => srcI H.get k x fun xs =>
          (l.length + xs.length ≤ 9223372036854775807 ∧ (l.length + xs.length) * te.bytes ≤ 140737488355328) ∧ putRes H e b (l.length + xs.length) (.ints k (l ++ xs)) K
        | _ => baseL H.get te.size s fun b l => srcL H.get te.size x fun xs =>
          (l.length + xs.length ≤ 9223372036854775807 ∧ (l.length + xs.length) * te.bytes ≤ 140737488355328) ∧ putRes H e b (l.length + xs.length) (.list te.size (l ++ xs)) K)
      | none => False
    | _ => False)
  | _, _ => False
section
variable {P : Program} {w w' : World} {ow ow' : Nat → Prop} {loc loc' : Locs} {n nt : Nat} {E : Entry P} {H : Heap} {F : Frame} {a : Act} {tt : Tab} {rows : Nat → Option Row}
theorem HS.newNil (h : HS E H ow loc w) {row : Row} (hat : RowAt w ow (locNew loc H.nx none) none row) (hnv : ∀ l, row ≠ .var l) : HS E (H.new row) ow (locNew loc H.nx none) w := by
  have hs := Stable.refl ow w
  have hlo : ∀ r, r < H.nx → locNew loc H.nx none r = loc r ∨ locNew loc H.nx none r = none := fun r hr => .inl (by simp [locNew, Nat.ne_of_lt hr])
  refine ⟨?_, ?_, ?_, h.old, h.size, h.os, h.tape, h.output, ?_, h.owlt, h.forb, h.alt, ?_, ?_, h.gh.newLoc hs (fun _ _ h => h) hlo (Nat.le_succ _), fun r' t ht => ⟨Nat.lt_succ_of_lt (h.ty r' t ht).1, fun L' hL' => (h.ty r' t ht).2 L' (by
    have e : locNew loc H.nx none r' = loc r' := by simp [locNew, Nat.ne_of_lt (h.ty r' t ht).1]
    rw [← e]; exact hL')⟩⟩
  · intro r row' hr
    rw [Heap.get_new] at hr
    split at hr
    · rename_i e; subst e; injection hr with hr; subst hr
      exact ⟨none, by simp [locNew], hat⟩
    · rename_i hne
      obtain ⟨L', hL', hat'⟩ := h.rows r row' hr
      exact ⟨L', by simp [locNew, Ne.symm hne, hL'], hat'.mono (n := H.nx) hs (fun _ _ h => h) hlo (fun l e => h.refs r l (by rw [hr, e])) fun M hM => rfl⟩
  · intro r L' hr
    unfold locNew at hr
    split at hr
    · cases hr
    · exact h.live r L' hr
  · intro r r' L1 L2 h1 h2 e
    unfold locNew at h1 h2
    split at h1 <;> split at h2
    · cases h1
    · cases h1
    · cases h2
    · exact h.inj r r' L1 L2 h1 h2 e
  · intro r hr
    have hr' : H.nx + 1 ≤ r := hr
    simp only [locNew]
    rw [if_neg (by omega)]
    exact h.nx r (by omega)
  · intro r L' hr
    unfold locNew at hr
    split at hr
    · cases hr
    · exact h.apart r L' hr
  · intro r l hr j hj
    rw [Heap.get_new] at hr
    split at hr
    · injection hr with hr; exact absurd hr (hnv l)
    · exact (h.refs r l hr j hj).mono (by show H.nx ≤ H.nx + 1; omega)
theorem app_fin (hs : HS E H ow loc w) {s : Sem Value} {e : TypeId} {b : Option (Nat × Bool × Nat)} {Lo L' : Option RowLoc} {full : Bool} {k off sz : Nat} {row : Row} {cv : Value} {blk : Nat} {K : PV → Heap → Option Nat → Prop}
    (hbase : match b with | none => Lo = none ∧ full = true | some (r, f, o) => loc r = some Lo ∧ full = f ∧ off = o)
    (hrun : s.run P w = .ok cv w') (hc : Chg w w' blk) (hbo : (∃ L, Lo = some L ∧ blk = L.b) ∨ w.heap.size ≤ blk) (hnil : L' = none → k = 0 ∧ cv = .slice none 0 0 ∧ w' = w)
    (hsome : ∀ M, L' = some M → ((∃ L, Lo = some L ∧ M.b = L.b) ∨ (w.heap.size ≤ M.b)) ∧ M.b < w'.heap.size ∧ ∃ a' c', cv = .slice (some a') k c' ∧ k ≤ c' ∧ c' ≤ M.cap ∧ (full = true → c' = M.cap) ∧ (c' = 0 ∨ a' = ⟨M.b, M.o, none⟩))
    (hblk : Lo = none → ∀ M, L' = some M → blk = M.b) (hty : ∀ M, L' = some M → TyAt w w' e off sz Lo M)
    (hat : ∀ ow' loc', Stable ow w w' → (∀ b, b < w.heap.size → ow' b → ow b) → RowAt w' ow' loc' L' row) (hnv : ∀ l, row ≠ .var l) (h : putRes H e b k row K) :
    ∃ q H' kl, K q H' kl ∧ ∃ cv w' ow' loc', s.run P w = .ok cv w' ∧ HS E H' ow' loc' w' ∧ Stable ow w w' ∧ (∀ b, b < w.heap.size → ow' b → ow b) ∧ RV w' ow' loc' q cv ∧ Refs H'.nx q ∧ ∀ get a, FS w ow loc H.nx get a → FS w' ow' loc' H'.nx (killG kl get) a := by
  cases b with
  | none =>
    obtain ⟨rfl, rfl⟩ := hbase
    cases L' with
    | none =>
      obtain ⟨rfl, rfl, rfl⟩ := hnil rfl
      have hb : ∀ b, b < w'.heap.size → ow b → ow b := fun _ _ h => h
      refine ⟨_, _, _, h, _, _, ow, locNew loc H.nx none, hrun, (hs.newNil (hat _ _ (Stable.refl _ _) hb) hnv).typed (r := H.nx) (t := e) (Nat.lt_succ_self _) (fun L hL => by simp [locNew] at hL), Stable.refl _ _, hb, ?_, .sl _ _ _ _ (Nat.lt_succ_self _), fun get a hf => hf.new (Stable.refl _ _) hb⟩
      exact .slnil _ _ (by simp [locNew])
    | some M =>
      obtain ⟨hM, hlt, a', c', rfl, h1, h2, h3, h4⟩ := hsome M rfl
      have hMb : w.heap.size ≤ M.b := hM.resolve_left (by rintro ⟨L, e, _⟩; cases e)
      obtain rfl := hblk rfl M rfl
      have hst : Stable ow w w' := Stable.of_chg_new hc hMb ow
      have hb : ∀ b, b < w.heap.size → (ow b ∨ b = M.b) → ow b := fun b hlt h => h.elim id (fun e => by omega)
      have hL : locNew loc H.nx (some M) H.nx = some (some M) := by simp [locNew]
      refine ⟨_, _, _, h, _, _, fun b => ow b ∨ b = M.b, locNew loc H.nx (some M), hrun, (hs.new hc hMb hlt (hat _ _ hst hb) (fun l e => absurd e (hnv l))).typed (r := H.nx) (t := e) (Nat.lt_succ_self _) (fun L hL2 => by
        rw [hL] at hL2
        injection hL2 with hL2
        injection hL2 with hL2
        subst hL2
        rcases hty M rfl with ⟨h1, cur, fr, h2⟩ | ⟨L, h1, _⟩
        · exact ⟨cur, fr, h2, h1⟩
        · cases h1), hst, hb, ?_, .sl _ _ _ _ (Nat.lt_succ_self _), fun get a hf => hf.new hst hb⟩
      exact .sl _ _ _ _ M _ _ hL h1 (by omega) (fun e => by rw [h3 e]; omega) (by simpa using h4)
  | some rf =>
    obtain ⟨r, f, o⟩ := rf
    obtain ⟨hLo, rfl, rfl⟩ := hbase
    have hrn : r < H.nx := by
      rcases Nat.lt_or_ge r H.nx with h1 | h1
      · exact h1
      · rw [hs.nx r h1] at hLo; cases hLo
    have hlive : ∀ L, Lo = some L → ow L.b := fun L e => (hs.live r L (by rw [hLo, e])).1
    have hb : ∀ b, b < w.heap.size → (ow b ∨ ∃ M, L' = some M ∧ b = M.b) → ow b := by
      rintro b hlt (h | ⟨M, hM, rfl⟩)
      · exact h
      · rcases (hsome M hM).1 with ⟨L, e, e2⟩ | h2
        · rw [e2]; exact hlive L e
        · omega
    have hst : Stable ow w w' := by
      rcases hbo with ⟨L, e, rfl⟩ | hbo
      · exact Stable.of_chg hc (hlive L e)
      · exact Stable.of_chg_new hc hbo ow
    obtain ⟨hHS, _⟩ := hs.move (L' := L') (row := row) (ow' := fun b => ow b ∨ ∃ M, L' = some M ∧ b = M.b) hLo hc hbo (fun b h => .inl h) hb (fun M hM => ⟨.inr ⟨M, hM, rfl⟩, (hsome M hM).2.1, (hsome M hM).1⟩) (fun b hb0 => hb0.elim (fun h1 => by have := hs.owlt b h1; have := hc.size; omega) (fun ⟨M, hM, e⟩ => by rw [e]; exact (hsome M hM).2.1)) (hat _ _ hst hb) hnv
    have hHS' : HS E (H.moveT e off r row) (fun b => ow b ∨ ∃ M, L' = some M ∧ b = M.b) (locSet loc r L') w' := by
      unfold Heap.moveT
      cases hc2 : hasT (getT H.ty r) e && off == 0 with
      | false => exact hHS
      | true =>
        simp only [Bool.and_eq_true, beq_iff_eq] at hc2
        obtain ⟨hc2, rfl⟩ := hc2
        have ht := hasT_spec hc2
        refine hHS.typed (r := r) (t := e) hrn fun M hM => ?_
        simp only [locSet, if_pos, Option.some.injEq] at hM
        rcases hty M hM with ⟨h1, cur, fr, h2⟩ | ⟨L, h1, h2, h3, h4⟩
        · exact ⟨cur, fr, h2, h1⟩
        · obtain ⟨cur, fr, h5, h6⟩ := (hs.ty r e ht).2 L (by rw [hLo, h1])
          obtain ⟨cur', fr', h7⟩ := h4 _ _ _ h5
          exact ⟨cur', fr', h7, by rw [h3, h6]; simp⟩
    refine ⟨_, _, _, h, _, _, _, _, hrun, hHS', hst, hb, ?_, .sl _ _ _ _ hrn, fun get a hf => hf.kill hst hb⟩
    cases L' with
    | none =>
      obtain ⟨rfl, rfl, rfl⟩ := hnil rfl
      exact .slnil _ _ (by simp [locSet])
    | some M =>
      obtain ⟨_, hlt, a', c', rfl, h1, h2, h3, h4⟩ := hsome M rfl
      exact .sl _ _ _ _ M _ _ (by simp [locSet]) h1 (by omega) (fun e => by rw [h3 e]; omega) (by simpa using h4)
theorem base_of (hrows : RowsOk w ow loc n rows) {r off len : Nat} {full : Bool} {v : Value} {row : Row} (hrw : rows r = some row) (hp : RV w ow loc (.sl r off len full) v) (sz : Nat) (hsz : ∀ L, RowAt w ow loc (some L) row → L.sz = sz) :
    ∃ Lo c, loc r = some Lo ∧ RowAt w ow loc Lo row ∧ Base w sz Lo off full v len c := by
  obtain ⟨Lo, hLo, hat⟩ := hrows.at_ r row hrw
  refine ⟨Lo, ?_⟩
  cases hp with
  | data _ _ hd => cases hd
  | dang _ _ _ _ a m c hl => exact absurd hl (hrows.ne hrw)
  | slnil _ _ hl =>
    rw [hLo] at hl; injection hl with hl; subst hl
    exact ⟨0, hLo, hat, .nil _ _⟩
  | sl _ _ _ _ L a c hl hlc hc hf ha =>
    rw [hLo] at hl; injection hl with hl; subst hl
    have := hsz L hat
    exact ⟨c, hLo, hat, .at_ L off full a len c hlc hc hf (by rwa [this] at ha) this⟩
theorem laid_append {sz : Nat} {l xs : List PV} {va vb : List Value} (h1 : Laid w ow sz l va) (h2 : Laid w ow sz xs vb) : Laid w ow sz (l ++ xs) (va ++ vb) := by
  refine ⟨by rw [List.length_append, List.length_append, h1.1, h2.1, Nat.add_mul], fun i hi => ?_⟩
  rw [List.length_append] at hi
  by_cases h : i < l.length
  · have e : (l ++ xs).getD i .undef = l.getD i .undef := by simp [List.getD, List.getElem?_append_left h]
    rw [e]
    refine ⟨(h1.2 i h).1, fun j hj => ?_⟩
    obtain ⟨u, hu, hr⟩ := (h1.2 i h).2 j hj
    refine ⟨u, ?_, hr⟩
    rw [List.getElem?_append_left ((List.getElem?_eq_some_iff.1 hu).1), hu]
  · have e : (l ++ xs).getD i .undef = xs.getD (i - l.length) .undef := by simp [List.getD, List.getElem?_append_right (Nat.le_of_not_lt h)]
    rw [e]
    refine ⟨(h2.2 _ (by omega)).1, fun j hj => ?_⟩
    obtain ⟨u, hu, hr⟩ := (h2.2 (i - l.length) (by omega)).2 j hj
    refine ⟨u, ?_, hr⟩
    have e2 : i * sz + j - va.length = (i - l.length) * sz + j := by
      rw [h1.1, Nat.sub_mul]
      have : l.length * sz ≤ i * sz := Nat.mul_le_mul_right _ (by omega)
      omega
    have hle : va.length ≤ i * sz + j := by
      rw [h1.1]
      have : l.length * sz ≤ i * sz := Nat.mul_le_mul_right _ (by omega)
      omega
    rw [List.getElem?_append_right hle, e2, hu]
theorem app_sound (hT : TabOk P tt) (hs : HS E H ow loc w) {t u ty : TypeId} {s x : PV} {vs vx : Value} {K : PV → Heap → Option Nat → Prop} (hps : RV w ow loc s vs) (hpx : RV w ow loc x vx) (h : appW tt t u s x H K) :
    ∃ q H' kl, K q H' kl ∧ ∃ cv w' ow' loc', (Builtin.append_ #[t, u] ty #[vs, vx]).run P w = .ok cv w' ∧ HS E H' ow' loc' w' ∧ Stable ow w w' ∧ (∀ b, b < w.heap.size → ow' b → ow b) ∧ RV w' ow' loc' q cv ∧ Refs H'.nx q ∧ ∀ get a, FS w ow loc H.nx get a → FS w' ow' loc' H'.nx (killG kl get) a := by
  have hrows := hs.rowsOk
  unfold appW at h
  cases hti : tt t with
  | none => rw [hti] at h; exact h.elim
  | some ti =>
  cases hui : tt u with
  | none => rw [hti, hui] at h; exact h.elim
  | some ui =>
  rw [hti, hui] at h
  obtain ⟨hni, h⟩ := h
  obtain ⟨d, hud, hdi⟩ : ∃ d, P.underlying u = some d ∧ ∀ k, d ≠ .int k := by
    obtain ⟨d, hu, he⟩ := (hT _ _ hui).ex
    refine ⟨d, hu, fun k e => ?_⟩
    subst e
    rw [← he] at hni
    simp [tdOf, notInt] at hni
  cases hd : ti.desc <;> rw [hd] at h <;> try exact h.elim
  rename_i e
  simp only at h
  cases hte : tt e with
  | none => rw [hte] at h; exact h.elim
  | some te =>
  rw [hte] at h
  obtain ⟨hpos, h⟩ := h
  have ht := hT _ _ hti
  have hte' := hT _ _ hte
  -- what the block of the row looks like
  have blkOf : ∀ (Lo : Option RowLoc) (row : Row), RowAt w ow loc Lo row → ∀ L, Lo = some L → ∃ cur e fr, w.heap[L.b]? = some (.cells cur e fr) ∧ cur.size = L.o + L.cap * L.sz ∧ unfrozen fr cur.size := by
    rintro Lo row hat L rfl
    obtain ⟨cur, e, fr, h1, h2, h3, _⟩ := hat
    exact ⟨cur, e, fr, h1, h2, h3⟩
  split at h
  · rename_i k hk
    obtain ⟨h1, h⟩ := h
    -- numbers
    have core : ∀ (b : Option (Nat × Bool × Nat)) (Lo : Option RowLoc) (off : Nat) (full : Bool) (len c : Nat) (l : List Int), l.length = len → Base w te.size Lo off full vs len c →
        (match b with | none => Lo = none ∧ full = true | some (r, f, o) => loc r = some Lo ∧ full = f ∧ off = o) →
        (∀ L, Lo = some L → ∃ cur e fr, w.heap[L.b]? = some (.cells cur e fr) ∧ cur.size = L.o + L.cap * L.sz ∧ unfrozen fr cur.size) →
        (∀ L, Lo = some L → ∀ cur e fr, w.heap[L.b]? = some (.cells cur e fr) → ∀ i, i < len * te.size → cur[L.o + off * te.size + i]? = (l.map (Value.int k))[i]?) →
        (srcI H.get k x fun xs => (l.length + xs.length ≤ 9223372036854775807 ∧ (l.length + xs.length) * te.bytes ≤ 140737488355328) ∧ putRes H e b (l.length + xs.length) (.ints k (l ++ xs)) K) →
        ∃ q H' kl, K q H' kl ∧ ∃ cv w' ow' loc', (Builtin.append_ #[t, u] ty #[vs, vx]).run P w = .ok cv w' ∧ HS E H' ow' loc' w' ∧ Stable ow w w' ∧ (∀ b, b < w.heap.size → ow' b → ow b) ∧ RV w' ow' loc' q cv ∧ Refs H'.nx q ∧ ∀ get a, FS w ow loc H.nx get a → FS w' ow' loc' H'.nx (killG kl get) a := by
      intro b Lo off full len c l hlen hbase hb hblk hold hsrc
      obtain ⟨xs, ⟨⟨h63, hfit⟩, hput⟩, hsr⟩ := srcI_sound hrows hpx hsrc
      rw [← h1] at hsr
      obtain ⟨cv, w', L', blk, hrun, hc, hbo, hnil, hsome⟩ := app_core (P := P) ht hd hte' hud hdi hpos hbase hblk (olds := l.map (Value.int k)) (by simp [hlen, h1]) hold hsr (by omega) (by rw [hlen] at hfit; exact hfit) ty
      refine app_fin hs (L' := L') (full := full) (row := .ints k (l ++ xs)) hb hrun hc hbo (fun h => by have := hnil h; rw [hlen]; exact this) (fun M hM => ?_) (fun h0 M hM => (hsome M hM).1 h0) (fun M hM => (hsome M hM).2.2.1) ?_ (fun l e => by cases e) hput
      · obtain ⟨_, h2, _, h3, h4⟩ := hsome M hM
        refine ⟨h2, h3.lt, ?_⟩
        rw [hlen]; exact h4
      · intro ow' loc' hst hb'
        cases L' with
        | none =>
          have := (hnil rfl).1
          have e1 : l = [] := List.eq_nil_of_length_eq_zero (by omega)
          have e2 : xs = [] := List.eq_nil_of_length_eq_zero (by omega)
          subst e1 e2
          exact rfl
        | some M =>
          obtain ⟨_, _, _, h3, _⟩ := hsome M rfl
          obtain ⟨cur, e', fr, h5, h6, h7, h8⟩ := h3.at_
          refine ⟨cur, e', fr, h5, h6, h7, h3.szs.trans h1, by rw [List.length_append, hlen]; exact h3.cap, fun i hi => ?_⟩
          rw [List.length_append, hlen] at hi
          rw [h8 i (by rw [h1]; omega), ← List.map_append, List.getElem?_map]
          have : i < (l ++ xs).length := by rw [List.length_append]; omega
          simp [List.getD, List.getElem?_eq_getElem this]
    unfold baseI at h
    split at h
    · obtain rfl := rv_nil hps
      exact core none none 0 true 0 0 [] rfl (.nil _ _) ⟨rfl, rfl⟩ (fun L h => by cases h) (fun L h => by cases h) h
    · rename_i r off len full
      cases hrw : H.get r with
      | none => rw [hrw] at h; exact h.elim
      | some row =>
        rw [hrw] at h
        cases row with
        | list => exact h.elim
        | var => exact h.elim
        | ints k' l =>
          obtain ⟨rfl, hle, h⟩ := h
          have hlen : ((l.drop off).take len).length = len := by simp; omega
          obtain ⟨Lo, c, hLo, hat, hbase⟩ := base_of hrows hrw hps te.size (fun L hat => by obtain ⟨_, _, _, _, _, _, hin⟩ := hat; rw [hin.1, h1])
          refine core (some (r, full, off)) Lo off full len c _ hlen hbase ⟨hLo, rfl, rfl⟩ (blkOf Lo _ hat) ?_ h
          rintro L rfl cur e' fr hbk i hi
          obtain ⟨cur', e2, fr', hbk', _, _, hin⟩ := hat
          rw [hbk] at hbk'
          injection hbk' with hbk'
          injection hbk' with hc1
          subst hc1
          rw [h1] at hi ⊢
          rw [Nat.mul_one] at hi ⊢
          rw [Nat.add_assoc, hin.2.2 _ (by omega), List.getElem?_map, List.getElem?_take, if_pos hi, List.getElem?_drop]
          have : off + i < l.length := by omega
          simp [List.getD, List.getElem?_eq_getElem this]
    · exact h.elim
  · -- other elements
    have core : ∀ (b : Option (Nat × Bool × Nat)) (Lo : Option RowLoc) (off : Nat) (full : Bool) (len c : Nat) (l : List PV) (va : List Value), l.length = len → Laid w ow te.size l va → Base w te.size Lo off full vs len c →
        (match b with | none => Lo = none ∧ full = true | some (r, f, o) => loc r = some Lo ∧ full = f ∧ off = o) →
        (∀ L, Lo = some L → ∃ cur e fr, w.heap[L.b]? = some (.cells cur e fr) ∧ cur.size = L.o + L.cap * L.sz ∧ unfrozen fr cur.size) →
        (∀ L, Lo = some L → ∀ cur e fr, w.heap[L.b]? = some (.cells cur e fr) → ∀ i, i < len * te.size → cur[L.o + off * te.size + i]? = va[i]?) →
        (srcL H.get te.size x fun xs => (l.length + xs.length ≤ 9223372036854775807 ∧ (l.length + xs.length) * te.bytes ≤ 140737488355328) ∧ putRes H e b (l.length + xs.length) (.list te.size (l ++ xs)) K) →
        ∃ q H' kl, K q H' kl ∧ ∃ cv w' ow' loc', (Builtin.append_ #[t, u] ty #[vs, vx]).run P w = .ok cv w' ∧ HS E H' ow' loc' w' ∧ Stable ow w w' ∧ (∀ b, b < w.heap.size → ow' b → ow b) ∧ RV w' ow' loc' q cv ∧ Refs H'.nx q ∧ ∀ get a, FS w ow loc H.nx get a → FS w' ow' loc' H'.nx (killG kl get) a := by
      intro b Lo off full len c l va hlen hlaid hbase hb hblk hold hsrc
      obtain ⟨xs, ⟨⟨h63, hfit⟩, hput⟩, vb, hsr, hlaid2⟩ := srcL_sound hrows hpos hpx hsrc
      obtain ⟨cv, w', L', blk, hrun, hc, hbo, hnil, hsome⟩ := app_core (P := P) ht hd hte' hud hdi hpos hbase hblk (olds := va) (by rw [hlaid.1, hlen]) hold hsr (by omega) (by rw [hlen] at hfit; exact hfit) ty
      refine app_fin hs (L' := L') (full := full) (row := .list te.size (l ++ xs)) hb hrun hc hbo (fun h => by have := hnil h; rw [hlen]; exact this) (fun M hM => ?_) (fun h0 M hM => (hsome M hM).1 h0) (fun M hM => (hsome M hM).2.2.1) ?_ (fun l e => by cases e) hput
      · obtain ⟨_, h2, _, h3, h4⟩ := hsome M hM
        refine ⟨h2, h3.lt, ?_⟩
        rw [hlen]; exact h4
      · intro ow' loc' hst hb'
        cases L' with
        | none =>
          have := (hnil rfl).1
          have e1 : l = [] := List.eq_nil_of_length_eq_zero (by omega)
          have e2 : xs = [] := List.eq_nil_of_length_eq_zero (by omega)
          subst e1 e2
          exact rfl
        | some M =>
          obtain ⟨_, _, _, h3, _⟩ := hsome M rfl
          obtain ⟨cur, e', fr, h5, h6, h7, h8⟩ := h3.at_
          obtain ⟨_, hboth⟩ := laid_append hlaid hlaid2
          refine ⟨cur, e', fr, h5, h6, h7, h3.szs, hpos, by rw [List.length_append, hlen]; exact h3.cap, fun i hi => ⟨(hboth i hi).1, fun j hj => ?_⟩⟩
          rw [List.length_append, hlen] at hi
          obtain ⟨u0, hu, h9, h10⟩ := (hboth i (by rw [List.length_append]; omega)).2 j hj
          refine ⟨u0, ?_, h9, h10.mono hst hb'⟩
          rw [← hu]
          refine h8 _ ?_
          have : (i + 1) * te.size ≤ (len + xs.length) * te.size := Nat.mul_le_mul_right _ hi
          rw [Nat.add_mul i, Nat.one_mul] at this
          omega
    unfold baseL at h
    split at h
    · obtain rfl := rv_nil hps
      exact core none none 0 true 0 0 [] [] rfl (Laid.nil _) (.nil _ _) ⟨rfl, rfl⟩ (fun L h => by cases h) (fun L h => by cases h) h
    · rename_i r off len full
      cases hrw : H.get r with
      | none => rw [hrw] at h; exact h.elim
      | some row =>
        rw [hrw] at h
        cases row with
        | ints => exact h.elim
        | var => exact h.elim
        | list sz' l =>
          obtain ⟨rfl, hle, h⟩ := h
          have hlen : ((l.drop off).take len).length = len := by simp; omega
          obtain ⟨Lo, c, hLo, hat, hbase⟩ := base_of hrows hrw hps te.size (fun L hat => by obtain ⟨_, _, _, _, _, _, hin⟩ := hat; exact hin.1)
          have hget : ∀ i, i < len → ((l.drop off).take len).getD i .undef = l.getD (off + i) .undef := fun i hi => by simp [List.getD, hi]
          cases Lo with
          | none =>
            have hl0 : l = [] := hat
            subst hl0
            have hz : len = 0 := by simp at hle; omega
            subst hz
            exact core (some (r, full, off)) none off full 0 c _ [] hlen (by simpa using Laid.nil te.size) hbase ⟨hLo, rfl, rfl⟩ (fun L h => by cases h) (fun L h => by cases h) h
          | some L =>
            obtain ⟨cur, e2, fr, hbk, hcsz, hfr, hs1, _, hlc, hcell⟩ := hat
            have hcur : ∀ i j, i < len → j < te.size → ∃ u, cur[L.o + ((off + i) * te.size + j)]? = some u ∧ u.oneCell' = true ∧ RD w ow ((cellsOf (l.getD (off + i) .undef)).getD j .undef) u := fun i j hi hj => (hcell (off + i) (by omega)).2 j hj
            obtain ⟨va, hlaid, hone, hgv⟩ := laid_of (w := w) (ow := ow) te.size hpos ((l.drop off).take len) (fun i j => cur.getD (L.o + ((off + i) * te.size + j)) undef) (fun i hi => by rw [hlen] at hi; rw [hget i hi]; exact (hcell _ (by omega)).1)
              (fun i j hi hj => by rw [hlen] at hi; obtain ⟨u, h1, h2, _⟩ := hcur i j hi hj; rw [Array.getD_eq_getD_getElem?, h1]; exact h2)
              (fun i j hi hj => by rw [hlen] at hi; obtain ⟨u, h1, _, h3⟩ := hcur i j hi hj; rw [Array.getD_eq_getD_getElem?, h1, hget i hi]; exact h3)
            refine core (some (r, full, off)) (some L) off full len c _ va hlen hlaid hbase ⟨hLo, rfl, rfl⟩ (blkOf (some L) (.list te.size l) ⟨cur, e2, fr, hbk, hcsz, hfr, hs1, hpos, hlc, hcell⟩) ?_ h
            intro L2 hL2 cur' e' fr' hbk' i hi
            injection hL2 with hL2
            subst hL2
            rw [hbk] at hbk'
            injection hbk' with hbk'
            injection hbk' with hc1
            subst hc1
            have hvl : va.length = len * te.size := by rw [hlaid.1, hlen]
            obtain ⟨u0, hu0⟩ : ∃ u0, va[i]? = some u0 := ⟨va[i]'(by omega), List.getElem?_eq_getElem (by omega)⟩
            obtain ⟨h2, h3, he⟩ := hgv i u0 hu0
            rw [hlen] at h2
            obtain ⟨u, h4, _, _⟩ := hcur _ _ h2 h3
            rw [hu0, he, Array.getD_eq_getD_getElem?, h4, Option.getD_some, ← h4]
            congr 1
            have := Nat.div_add_mod i te.size
            rw [Nat.mul_comm] at this
            rw [Nat.add_mul]
            omega
    · exact h.elim
end
def copyW (tt : Tab) (t : TypeId) (s x : PV) (H : Heap) (K : PV → Heap → Prop) : Prop :=
  match tt t with
  | some ti => match ti.desc, s with
    | .slice e, .sl r off len _ => match tt e, H.get r with
      | some te, some (.ints k l) => te.size = 1 ∧ off + len ≤ l.length ∧ srcI H.get k x fun xs =>
        K (.int .i64 (min xs.length len : Nat)) (H.set r (.ints k (l.take off ++ xs.take (min xs.length len) ++ l.drop (off + min xs.length len))))
      | _, _ => False
    | _, _ => False
  | none => False
def view0 (rows : Nat → Option Row) : PV → PV
  | .sl r off len _ => match rows r with
    | some (.ints k l) => .ints k ((l.drop off).take len)
    | some (.list sz l) => .list sz ((l.drop off).take len)
    | _ => .undef
  | .agg _ => .undef
  | .tup _ => .undef
  | .ptr .. => .undef
  | .rptr .. => .undef
  | p => p
def view (rows : Nat → Option Row) : PV → PV
  | .agg l => .agg (l.map (view0 rows))
  | p => view0 rows p
def okView0 (rows : Nat → Option Row) : PV → Prop
  | .sl r off len _ => match rows r with
    | some (.ints _ l) => off + len ≤ l.length
    | some (.list _ l) => off + len ≤ l.length
    | _ => True
  | _ => True
def okViews0 (rows : Nat → Option Row) : List PV → Prop
  | [] => True
  | p :: rest => okView0 rows p ∧ okViews0 rows rest
def okView (rows : Nat → Option Row) : PV → Prop
  | .agg l => okViews0 rows l
  | p => okView0 rows p
def okViews (rows : Nat → Option Row) : List PV → Prop
  | [] => True
  | p :: rest => okView rows p ∧ okViews rows rest
def ids0 : PV → List Nat
  | .sl r _ _ _ => [r]
  | _ => []
def ids : PV → List Nat
  | .agg l => l.flatMap ids0
  | p => ids0 p
def Back (w : World) (A : Nat → Prop) (res : PV) (v : Value) (w' : World) : Prop := Below w.heap.size w w' ∧ RD w' A res v
def CallsTo (P : Program) (f : FuncId) (vs : Array Value) (w : World) (R : Value → World → Prop) : Prop :=
  ((callFunc f vs).run P w = .ok (.enter f vs) w ∧ Calls P f vs w fun e w' => ∃ v, e = .returned v ∧ R v w') ∨ ∃ v w', (callFunc f vs).run P w = .ok (.value v) w' ∧ R v w'
structure Meets (P : Program) (f : FuncId) (args : List PV) (res : PV) : Prop where
  run : ∀ (w : World) (A : Nat → Prop) (vs : Array Value), (Tabs P w ∧ ∀ b, A b → b < w.heap.size) → args.length = vs.size → (∀ i, i < args.length → RD w A (args.getD i .undef) (vs.getD i undef)) → CallsTo P f vs w (Back w A res)
def dropRows (l : List Nat) : List (Nat × Row) → List (Nat × Row)
  | [] => []
  | (k, row) :: rest => bif l.contains k then dropRows l rest else (k, row) :: dropRows l rest
def Heap.drop (H : Heap) (l : List Nat) : Heap := { H with rows := dropRows l H.rows }
def callW (P : Program) (f : FuncId) (args : List PV) (H : Heap) (K : PV → Heap → Prop) : Prop :=
  okViews H.get args ∧ ∃ res, Meets P f (args.map (view H.get)) res ∧ (match flatB res || args.all dataB with
    | true => K res H
    | false => K res (H.drop (args.flatMap ids)))
structure HMeets (P : Program) (f : FuncId) (args : List PV) (H : Heap) (R : PV → Heap → Prop) : Prop where
  run : ∀ (E : Entry P) (ow : Nat → Prop) (loc : Locs) (w : World) (vs : Array Value), HS E H ow loc w → args.length = vs.size →
    (∀ i, i < args.length → RV w ow loc (args.getD i .undef) (vs.getD i undef) ∧ Refs H.nx (args.getD i .undef)) →
    CallsTo P f vs w fun v w' => ∃ res H' ow' loc', R res H' ∧ HS E H' ow' loc' w' ∧ RV w' ow' loc' res v ∧ Refs H'.nx res
def callI (P : Program) (f : FuncId) (args : List PV) (F : Frame) (H : Heap) (K : PV → Frame → Heap → Prop) : Prop :=
  HMeets P f args ⟨H.nx, H.rows, F :: H.g, H.ty⟩ fun res H' => ∃ F' g', H'.g = F' :: g' ∧ K res F' ⟨H'.nx, H'.rows, g', H'.ty⟩
inductive Ph.{u} {α : Sort u} (a : α) : Type where
  | mk : Ph a
def callB (P : Program) (f : FuncId) (args : List PV) (F : Frame) (H : Heap) (K : PV → Frame → Heap → Prop) (_ : Ph K) : Prop :=
  callW P f args H (fun q H' => K q F H') ∨ callI P f args F H K
def isBytes (tt : Tab) (src dst : TypeId) : Bool :=
  match tt src, tt dst with
  | some s, some d => match s.desc, d.desc with
    | .str, .slice e => match tt e with
      | some te => match te.desc with
        | .int .u8 => true
        | _ => false
      | none => false
    | _, _ => false
  | _, _ => false
def elemT (tt : Tab) (t : TypeId) : TypeId :=
  match tt t with
  | some d => match d.desc with
    | .slice e => e
    | _ => 0
  | none => 0
def strBytesW (e : TypeId) (p : PV) (H : Heap) (K : PV → Heap → Prop) : Prop :=
  match p with
  | .str l => l.length ≤ 9223372036854775807 ∧ K (.sl H.nx 0 l.length true) (H.newT e (.ints .u8 l))
  | _ => False
def killF (kl : Option Nat) (F : Frame) : Frame :=
  match kl with
  | none => F
  | some r => Frame.kill r F
def builtinW (tt : Tab) (b : Builtin) (args : List PV) (ts : List TypeId) (H : Heap) (K : PV → Heap → Option Nat → Prop) : Prop :=
  match b, args, ts with
  | .append, [s, x], [t, u] => appW tt t u s x H K
  | .copy, [s, x], [t, _] => copyW tt t s x H fun q H' => K q H' none
  | _, _, _ => False
def isEffect : Builtin → Bool
  | .append | .copy => true
  | _ => false
def methW (P : Program) (v : Value) (m : String) (f : FuncId) (u : Value) : Prop := ∀ (args : Array Value) (w : World), (callMethod v m args).run P w = (callFunc f (#[u] ++ args)).run P w
def invW (P : Program) (m : String) (p : PV) (args : List PV) (F : Frame) (H : Heap) (K : PV → Frame → Heap → Prop) : Prop :=
  match p with
  | .con v => ∃ f u, methW P v m f u ∧ callB P f (toPV u :: args) F H K .mk
  | _ => False
def opW (P : Program) (tt : Tab) (o : Oper) (F : Frame) (H : Heap) (K : Frame → Heap → Prop) : Prop :=
  match o.op with
  | .store t x y => storeW tt t (ev F.get x) (ev F.get y) H fun H' => K (F.put o.dst (.tup [])) H'
  | .box t x => known (ev F.get x) = true ∧ K (F.put o.dst (.ptr H.nx 0 0)) (H.newT t (.var (cellsOf (ev F.get x))))
  | .alloc t => match tt t with
    | some ti => known (toPV ti.z) = true ∧ K (F.put o.dst (.ptr H.nx 0 0)) (H.newT t (.var (cellsOf (toPV ti.z))))
    | none => False
  | .makeSlice t l c => makeW tt t (ev F.get l) (ev F.get c) H fun q H' => K (F.put o.dst q) H'
  | .buildSlice t len parts => litW tt t len (parts.toList.map fun x => (x.1, ev F.get x.2)) H fun q H' => K (F.put o.dst q) H'
  | .convert src dst x => match isBytes tt src dst with
    | true => strBytesW (elemT tt dst) (ev F.get x) H fun q H' => K (F.put o.dst q) H'
    | false => convW tt H.get src dst (ev F.get x) fun p => K (F.put o.dst p) H
  | .call c => match c.callee with
    | .builtin b => match isEffect b with
      | true => builtinW tt b (c.args.toList.map (ev F.get)) c.argTypes.toList H fun q H' kl => K ((killF kl F).put o.dst q) H'
      | false => qw tt H.get (ev F.get) o.op fun p => K (F.put o.dst p) H
    | .value (.func f) => callB P f (c.args.toList.map (ev F.get)) F H (fun q F' H' => K (F'.put o.dst q) H') .mk
    | .invoke r m => invW P m (ev F.get r) (c.args.toList.map (ev F.get)) F H (fun q F' H' => K (F'.put o.dst q) H')
    | _ => False
  | op => qw tt H.get (ev F.get) op fun p => K (F.put o.dst p) H
section
variable {P : Program} {w w' : World} {ow ow' : Nat → Prop} {loc loc' : Locs} {n nt : Nat} {E : Entry P} {H : Heap} {F : Frame} {a : Act} {tt : Tab} {rows : Nat → Option Row}
theorem copy_sound (hT : TabOk P tt) (hs : HS E H ow loc w) {t u ty : TypeId} {s x : PV} {vs vx : Value} {K : PV → Heap → Prop} (hps : RV w ow loc s vs) (hpx : RV w ow loc x vx) (h : copyW tt t s x H K) :
    ∃ q H', K q H' ∧ ∃ cv w', (Builtin.copy_ #[t, u] ty #[vs, vx]).run P w = .ok cv w' ∧ HS E H' ow loc w' ∧ Stable ow w w' ∧ RD w' ow q cv ∧ (∀ m, Refs m q) ∧ H'.nx = H.nx := by
  have hrows := hs.rowsOk
  unfold copyW at h
  cases hti : tt t with
  | none => rw [hti] at h; exact h.elim
  | some ti =>
  rw [hti] at h
  simp only at h
  split at h
  · rename_i e r off len full hd
    cases hte : tt e with
    | none => rw [hte] at h; exact h.elim
    | some te =>
    cases hrw : H.get r with
    | none => rw [hte, hrw] at h; exact h.elim
    | some row =>
    rw [hte, hrw] at h
    cases row with
    | list => exact h.elim
    | var => exact h.elim
    | ints k l =>
    obtain ⟨h1, hle, h⟩ := h
    obtain ⟨xs, hK, hsr⟩ := srcI_sound (P := P) hrows hpx h
    obtain ⟨i, hi, hz, his, hby⟩ := (hT _ _ hte).info
    obtain ⟨Lo, c, hLo, hat, hbase⟩ := base_of hrows hrw hps 1 (fun L hat => by obtain ⟨_, _, _, _, _, _, hin⟩ := hat; exact hin.1)
    have hmin : Nat.min xs.length len = min xs.length len := rfl
    have hfirst := hsr.firstN w rfl (min xs.length len) (Nat.min_le_left _ _)
    have hlen := hsr.len w
    have hsize : i.size = 1 := by rw [his, h1]
    cases hbase with
    | nil off full =>
      have hl0 : l = [] := hat
      subst hl0
      have hz0 : min xs.length 0 = 0 := Nat.min_zero _
      rw [hz0] at hK hfirst
      refine ⟨_, _, hK, .int .i64 0, w, ?_, ?_, Stable.refl _ _, .int _ _, fun m => .int _ _, rfl⟩
      · simp [Builtin.copy_, run_underlying ((hT _ _ hti).under_slice hd), hlen, sizeOf, typeInfo, hi, hsize, hfirst, goInt]
      · have hrow := hs
        refine ⟨?_, hs.live, hs.inj, hs.old, hs.size, hs.os, hs.tape, hs.output, hs.nx, hs.owlt, hs.forb, hs.alt, hs.apart, ?_, hs.gh, hs.ty⟩
        · intro r' row' hr'
          rw [Heap.get_set] at hr'
          split at hr'
          · rename_i e; subst e; injection hr' with hr'; subst hr'
            exact ⟨none, hLo, by simp [RowAt]⟩
          · exact hs.rows r' row' hr'
        · intro r' l' hr' j hj
          rw [Heap.get_set] at hr'
          split at hr'
          · injection hr' with hr'; cases hr'
          · exact hs.refs r' l' hr' j hj
    | at_ L off full A len c hlc hc hf ha hsz =>
      obtain ⟨cur, e', fr, hb, hcs, hfr, hs1, hcap, hcell⟩ := hat
      have hvl : ((xs.map (Value.int k)).take (min xs.length len * 1)).length = min xs.length len := by rw [List.length_take, List.length_map]; omega
      by_cases hn0 : min xs.length len = 0
      · rw [hn0] at hK hfirst
        simp only [List.take_zero, List.append_nil, Nat.add_zero, List.take_append_drop] at hK
        refine ⟨_, _, hK, .int .i64 0, w, ?_, ?_, Stable.refl _ _, .int _ _, fun m => .int _ _, rfl⟩
        · simp [Builtin.copy_, run_underlying ((hT _ _ hti).under_slice hd), hlen, hmin, hn0, sizeOf, typeInfo, hi, hsize, hfirst, goInt, storeCells]
        · exact hs.upd hLo ⟨rfl, rfl, rfl, Nat.le_refl _, fun _ _ _ => rfl⟩ rfl ⟨cur, e', fr, hb, hcs, hfr, hs1, hcap, hcell⟩ (fun l e => by cases e) fun c t f h => ⟨c, f, h⟩
      · have hst := storeCells_ok (P := P) L.b (L.o + off * 1) e' fr ((xs.map (Value.int k)).take (min xs.length len * 1)) 0 cur w hb hfr (by rw [hvl, hcs, hs1]; omega) (fun v hv => oneInt k xs v (List.mem_of_mem_take hv))
        simp only [Nat.add_zero] at hst
        have hA : A = ⟨L.b, L.o + off * 1, none⟩ := ha.resolve_left (by omega)
        have hc2 := Chg.of_setRow w L.b (cur.toList.take (L.o + off * 1) ++ (xs.map (Value.int k)).take (min xs.length len * 1) ++ cur.toList.drop (L.o + off * 1 + ((xs.map (Value.int k)).take (min xs.length len * 1)).length)).toArray
        have hstab := Stable.of_chg hc2 (hs.live r L hLo).1
        have hle2 : L.o + off * 1 + ((xs.map (Value.int k)).take (min xs.length len * 1)).length ≤ cur.size := by rw [hvl, hcs, hs1]; omega
        have hss := splice_size cur _ _ hle2
        refine ⟨_, _, hK, .int .i64 (min xs.length len : Nat), _, ?_, ?_, hstab, .int _ _, fun m => .int _ _, rfl⟩
        · rw [hA]
          simp [Builtin.copy_, run_underlying ((hT _ _ hti).under_slice hd), hlen, hmin, sizeOf, typeInfo, hi, hsize, hfirst, goInt]
          have := hst
          simp at this
          rw [this]
          rfl
        · refine hs.upd hLo hc2 (by simp) ⟨_, e', fr, setRow_heap w L.b cur _ e' fr hb, hss.trans hcs, by rw [hss]; exact hfr, hs1, ?_, fun j hj => ?_⟩ (fun l e => by cases e) (tyKept hb (setRow_heap w L.b cur _ e' fr hb))
          · simp; omega
          · have hlj : j < l.length := by simp at hj; omega
            rw [splice_get cur _ _ hle2, hvl]
            by_cases hj1 : j < off
            · rw [if_pos (by omega), hcell j hlj]
              congr 1
              rw [List.append_assoc]
              simp [List.getD, List.getElem?_append_left (show j < (l.take off).length by rw [List.length_take]; omega), hj1]
            · rw [if_neg (by omega)]
              by_cases hj2 : j < off + min xs.length len
              · rw [if_pos (by omega)]
                rw [Nat.mul_one, Nat.mul_one, show L.o + j - (L.o + off) = j - off by omega, List.getElem?_take, if_pos (by omega), List.getElem?_map]
                have hlt : j - off < xs.length := by omega
                rw [List.getElem?_eq_getElem hlt]
                have e1 : (l.take off ++ xs.take (min xs.length len) ++ l.drop (off + min xs.length len)).getD j 0 = xs[j - off] := by
                  rw [List.append_assoc]
                  have ho : (l.take off).length = off := by simp; omega
                  simp only [List.getD]
                  rw [List.getElem?_append_right (by omega), ho, List.getElem?_append_left (by simp; omega), List.getElem?_take, if_pos (by omega), List.getElem?_eq_getElem hlt]
                  rfl
                rw [e1]
                rfl
              · rw [if_neg (by omega), hcell j hlj]
                congr 2
                have ho : (l.take off ++ xs.take (min xs.length len)).length = off + min xs.length len := by simp; omega
                simp only [List.getD]
                rw [List.getElem?_append_right (by omega), ho, List.getElem?_drop]
                congr 2
                omega
  · exact h.elim
-- calls
def blocksOf (loc : Locs) (l : List Nat) (b : Nat) : Prop := ∃ r, r ∈ l ∧ ∃ L, loc r = some (some L) ∧ b = L.b
def lessOf (ow : Nat → Prop) (loc : Locs) (l : List Nat) (b : Nat) : Prop := ow b ∧ ¬ blocksOf loc l b
theorem RD.less {l : List Nat} {p : PV} {v : Value} (h : RD w ow p v) : RD w (lessOf ow loc l) p v := by
  induction h with
  | undef v => exact .undef v
  | int k n => exact .int k n
  | bool b => exact .bool b
  | str s l h => exact .str s l h
  | nil => exact .nil
  | nilptr => exact .nilptr
  | con v h => exact .con v h
  | intsNil k => exact .intsNil k
  | listNil sz => exact .listNil sz
  | intsE k a cap => exact .intsE k a cap
  | listE sz a cap => exact .listE sz a cap
  | ints k l n b o cap hn hc ho hm => exact .ints k l n b o cap hn hc (fun h => ho h.1) hm
  | list sz l n b o cap us hn hc ho hsz hz hm h1 hd ih => exact .list sz l n b o cap us hn hc (fun h => ho h.1) hsz hz hm h1 ih
  | agg l vs hl h1 hd ih => exact .agg l vs hl h1 ih
  | tup l vs hl hd ih => exact .tup l vs hl ih
theorem view0_ok (hrows : RowsOk w ow loc n rows) {p : PV} {v : Value} (h : RV w ow loc p v) (hok : okView0 rows p) (S : List Nat) (hS : ∀ r, r ∈ ids0 p → r ∈ S) : RD w (lessOf ow loc S) (view0 rows p) v := by
  cases p with
  | sl r off len full =>
    simp only [view0]
    simp only [okView0] at hok
    have hrS : r ∈ S := hS r (by simp [ids0])
    cases hrw : rows r with
    | none => exact .undef _
    | some row =>
      rw [hrw] at hok
      obtain ⟨Lo, hLo, hat⟩ := hrows.at_ r row hrw
      cases row with
      | var l => exact .undef _
      | ints k l =>
        simp only at hok
        have hlen : len = ((l.drop off).take len).length := by simp; omega
        cases h with
        | data _ _ h => cases h
        | dang _ _ _ _ a m c hl => exact absurd hl (hrows.ne hrw)
        | slnil _ _ hl =>
          rw [hLo] at hl; injection hl with hl; subst hl
          have : l = [] := hat
          subst this
          exact .intsNil k
        | sl _ _ _ _ L a c hl hlc hc hf ha =>
          rw [hLo] at hl; injection hl with hl; subst hl
          obtain ⟨cur, e, fr, hb, hsz, hfr, hs1, hcap, hcell⟩ := hat
          by_cases hl0 : len = 0
          · subst hl0
            simp only [List.take_zero]
            exact .intsE k a c
          · rw [ha.resolve_left (by omega)]
            refine .ints k _ _ L.b _ c hlen hlc (fun h => h.2 ⟨r, hrS, L, hLo, rfl⟩) fun i hi => ?_
            rw [← hlen] at hi
            rw [cell_of_row' hb, hs1, Nat.mul_one, Nat.add_assoc, hcell _ (by omega)]
            simp [List.getD, hi]
      | list sz l =>
        simp only at hok
        have hlen : len = ((l.drop off).take len).length := by simp; omega
        cases h with
        | data _ _ h => cases h
        | dang _ _ _ _ a m c hl => exact absurd hl (hrows.ne hrw)
        | slnil _ _ hl =>
          rw [hLo] at hl; injection hl with hl; subst hl
          have : l = [] := hat
          subst this
          exact .listNil sz
        | sl _ _ _ _ L a c hl hlc hc hf ha =>
          rw [hLo] at hl; injection hl with hl; subst hl
          obtain ⟨cur, e, fr, hb, hsz, hfr, hs1, hpos, hcap, hcell⟩ := hat
          by_cases hl0 : len = 0
          · subst hl0
            simp only [List.take_zero]
            exact .listE sz a c
          · rw [ha.resolve_left (by omega)]
            have hget : ∀ i, i < len → ((l.drop off).take len).getD i .undef = l.getD (off + i) .undef := fun i hi => by simp [List.getD, hi]
            have hcur : ∀ i j, i < len → j < sz → ∃ u, cur[L.o + ((off + i) * sz + j)]? = some u ∧ u.oneCell' = true ∧ RD w ow ((cellsOf (l.getD (off + i) .undef)).getD j .undef) u := fun i j hi hj => (hcell (off + i) (by omega)).2 j hj
            refine .list sz _ _ L.b _ c (fun i j => cur.getD (L.o + ((off + i) * sz + j)) undef) hlen hlc (fun h => h.2 ⟨r, hrS, L, hLo, rfl⟩) hpos ?_ ?_ ?_ ?_
            · intro i hi
              rw [← hlen] at hi
              rw [hget i hi]; exact (hcell _ (by omega)).1
            all_goals
              intro i j hi hj
              rw [← hlen] at hi
              obtain ⟨u, h1, h2, h3⟩ := hcur i j hi hj
            · rw [cell_of_row' hb, hs1, Array.getD_eq_getD_getElem?, h1, Option.getD_some, ← h1]
              congr 1
              rw [Nat.add_mul]
              omega
            · rw [Array.getD_eq_getD_getElem?, h1]; exact h2
            · rw [Array.getD_eq_getD_getElem?, h1, hget i hi]; exact h3.less
  | agg l => exact .undef _
  | tup l => exact .undef _
  | ptr r i j => exact .undef _
  | rptr q j => exact .undef _
  | _ =>
    cases h with
    | data _ _ h => exact h.less
theorem okViews0_get : ∀ (l : List PV), okViews0 rows l → ∀ i, i < l.length → okView0 rows (l.getD i .undef)
  | [], _, i, hi => by simp at hi
  | p :: rest, h, i, hi => by
    cases i with
    | zero => exact h.1
    | succ i => simp only [List.getD_cons_succ]; exact okViews0_get rest h.2 i (by simpa using hi)
theorem okViews_get : ∀ (l : List PV), okViews rows l → ∀ i, i < l.length → okView rows (l.getD i .undef)
  | [], _, i, hi => by simp at hi
  | p :: rest, h, i, hi => by
    cases i with
    | zero => exact h.1
    | succ i => simp only [List.getD_cons_succ]; exact okViews_get rest h.2 i (by simpa using hi)
theorem getD_mem {l : List PV} {i : Nat} (hi : i < l.length) : l.getD i .undef ∈ l := by
  rw [List.getD_eq_getElem?_getD, List.getElem?_eq_getElem hi]; exact List.getElem_mem hi
theorem view_ok (hrows : RowsOk w ow loc n rows) {p : PV} {v : Value} (h : RV w ow loc p v) (hok : okView rows p) (S : List Nat) (hS : ∀ r, r ∈ ids p → r ∈ S) : RD w (lessOf ow loc S) (view rows p) v := by
  cases p with
  | agg l =>
    obtain ⟨vs, rfl, hl, h1, hd⟩ := rv_agg h
    simp only [view]
    refine .agg _ vs (by simpa using hl) h1 fun i hi => ?_
    rw [List.length_map] at hi
    have e : (l.map (view0 rows)).getD i .undef = view0 rows (l.getD i .undef) := getD_map_undef _ rfl l i
    rw [e]
    refine view0_ok hrows (hd i hi) (okViews0_get l hok i hi) S fun r hr => hS r ?_
    simp only [ids, List.mem_flatMap]
    exact ⟨_, getD_mem hi, hr⟩
  | _ => exact view0_ok hrows h hok S hS
theorem ids0_data {p : PV} (h : dataB0 p = true) : ids0 p = [] := by cases p <;> first | rfl | (simp [dataB0] at h)
theorem ids_data {p : PV} (h : dataB p = true) : ids p = [] := by
  cases p with
  | agg l =>
    simp only [ids, List.flatMap_eq_nil_iff]
    exact fun x hx => ids0_data (List.all_eq_true.1 h x hx)
  | _ => first | rfl | (simp [dataB, dataB0] at h)
theorem getRow_drop (l : List Nat) (rows : List (Nat × Row)) (r : Nat) (row : Row) (h : getRow (dropRows l rows) r = some row) : getRow rows r = some row ∧ r ∉ l ∨ (∃ row', getRow rows r = some row' ∧ r ∉ l ∧ row = row') := by
  induction rows with
  | nil => cases h
  | cons x rest ih =>
    obtain ⟨k, row0⟩ := x
    simp only [dropRows] at h
    cases hc : l.contains k with
    | true =>
      rw [hc] at h
      simp only [cond_true] at h
      have hk : k ∈ l := by simpa using hc
      rcases ih h with ⟨h1, h2⟩ | ⟨row', h1, h2, h3⟩
      · left
        refine ⟨?_, h2⟩
        have : (k == r) = false := by
          rw [beq_eq_false_iff_ne]; rintro rfl; exact h2 hk
        simp only [getRow, this, cond_false]; exact h1
      · subst h3
        left
        refine ⟨?_, h2⟩
        have : (k == r) = false := by
          rw [beq_eq_false_iff_ne]; rintro rfl; exact h2 hk
        simp only [getRow, this, cond_false]; exact h1
    | false =>
      rw [hc] at h
      simp only [cond_false, getRow] at h ⊢
      have hk : k ∉ l := by intro hm; simp [hm] at hc
      cases hkr : k == r with
      | true =>
        rw [hkr] at h
        simp only [cond_true] at h ⊢
        have : k = r := by simpa using hkr
        subst this
        exact .inl ⟨h, hk⟩
      | false =>
        rw [hkr] at h
        simp only [cond_false] at h ⊢
        exact ih h
theorem drop_le (S : List Nat) (loc : Locs) : LocLe loc (fun r => bif S.contains r then none else loc r) := fun r => by
  show (bif S.contains r then none else loc r) = loc r ∨ (bif S.contains r then none else loc r) = none
  cases S.contains r <;> simp
theorem HS.drop (h : HS E H ow loc w) (S : List Nat) : HS E (H.drop S) (lessOf ow loc S) (fun r => bif S.contains r then none else loc r) w := by
  have hlo := drop_le S loc
  have hsome : ∀ r x, (bif S.contains r then none else loc r) = some x → loc r = some x ∧ r ∉ S := fun r x hx => by
    cases hc : S.contains r with
    | true => rw [hc] at hx; cases hx
    | false => rw [hc] at hx; exact ⟨hx, by intro hm; simp [hm] at hc⟩
  have hget : ∀ r row, (H.drop S).get r = some row → H.get r = some row ∧ r ∉ S := fun r row hr => by
    rcases getRow_drop S H.rows r row hr with h1 | ⟨row', h1, h2, h3⟩
    · exact h1
    · subst h3; exact ⟨h1, h2⟩
  refine ⟨?_, ?_, ?_, h.old, h.size, h.os, h.tape, h.output, ?_, fun b hb => h.owlt b hb.1, ?_, h.alt, ?_, ?_, h.gh.mono (fun b o u _ hc => hc) (fun b _ hb => hb.1) hlo, fun r t ht => ⟨(h.ty r t ht).1, fun L hL => (h.ty r t ht).2 L (hsome r _ hL).1⟩⟩
  · intro r row hr
    obtain ⟨hr, hn⟩ := hget r row hr
    obtain ⟨L, hL, hat⟩ := h.rows r row hr
    refine ⟨L, ?_, hat.mono (n := H.nx) (fun b o u _ hc => hc) (fun b _ hb => hb.1) (fun r _ => hlo r) (fun l e => h.refs r l (by rw [hr, e])) fun M _ => rfl⟩
    have : S.contains r = false := by
      cases hc : S.contains r with
      | true => exact absurd (by simpa using hc) hn
      | false => rfl
    simp only [this, cond_false]; exact hL
  · intro r L hL
    obtain ⟨hL, hn⟩ := hsome r _ hL
    have := h.live r L hL
    exact ⟨⟨this.1, fun ⟨r', hr', L', hL', e⟩ => by have := h.inj r r' L L' hL hL' e; subst this; exact hn hr'⟩, this.2⟩
  · intro r r' L L' h1 h2
    exact h.inj r r' L L' (hsome r _ h1).1 (hsome r' _ h2).1
  · intro r hr
    show (bif S.contains r then none else loc r) = none
    rw [h.nx r hr]
    cases S.contains r <;> rfl
  · intro b hA
    exact ⟨h.forb b hA, fun ⟨r, _, L, hL, e⟩ => by subst e; exact h.apart r L hL hA⟩
  · intro r L hL
    exact h.apart r L (hsome r _ hL).1
  · intro r l hr
    exact h.refs r l (hget r _ hr).1
theorem FS.drop {get : Nat → PV} (h : FS w ow loc n get a) (S : List Nat) : FS w (lessOf ow loc S) (fun r => bif S.contains r then none else loc r) n get a :=
  ⟨fun t => (h.vals t).mono (fun b o u _ hc => hc) (fun b _ hb => hb.1) (drop_le S loc), h.refs, h.defers⟩
end
section
variable {P : Program} {w w' : World} {ow ow' : Nat → Prop} {loc loc' : Locs} {n nt : Nat} {E : Entry P} {H : Heap} {F : Frame} {a : Act} {tt : Tab} {rows : Nat → Option Row}
theorem HS.ext (h : HS E H ow loc w) (hb : Below w.heap.size w w') : HS E H ow loc w' := by
  have hc : Chg w w' w'.heap.size := ⟨hb.os, hb.tape, hb.output, hb.size, fun k hk _ => hb.block k hk⟩
  have hs : Stable ow w w' := Stable.of_blocks fun b hlt _ => hb.block b hlt
  refine ⟨?_, ?_, h.inj, ?_, ?_, hc.os.trans h.os, hc.tape.trans h.tape, hc.output.trans h.output, h.nx, fun b hb0 => by have := h.owlt b hb0; have := hc.size; omega, h.forb, h.alt, h.apart, h.refs, h.gh.mono hs (fun _ _ h => h) (LocLe.refl _), fun r t ht => ⟨(h.ty r t ht).1, fun L hL => by obtain ⟨cur, fr, h0, ho0⟩ := (h.ty r t ht).2 L hL; exact ⟨cur, fr, (hb.block _ (h.live r L hL).2.1).trans h0, ho0⟩⟩⟩
  · intro r row hr
    obtain ⟨L, hL, hat⟩ := h.rows r row hr
    refine ⟨L, hL, hat.mono (n := H.nx) hs (fun _ _ h => h) (fun _ _ => .inl rfl) (fun l e => h.refs r l (by rw [hr, e])) fun M hM => ?_⟩
    subst hM
    exact hb.block _ (h.live r M hL).2.1
  · intro r L hL
    have := h.live r L hL
    exact ⟨this.1, by have := hb.size; omega, this.2.2⟩
  · intro b hb0 hS
    rw [hb.block b (by have := h.size; omega)]
    exact h.old b hb0 hS
  · have := h.size; have := hb.size; omega
theorem put_st (hs : HS E H ow loc w) (hf : FS w ow loc H.nx F.get a) (hsz : a.tmps.size = nt) {d : Option Nat} (hd : dstOk nt d = true) {p : PV} {v : Value} (hv : RV w ow loc p v) (hr : Refs H.nx p) : St E nt (F.put d p) H (a.put d v) w := by
  obtain ⟨h1, h2⟩ := hf.put (d := d) (by rw [hsz]; exact hd) hv hr
  exact ⟨ow, loc, hs, h1, h2.trans hsz⟩
theorem FS.congr {get get' : Nat → PV} (h : FS w ow loc n get a) (e : ∀ t, get t = get' t) : FS w ow loc n get' a := ⟨fun t => e t ▸ h.vals t, fun t => e t ▸ h.refs t, h.defers⟩
theorem killG_frame (kl : Option Nat) (F : Frame) : ∀ t, killG kl F.get t = (killF kl F).get t := fun t => by
  cases kl with
  | none => rfl
  | some r => exact (Frame.get_kill r F t).symm
theorem ids_mem {l : List PV} {i : Nat} (hi : i < l.length) : ∀ r, r ∈ ids (l.getD i .undef) → r ∈ l.flatMap ids := fun r hr => List.mem_flatMap.2 ⟨_, getD_mem hi, hr⟩
theorem undef_ok : RV w ow loc (.tup []) undef := .data _ _ (.tup [] #[] rfl fun i hi => by simp at hi)
theorem call_sound {o : Oper} (hd : dstOk nt o.dst = true) (hs : HS E H ow loc w) (hf : FS w ow loc H.nx F.get a) (hsz : a.tmps.size = nt) {f : FuncId} {ps : List PV} {vs : Array Value} (hlen : ps.length = vs.size)
    (hV : ∀ i, i < ps.length → RV w ow loc (ps.getD i .undef) (vs.getD i undef) ∧ Refs H.nx (ps.getD i .undef)) (hexec : (execOp a.eval o).run P w = (callFunc f vs).run P w) {K : Frame → Heap → Prop}
    (h : callB P f ps F H (fun q F' H' => K (F'.put o.dst q) H') .mk) {Kc : Act → World → Prop} {Q : Exit → Act → World → Prop} (hk : ∀ F' H' a' w', K F' H' → St E nt F' H' a' w' → Kc a' w') : o.wp P a w Kc Q := by
  rcases h with h | h
  case inr =>
    let E' : Entry P := ⟨E.w0, E.S0, E.A, fun i t => match i with | 0 => a.tmps.getD t undef | i + 1 => E.gv i t, E.lg, E.ls⟩
    have hs' : HS E' ⟨H.nx, H.rows, F :: H.g, H.ty⟩ ow loc w := ⟨hs.rows, hs.live, hs.inj, hs.old, hs.size, hs.os, hs.tape, hs.output, hs.nx, hs.owlt, hs.forb, hs.alt, hs.apart, hs.refs, fun i t => by
      cases i with
      | zero => exact ⟨hf.vals t, hf.refs t⟩
      | succ i => exact hs.gh i t, hs.ty⟩
    have hcall := HMeets.run h E' ow loc w vs hs' hlen hV
    have next : ∀ v w', (∃ res H' ow' loc', (∃ F' g', H'.g = F' :: g' ∧ K (F'.put o.dst res) ⟨H'.nx, H'.rows, g', H'.ty⟩) ∧ HS E' H' ow' loc' w' ∧ RV w' ow' loc' res v ∧ Refs H'.nx res) → Kc (a.put o.dst v) w' := by
      rintro v w' ⟨res, ⟨nx', rows', g0, ty'⟩, ow', loc', ⟨F', g', hg, hK⟩, hs2, hv, hr⟩
      simp only at hg
      subst hg
      have hs3 : HS E ⟨nx', rows', g', ty'⟩ ow' loc' w' := ⟨hs2.rows, hs2.live, hs2.inj, hs2.old, hs2.size, hs2.os, hs2.tape, hs2.output, hs2.nx, hs2.owlt, hs2.forb, hs2.alt, hs2.apart, hs2.refs, fun i t => hs2.gh (i + 1) t, hs2.ty⟩
      have hf3 : FS w' ow' loc' nx' F'.get a := ⟨fun t => (hs2.gh 0 t).1, fun t => (hs2.gh 0 t).2, hf.defers⟩
      exact hk _ _ _ _ hK (put_st hs3 hf3 hsz hd hv hr)
    unfold Oper.wp
    rw [hexec]
    rcases hcall with ⟨h1, h2⟩ | ⟨v, w', h1, h2⟩
    · rw [h1]
      exact h2.mono fun e w' ⟨v, he, hback⟩ => by subst he; exact next v w' hback
    · rw [h1]
      exact next v w' h2
  obtain ⟨hok, res, hm, h⟩ := h
  have hcall := hm.run w (lessOf ow loc (ps.flatMap ids)) vs ⟨hs.laid, fun b hb => hs.owlt b hb.1⟩ (by rw [List.length_map]; exact hlen) (fun i hi => by
    rw [List.length_map] at hi
    have e1 : (ps.map (view H.get)).getD i .undef = view H.get (ps.getD i .undef) := by simp [List.getD, hi]
    rw [e1]
    exact view_ok hs.rowsOk (hV i hi).1 (okViews_get _ hok i hi) _ (ids_mem hi))
  have next : ∀ v w', Back w (lessOf ow loc (ps.flatMap ids)) res v w' → Kc (a.put o.dst v) w' := by
    rintro v w' ⟨hb, hr⟩
    have hs' := hs.ext hb
    have hst : Stable ow w w' := Stable.of_blocks fun b hlt _ => hb.block b hlt
    have hf' := hf.same hst
    cases hc : flatB res || ps.all dataB with
    | true =>
      rw [hc] at h
      refine hk _ _ _ _ h (put_st hs' hf' hsz hd (.data _ _ ?_) (rd_refs hr))
      simp only [Bool.or_eq_true] at hc
      rcases hc with hc | hc
      · exact hr.flat (flat_of hc)
      · refine hr.mono (Stable.refl _ _) fun b _ hob => ⟨hob, ?_⟩
        rintro ⟨r, hrm, _⟩
        obtain ⟨p, hp, hrp⟩ := List.mem_flatMap.1 hrm
        rw [ids_data (List.all_eq_true.1 hc p hp)] at hrp
        cases hrp
    | false =>
      rw [hc] at h
      exact hk _ _ _ _ h (put_st (hs'.drop _) (hf'.drop _) hsz hd (.data _ _ hr) (rd_refs hr))
  unfold Oper.wp
  rw [hexec]
  rcases hcall with ⟨h1, h2⟩ | ⟨v, w', h1, h2⟩
  · rw [h1]
    exact h2.mono fun e w' ⟨v, he, hback⟩ => by subst he; exact next v w' hback
  · rw [h1]
    exact next v w' h2
theorem op_sound (hT : TabOk P tt) {o : Oper} (hd : dstOk nt o.dst = true) (hs : HS E H ow loc w) (hf : FS w ow loc H.nx F.get a) (hsz : a.tmps.size = nt) {K : Frame → Heap → Prop} (h : opW P tt o F H K)
    {Kc : Act → World → Prop} {Q : Exit → Act → World → Prop} (hk : ∀ F' H' a' w', K F' H' → St E nt F' H' a' w' → Kc a' w') : o.wp P a w Kc Q := by
  have V := fun x => ev_ok (w := w) (ow := ow) (loc := loc) (a := a) hf.vals x
  have R := fun x => ev_refs (n := H.nx) hf.refs x
  have quiet : qw tt H.get (ev F.get) o.op (fun p => K (F.put o.dst p) H) → o.wp P a w Kc Q := fun h => by
    obtain ⟨q, hq, cv, hrun, hv, hr⟩ := qw_sound hT hs.rowsOk hf.vals hf.refs h
    unfold Oper.wp
    rw [hrun]
    exact hk _ _ _ _ hq (put_st hs hf hsz hd hv hr)
  have made : ∀ (s : Sem Value) (K' : PV → Heap → Prop), Made P E H ow loc w s K' → execOp a.eval o = (do pure (.value (← s))) → (∀ q H', K' q H' → K (F.put o.dst q) H') → o.wp P a w Kc Q := by
    rintro s K' ⟨q, row, e, hK, cv, w', L, hrun, hs', hst, hLb, hv, hr⟩ he hKK
    unfold Oper.wp
    rw [he]
    simp only [Sem.run_bind, hrun, Result.andThen_ok, Sem.run_pure]
    refine hk _ _ _ _ (hKK _ _ hK) (put_st hs' (hf.new hst fun b hb h => h.elim id (fun e => by omega)) hsz hd hv hr)
  cases hop : o.op
  case store t x y =>
    rw [opW, hop] at h
    obtain ⟨H', w', hK, hnx, hrun, hs', hst⟩ := store_ok hT hs (V x) (R x) (V y) (R y) h
    unfold Oper.wp
    simp only [execOp, hop, Sem.run_bind, hrun, Result.andThen_ok, Sem.run_pure]
    refine hk _ _ _ _ hK (put_st hs' (by rw [hnx]; exact hf.same hst) hsz hd undef_ok (.tup [] fun i hi => by simp at hi))
  case box t x =>
    rw [opW, hop] at h
    exact made _ _ (var_sound (elem := t) (K := fun q H' => K (F.put o.dst q) H') hs (V x) (R x) h.1 h.2) (by simp [execOp, hop, Instr.box]) fun _ _ h => h
  case alloc t =>
    rw [opW, hop] at h
    simp only at h
    cases hti : tt t with
    | none => rw [hti] at h; exact h.elim
    | some ti =>
      rw [hti] at h
      obtain ⟨i, hi, hz, _⟩ := (hT _ _ hti).info
      have hm := var_sound (P := P) (elem := t) (K := fun q H' => K (F.put o.dst q) H') hs (.data _ _ (toPV_ok w ow ti.z)) (toPV_refs H.nx ti.z) h.1 h.2
      refine made (Instr.alloc t true (.tuple #[])) _ ?_ (by simp [execOp, hop]) fun _ _ h => h
      obtain ⟨q, row, e, hK, cv, w', L, hrun, rest⟩ := hm
      refine ⟨q, row, e, hK, cv, w', L, ?_, rest⟩
      rw [← hrun]
      simp [Instr.alloc, zeroValue, typeInfo, hi, hz]
  case makeSlice t l c =>
    rw [opW, hop] at h
    exact made _ _ (make_sound hT hs (V l) (V c) h) (by simp [execOp, hop]) fun _ _ h => h
  case buildSlice t len parts =>
    rw [opW, hop] at h
    refine made _ _ (lit_sound hT hs (vals := parts.map fun (i, x) => (i, a.eval x)) (by simp) (fun i hi => ?_) h) (by simp [execOp, hop]) fun _ _ h => h
    have hi' : i < parts.size := by simpa using hi
    have e1 : (parts.toList.map fun x => (x.1, ev F.get x.2)).getD i (0, .undef) = (parts[i].1, ev F.get parts[i].2) := by simp [List.getD, hi']
    have e2 : (parts.map fun (i, x) => (i, a.eval x)).toList.getD i (0, undef) = (parts[i].1, a.eval parts[i].2) := by simp [List.getD, hi']
    rw [e1, e2]
    exact ⟨rfl, V _⟩
  case convert src dst x =>
    rw [opW, hop] at h
    simp only at h
    cases hb : isBytes tt src dst with
    | false =>
      rw [hb] at h
      refine quiet ?_
      rw [hop]
      exact h
    | true =>
      rw [hb] at h
      simp only at h
      unfold isBytes at hb
      cases hs1 : tt src with
      | none => rw [hs1] at hb; cases hb
      | some s =>
      cases hd1 : tt dst with
      | none => rw [hs1, hd1] at hb; cases hb
      | some d =>
      rw [hs1, hd1] at hb
      simp only at hb
      split at hb
      · rename_i e hsd hdd
        cases hte : tt e with
        | none => rw [hte] at hb; cases hb
        | some te =>
          rw [hte] at hb
          simp only at hb
          split at hb
          · rename_i hu8
            have hx := V x
            have he : elemT tt dst = e := by simp only [elemT, hd1, hdd]
            rw [he] at h
            cases hp : ev F.get x <;> rw [hp] at h hx <;> try exact h.elim
            exact made _ (fun q H' => K (F.put o.dst q) H') (bytes_sound hT hs ((hT _ _ hs1).under_str hsd) ((hT _ _ hd1).under_slice hdd) ((hT _ _ hte).under_int hu8) hx h.1 h.2) (by simp [execOp, hop]) fun _ _ h => h
          · cases hb
      · cases hb
  case call c =>
    obtain ⟨callee, args, argTypes⟩ := c
    rw [opW, hop] at h
    simp only at h
    cases callee with
    | invoke r m =>
      simp only at h
      unfold invW at h
      split at h
      · rename_i v hr
        obtain ⟨f, u, hm, h⟩ := h
        have hv := V r
        rw [hr] at hv
        have he : a.eval r = v := rv_con hv
        refine call_sound hd hs hf hsz (vs := #[u] ++ args.map a.eval) (by simp; omega) (fun i hi => ?_) ?_ h hk
        · cases i with
          | zero =>
            have e3 : (#[u] ++ args.map a.eval).getD 0 undef = u := by simp [Array.getD, Array.getElem_append]
            rw [e3]
            exact ⟨.data _ _ (toPV_ok w ow u), toPV_refs _ u⟩
          | succ i =>
            have hi' : i < args.size := by simpa using hi
            have e2 : (toPV u :: args.toList.map (ev F.get)).getD (i + 1) .undef = ev F.get args[i] := by simp [List.getD, hi']
            have e3 : (#[u] ++ args.map a.eval).getD (i + 1) undef = a.eval args[i] := by simp [Array.getD, hi', Array.getElem_append_right]; rw [dif_pos (by omega)]
            rw [e2, e3]
            exact ⟨V _, R _⟩
        · rw [← hm]
          have e0 : (#[v] ++ args.map a.eval)[0]? = some v := by simp [Array.getElem?_append]
          have e1 : (args.map a.eval).extract 0 args.size = args.map a.eval := by rw [show args.size = (args.map a.eval).size by simp, Array.extract_size]
          simp [execOp, hop, resolve, invoke, he, e0, e1]
      · exact h.elim
    | builtin b =>
      simp only at h
      cases he : isEffect b with
      | false =>
        rw [he] at h
        refine quiet ?_
        rw [hop]; exact h
      | true =>
        rw [he] at h
        simp only at h
        cases b <;> first | (simp [isEffect] at he; done) | skip
        case append =>
          unfold builtinW at h
          split at h
          · rename_i s x t u hbb ha hat
            obtain ⟨s', hs'⟩ : ∃ l, args.toList = l := ⟨_, rfl⟩
            rw [hs'] at ha
            match s', hs', ha with
            | [x1, x2], hs', ha =>
              simp only [List.map_cons, List.map_nil, List.cons.injEq, and_true] at ha
              obtain ⟨rfl, rfl⟩ := ha
              obtain rfl : args = #[x1, x2] := Array.ext' hs'
              obtain rfl : argTypes = #[t, u] := Array.ext' hat
              obtain ⟨q, H', kl, hK, cv, w', ow', loc', hrun, hs', hst, hb, hv, hr, hfr⟩ := app_sound (ty := o.type) hT hs (V x1) (V x2) h
              unfold Oper.wp
              simp only [execOp, hop, resolve, invoke, builtin, Sem.run_bind, Sem.run_pure, Result.andThen_ok, List.map_toArray, List.map_cons, List.map_nil, hrun]
              exact hk _ _ _ _ hK (put_st hs' ((hfr _ _ hf).congr (killG_frame kl F)) hsz hd hv hr)
            | [], _, ha => simp at ha
            | [_], _, ha => simp at ha
            | _ :: _ :: _ :: _, _, ha => simp at ha
          · rename_i hbb _ _; cases hbb
          · exact h.elim
        case copy =>
          unfold builtinW at h
          split at h
          · rename_i hbb _ _; cases hbb
          · rename_i s x t u hbb ha hat
            obtain ⟨s', hs'⟩ : ∃ l, args.toList = l := ⟨_, rfl⟩
            rw [hs'] at ha
            match s', hs', ha with
            | [x1, x2], hs', ha =>
              simp only [List.map_cons, List.map_nil, List.cons.injEq, and_true] at ha
              obtain ⟨rfl, rfl⟩ := ha
              obtain rfl : args = #[x1, x2] := Array.ext' hs'
              obtain rfl : argTypes = #[t, u] := Array.ext' hat
              obtain ⟨q, H', hK, cv, w', hrun, hs', hst, hv, hr, hnx⟩ := copy_sound (u := u) (ty := o.type) hT hs (V x1) (V x2) h
              unfold Oper.wp
              simp only [execOp, hop, resolve, invoke, builtin, Sem.run_bind, Sem.run_pure, Result.andThen_ok, List.map_toArray, List.map_cons, List.map_nil, hrun]
              exact hk _ _ _ _ hK (put_st hs' (by rw [hnx]; exact hf.same hst) hsz hd (.data _ _ hv) (hr _))
            | [], _, ha => simp at ha
            | [_], _, ha => simp at ha
            | _ :: _ :: _ :: _, _, ha => simp at ha
          · exact h.elim
    | value f =>
      cases f with
      | tmp t => exact h.elim
      | const v => exact h.elim
      | global g => exact h.elim
      | func f =>
        simp only at h
        refine call_sound hd hs hf hsz (vs := args.map a.eval) (by simp) (fun i hi => ?_) (by simp [execOp, hop, resolve, Act.eval, Deferred.ofValue, invoke]) h hk
        have hi' : i < args.size := by simpa using hi
        have e2 : (args.toList.map (ev F.get)).getD i .undef = ev F.get args[i] := by simp [List.getD, hi']
        have e3 : (args.map a.eval).getD i undef = a.eval args[i] := by simp [Array.getD, hi']
        rw [e2, e3]
        exact ⟨V _, R _⟩
  all_goals
    rw [opW, hop] at h
    refine quiet ?_
    rw [hop]
    exact h
end
def dstAt (all : List Oper) (j : Nat) : Option Nat := (all[j]?).bind (·.dst)
def guardV (all : List Oper) (F : Frame) (j : Nat) : PV :=
  match dstAt all j with
  | some d => F.get d
  | none => .tup []
def wantW (all : List Oper) (F : Frame) (o : Oper) (yes no : Prop) : Prop :=
  match o.guard with
  | none => yes
  | some (j, want) => match guardV all F j with
    | .bool b => (b = want → yes) ∧ (b ≠ want → no)
    | .tup [] => no
    | _ => False
def opsW (P : Program) (tt : Tab) (all : List Oper) : List Oper → Frame → Heap → (Frame → Heap → Prop) → Prop
  | [], F, H, K => K F H
  | o :: rest, F, H, K => wantW all F o (opW P tt o F H fun F' H' => opsW P tt all rest F' H' K) (opsW P tt all rest (F.put o.dst (.tup [])) H K)
section
variable {P : Program} {w w' : World} {ow ow' : Nat → Prop} {loc loc' : Locs} {n nt : Nat} {E : Entry P} {H : Heap} {F : Frame} {a : Act} {tt : Tab} {rows : Nat → Option Row}
theorem yielded_eq {ops : Array Oper} {get : Nat → PV} (hv : ∀ t, RV w ow loc (get t) (a.tmps.getD t undef)) (j : Nat) :
    (∀ b, (match dstAt ops.toList j with | some d => get d | none => .tup []) = .bool b → yielded ops a.tmps j = some b) ∧
    ((match dstAt ops.toList j with | some d => get d | none => .tup []) = .tup [] → yielded ops a.tmps j = none) := by
  unfold yielded dstAt
  rw [Array.getElem?_toList]
  cases hd : (ops[j]?).bind (·.dst) with
  | none => exact ⟨(fun b h => by cases h), fun _ => rfl⟩
  | some d =>
    have h1 := hv d
    simp only [Option.bind_some]
    rw [Array.getD_eq_getD_getElem?] at h1
    refine ⟨fun b hb => ?_, fun hb => ?_⟩
    · rw [hb] at h1
      have := rv_bool h1
      cases ht : a.tmps[d]? with
      | none => rw [ht] at this; simp [undef] at this
      | some v => rw [ht] at this; simp only [Option.getD_some] at this; subst this; rfl
    · rw [hb] at h1
      obtain ⟨vs, e, _, _⟩ := rv_tup h1
      cases ht : a.tmps[d]? with
      | none => rfl
      | some v => rw [ht] at e; simp only [Option.getD_some] at e; subst e; rfl
theorem wanted_of {ops : Array Oper} {o : Oper} (hf : ∀ t, RV w ow loc (F.get t) (a.tmps.getD t undef)) {yes no : Prop} (h : wantW ops.toList F o yes no) :
    (Region.wanted o (yielded ops a.tmps) = true ∧ yes) ∨ (Region.wanted o (yielded ops a.tmps) = false ∧ no) := by
  unfold wantW at h
  unfold Region.wanted
  cases hg : o.guard with
  | none => rw [hg] at h; exact .inl ⟨rfl, h⟩
  | some g =>
    obtain ⟨j, want⟩ := g
    rw [hg] at h
    obtain ⟨h1, h2⟩ := yielded_eq (ops := ops) (get := F.get) hf j
    simp only at h ⊢
    unfold guardV at h
    split at h
    · rename_i b hb
      rw [h1 b hb]
      by_cases hbw : b = want
      · exact .inl ⟨by simp [hbw], h.1 hbw⟩
      · exact .inr ⟨by simp [hbw], h.2 hbw⟩
    · rename_i hb
      rw [h2 hb]
      exact .inr ⟨by rfl, h⟩
    · exact h.elim
theorem ops_sound (hT : TabOk P tt) {ops : Array Oper} (hd : ops.toList.all (fun o => dstOk nt o.dst) = true) {Q : Exit → Act → World → Prop} {K : Frame → Heap → Prop} (hk : ∀ F' H' a' w', K F' H' → St E nt F' H' a' w' → Q .normal a' w') :
    ∀ (m k : Nat) (F : Frame) (H : Heap) (a : Act) (w : World), k + m = ops.size → St E nt F H a w → opsW P tt ops.toList (ops.toList.drop k) F H K → wpOps P ops Q (List.range' k m) a w := by
  intro m
  induction m with
  | zero =>
    intro k F H a w hkm hst h
    have : ops.toList.drop k = [] := by apply List.drop_eq_nil_of_le; simp; omega
    rw [this] at h
    exact hk _ _ _ _ h hst
  | succ m ih =>
    intro k F H a w hkm hst h
    have hlt : k < ops.size := by omega
    have hlt' : k < ops.toList.length := by simpa using hlt
    have hdrop : ops.toList.drop k = ops[k] :: ops.toList.drop (k + 1) := by
      rw [List.drop_eq_getElem_cons hlt']; simp
    rw [hdrop] at h
    simp only [opsW] at h
    obtain ⟨ow, loc, hs, hf, hsz⟩ := hst
    have hdk : dstOk nt (ops[k]).dst = true := List.all_eq_true.1 hd _ (by simp)
    simp only [List.range'_succ, wpOps, Array.getElem?_eq_getElem hlt]
    rcases wanted_of hf.vals h with ⟨hw, h⟩ | ⟨hw, h⟩
    · rw [if_pos hw]
      left
      exact op_sound hT hdk hs hf hsz h fun F' H' a' w' hK hst' => ih (k + 1) F' H' a' w' (by omega) hst' hK
    · rw [if_neg (by rw [hw]; simp)]
      exact ih (k + 1) _ _ _ _ (by omega) (put_st hs hf hsz hdk undef_ok (.tup [] fun i hi => by simp at hi)) h
def PW (P : Program) (E : Entry P) (nt : Nat) (c : Code) (Q : Exit → Frame → Heap → Prop) (F : Frame) (H : Heap) : Prop :=
  ∀ a w, St E nt F H a w → c.wp P (fun e a' w' => ∃ F' H', Q e F' H' ∧ St E nt F' H' a' w') a w
theorem PW.mono {c : Code} {Q Q' : Exit → Frame → Heap → Prop} (h : PW P E nt c Q F H) (hq : ∀ e F H, Q e F H → Q' e F H) : PW P E nt c Q' F H :=
  fun a w hst => wp_mono (h a w hst) fun e a' w' ⟨F', H', h1, h2⟩ => ⟨F', H', hq _ _ _ h1, h2⟩
theorem PW.region {id : Nat} {ops : Array Oper} {Q : Exit → Frame → Heap → Prop} (hT : TabOk P tt) (hd : ops.toList.all (fun o => dstOk nt o.dst) = true) (h : opsW P tt ops.toList ops.toList F H (fun F' H' => Q .normal F' H')) :
    PW P E nt (.region id ops false) Q F H := fun a w hst => by
  refine wp_region ?_
  rw [List.range_eq_range']
  exact ops_sound hT hd (fun F' H' a' w' hK hst' => ⟨F', H', hK, hst'⟩) ops.size 0 F H a w (by omega) hst h
def thenQ (next : Frame → Heap → Prop) (Q : Exit → Frame → Heap → Prop) : Exit → Frame → Heap → Prop
  | .normal, F, H => next F H
  | e, F, H => Q e F H
@[reducible] def PWx (P : Program) (E : Entry P) (nt : Nat) (c : Code) (Q : Exit → Frame → Heap → Prop) (_ : Ph (c, Q)) (F : Frame) (H : Heap) : Prop := PW P E nt c Q F H
theorem PW.seq {x y : Code} {Q : Exit → Frame → Heap → Prop} (h : PW P E nt x (thenQ (PWx P E nt y Q .mk) Q) F H) : PW P E nt (.seq x y) Q F H := fun a w hst => by
  refine wp_seq (wp_mono (h a w hst) fun e a' w' hq => ?_)
  obtain ⟨F', H', h1, h2⟩ := hq
  cases e <;> first | exact h1 a' w' h2 | exact ⟨F', H', h1, h2⟩
theorem PW.skip {Q : Exit → Frame → Heap → Prop} (h : Q .normal F H) : PW P E nt .skip Q F H := fun a w hst => wp_skip ⟨F, H, h, hst⟩
theorem PW.exit {id : Nat} {Q : Exit → Frame → Heap → Prop} (h : Q (.exit id) F H) : PW P E nt (.exit id) Q F H := fun a w hst => wp_exit ⟨F, H, h, hst⟩
theorem PW.ret {Q : Exit → Frame → Heap → Prop} (h : Q .ret F H) : PW P E nt .ret Q F H := fun a w hst => wp_ret ⟨F, H, h, hst⟩
def condW (p : PV) (x y : Prop) : Prop :=
  match p with
  | .bool b => (b = true → x) ∧ (b = false → y)
  | _ => False
theorem PW.cond {c : Operand} {x y : Code} {Q : Exit → Frame → Heap → Prop} (h : condW (ev F.get c) (PW P E nt x Q F H) (PW P E nt y Q F H)) : PW P E nt (.cond c x y) Q F H := fun a w hst => by
  obtain ⟨ow, loc, hs, hf, hsz⟩ := hst
  have hc := ev_ok hf.vals c
  unfold condW at h
  split at h
  · rename_i b hb
    rw [hb] at hc
    exact wp_cond_split (rv_bool hc) (fun e => h.1 e a w ⟨ow, loc, hs, hf, hsz⟩) (fun e => h.2 e a w ⟨ow, loc, hs, hf, hsz⟩)
  · exact h.elim
def blockQ (id : Nat) (Q : Exit → Frame → Heap → Prop) : Exit → Frame → Heap → Prop
  | .exit id', F, H => if id' = id then Q .normal F H else Q (.exit id') F H
  | e, F, H => Q e F H
theorem PW.block {id : Nat} {c : Code} {Q : Exit → Frame → Heap → Prop} (h : PW P E nt c (blockQ id Q) F H) : PW P E nt (.block id c) Q F H := fun a w hst => by
  refine wp_block (wp_mono (h a w hst) fun e a' w' hq => ?_)
  obtain ⟨F', H', h1, h2⟩ := hq
  cases e <;> try exact ⟨F', H', h1, h2⟩
  rename_i id'
  simp only [Exit.inBlock]
  simp only [blockQ] at h1
  split at h1
  · rw [if_pos ‹_›]; exact ⟨F', H', h1, h2⟩
  · rw [if_neg ‹_›]; exact ⟨F', H', h1, h2⟩
def Sub {P : Program} (E : Entry P) (nt : Nat) (F : Frame) (H : Heap) (F' : Frame) (H' : Heap) : Prop := ∀ a w, St E nt F H a w → St E nt F' H' a w
theorem Sub.refl {P : Program} (E : Entry P) (nt : Nat) (F : Frame) (H : Heap) : Sub E nt F H F H := fun _ _ h => h
theorem Sub.trans {F' F'' : Frame} {H' H'' : Heap} (h : Sub E nt F H F' H') (k : Sub E nt F' H' F'' H'') : Sub E nt F H F'' H'' := fun a w hs => k a w (h a w hs)
theorem PW.sub {F' : Frame} {H' : Heap} {c : Code} {Q : Exit → Frame → Heap → Prop} (hs : Sub E nt F H F' H') (h : PW P E nt c Q F' H') : PW P E nt c Q F H := fun a w hst => h a w (hs a w hst)
theorem PW.loop {c : Code} {Q : Exit → Frame → Heap → Prop} (I : Nat → Frame → Heap → Prop) (n₀ : Nat) {F₀ : Frame} {H₀ : Heap} (h0 : Sub E nt F H F₀ H₀) (hI : I n₀ F₀ H₀)
    (round : ∀ n F H, I n F H → PW P E nt c (thenQ (fun F' H' => ∃ n' F'' H'', n' < n ∧ Sub E nt F' H' F'' H'' ∧ I n' F'' H'') Q) F H) : PW P E nt (.loop c) Q F H := fun a w hst => by
  have key : ∀ n F H a w, I n F H → St E nt F H a w → ∀ b k cs, ∃ e a' w', (∃ F' H', Q e F' H' ∧ St E nt F' H' a' w') ∧ Arrives P (lone (b.at a (.code c :: .inLoop c :: k)) cs w) b k cs e a' w' := by
    intro n
    induction n using Nat.strongRecOn with
    | _ n ih =>
      intro F H a w hI hst b k cs
      obtain ⟨e, a1, w1, ⟨F1, H1, hq, hst1⟩, harr⟩ := round n F H hI a w hst b (.inLoop c :: k) cs
      cases e with
      | normal =>
        obtain ⟨n', F2, H2, hlt, hsub, hI2⟩ := hq
        obtain ⟨e2, a2, w2, hq2, harr2⟩ := ih n' hlt F2 H2 a1 w1 hI2 (hsub a1 w1 hst1) b k cs
        exact ⟨e2, a2, w2, hq2, .of_steps (Steps.trans harr (.one step_inLoop)) harr2⟩
      | exit id => exact ⟨_, a1, w1, ⟨F1, H1, hq, hst1⟩, .pass (x := .inLoop c) rfl (fun _ _ => .inl (by simp)) harr⟩
      | goto l => exact ⟨_, a1, w1, ⟨F1, H1, hq, hst1⟩, .pass (x := .inLoop c) rfl (fun _ _ => .inl (by simp)) harr⟩
      | ret => exact ⟨_, a1, w1, ⟨F1, H1, hq, hst1⟩, .pass (x := .inLoop c) rfl (fun _ _ => .inl (by simp)) harr⟩
      | panic ch => exact ⟨_, a1, w1, ⟨F1, H1, hq, hst1⟩, .pass (x := .inLoop c) rfl (fun _ _ => .inl (by simp)) harr⟩
      | outgrown => exact ⟨_, a1, w1, ⟨F1, H1, hq, hst1⟩, .pass (x := .inLoop c) rfl (fun _ _ => .inl (by simp)) harr⟩
  intro b k cs
  obtain ⟨e, a', w', hq, harr⟩ := key n₀ F₀ H₀ a w hI (h0 a w hst) b k cs
  exact ⟨e, a', w', hq, .of_steps (.one step_loop) harr⟩
end
section
variable {P : Program} {w w' : World} {ow ow' : Nat → Prop} {loc loc' : Locs} {n nt : Nat} {E : Entry P} {H : Heap} {F : Frame} {a : Act} {tt : Tab} {rows : Nat → Option Row}
def keeps (F : Frame) : Frame → Prop
  | [] => True
  | (t, p) :: rest => F.get t = p ∧ keeps F rest
theorem keeps_get {F : Frame} : ∀ {F' : Frame}, keeps F F' → ∀ t, F'.get t = F.get t ∨ F'.get t = .undef
  | [], _, t => .inr rfl
  | (k, p) :: rest, h, t => by
    simp only [Frame.get]
    cases hk : k == t with
    | true =>
      have : k = t := by simpa using hk
      subst this
      exact .inl h.1.symm
    | false => exact keeps_get h.2 t
theorem FS.keep (h : FS w ow loc n F.get a) {F' : Frame} (hk : keeps F F') : FS w ow loc n F'.get a :=
  ⟨fun t => (keeps_get hk t).elim (fun e => e ▸ h.vals t) fun e => e ▸ .data _ _ (.undef _), fun t => (keeps_get hk t).elim (fun e => e ▸ h.refs t) fun e => e ▸ .undef, h.defers⟩
theorem Sub.frame {F' : Frame} (hk : keeps F F') : Sub E nt F H F' H := fun a w ⟨ow, loc, hs, hf, hsz⟩ => ⟨ow, loc, hs, hf.keep hk, hsz⟩
theorem call_enters {f : FuncId} {fn : Func} {c : Code} (hf : P.funcs[f]? = some fn) (hname : (fn.name == "runtime.NumGoroutine") = false) (hb : fn.body = some c) (args : Array Value) (w : World) :
    (callFunc f args).run P w = .ok (.enter f args) w := by
  have h1 : fn.name ≠ "runtime.NumGoroutine" := by simpa using hname
  simp [callFunc, hf, h1, hb]
def refsB0 (n : Nat) : PV → Bool
  | .sl r _ _ _ => decide (r < n)
  | .ptr r _ _ => decide (r < n)
  | .agg _ | .tup _ => false
  | _ => true
def refsB (n : Nat) : PV → Bool
  | .agg l => l.all (refsB0 n)
  | p => refsB0 n p
theorem refs_of0 {n : Nat} {p : PV} (h : refsB0 n p = true) : Refs n p := by
  cases p <;> simp only [refsB0, decide_eq_true_eq] at h <;> first | (constructor; done) | exact .sl _ _ _ _ h | exact .ptr _ _ _ h | cases h
theorem refs_of {n : Nat} {p : PV} (h : refsB n p = true) : Refs n p := by
  cases p with
  | agg l => exact .agg _ fun i hi => refs_of0 (List.all_eq_true.1 h _ (getD_mem hi))
  | _ => exact refs_of0 h
theorem getD_undef_refs (n : Nat) (F : Frame) (h : ∀ x ∈ F, refsB n x.2 = true) (t : Nat) : Refs n (F.get t) := by
  induction F with
  | nil => exact .undef
  | cons x rest ih =>
    obtain ⟨k, p⟩ := x
    simp only [Frame.get]
    cases k == t with
    | true => exact refs_of (h (k, p) (by simp))
    | false => exact ih fun y hy => h y (by simp [hy])
def keepsRows (rows : List (Nat × Row)) : List (Nat × Row) → Prop
  | [] => True
  | (r, row) :: rest => getRow rows r = some row ∧ keepsRows rows rest
theorem keepsRows_get {rows : List (Nat × Row)} : ∀ {rows' : List (Nat × Row)}, keepsRows rows rows' → ∀ r row, getRow rows' r = some row → getRow rows r = some row
  | [], _, r, row, h => by cases h
  | (k, x) :: rest, h, r, row, hr => by
    simp only [getRow] at hr
    cases hk : k == r with
    | true =>
      have : k = r := by simpa using hk
      subst this
      rw [hk] at hr
      simp only [cond_true, Option.some.injEq] at hr
      subst hr
      exact h.1
    | false =>
      rw [hk] at hr
      exact keepsRows_get h.2 r row hr
def rowRefsB (n : Nat) : Row → Bool
  | .var l => l.all (refsB0 n)
  | _ => true
theorem Sub.norm {F' : Frame} {H' : Heap} (hk : keeps F F') (hr : keepsRows H.rows H'.rows) (hx : H'.nx ≤ H.nx) (hg : H.g = []) (hg' : H'.g = []) (hF : F'.all (fun x => refsB H'.nx x.2) = true) (hH : H'.rows.all (fun x => decide (x.1 < H'.nx) && rowRefsB H'.nx x.2) = true) (hty : ∀ r t, getT H'.ty r = some t → getT H.ty r = some t ∧ r < H'.nx := by intro r t h; cases h) : Sub E nt F H F' H' := by
  rintro a w ⟨ow, loc, hs, hf, hsz⟩
  have hlt : ∀ r row, H'.get r = some row → r < H'.nx ∧ rowRefsB H'.nx row = true := by
    intro r row h
    have : ∀ (l : List (Nat × Row)), l.all (fun x => decide (x.1 < H'.nx) && rowRefsB H'.nx x.2) = true → getRow l r = some row → r < H'.nx ∧ rowRefsB H'.nx row = true := by
      intro l
      induction l with
      | nil => intro _ h; cases h
      | cons x rest ih =>
        obtain ⟨k, y⟩ := x
        intro hl hg
        simp only [List.all_cons, Bool.and_eq_true, decide_eq_true_eq] at hl
        simp only [getRow] at hg
        cases hkr : k == r with
        | true =>
          have : k = r := by simpa using hkr
          subst this
          rw [hkr] at hg
          simp only [cond_true, Option.some.injEq] at hg
          subst hg
          exact hl.1
        | false =>
          rw [hkr] at hg
          exact ih (by simpa using hl.2) hg
    exact this _ hH h
  have hle : LocLe loc (fun r => bif decide (r < H'.nx) then loc r else none) := fun r => by
    show (bif decide (r < H'.nx) then loc r else none) = loc r ∨ (bif decide (r < H'.nx) then loc r else none) = none
    cases decide (r < H'.nx) <;> simp
  have hsome : ∀ r x, (bif decide (r < H'.nx) then loc r else none) = some x → loc r = some x := fun r x h => by
    cases hd : decide (r < H'.nx) with
    | true => rw [hd] at h; exact h
    | false => rw [hd] at h; cases h
  refine ⟨ow, fun r => bif decide (r < H'.nx) then loc r else none, ⟨?_, fun r L h => hs.live r L (hsome r _ h), fun r r' L L' h1 h2 => hs.inj r r' L L' (hsome r _ h1) (hsome r' _ h2), hs.old, hs.size, hs.os, hs.tape, hs.output, ?_, hs.owlt, hs.forb, hs.alt, fun r L h => hs.apart r L (hsome r _ h), ?_, fun i t => by rw [hg']; simp only [List.getD_nil, Frame.get]; exact ⟨.data _ _ (.undef _), .undef⟩, fun r t ht => ⟨(hty r t ht).2, fun L hL => (hs.ty r t (hty r t ht).1).2 L (hsome r _ hL)⟩⟩, ?_, hsz⟩
  · intro r row h
    obtain ⟨L, hL, hat⟩ := hs.rows r row (keepsRows_get hr r row h)
    refine ⟨L, ?_, hat.mono (n := H.nx) (Stable.refl _ _) (fun _ _ h => h) (fun r _ => hle r) (fun l e => hs.refs r l (by rw [← e]; exact keepsRows_get hr r row h)) fun M _ => rfl⟩
    simp only [decide_eq_true (hlt r row h).1, cond_true]
    exact hL
  · intro r h
    show (bif decide (r < H'.nx) then loc r else none) = none
    rw [decide_eq_false (by omega)]; rfl
  · intro r l h j hj
    exact refs_of0 (List.all_eq_true.1 (hlt r _ h).2 _ (getD_mem hj))
  · have h1 := hf.keep hk
    exact ⟨fun t => (h1.vals t).mono (Stable.refl _ _) (fun _ _ h => h) hle, getD_undef_refs _ _ (List.all_eq_true.1 hF), h1.defers⟩
-- functions
def resV (tt : Tab) (F : Frame) (H : Heap) : ResultVar → (PV → Prop) → Prop
  | .tmp t, K => okView H.get (F.get t) ∧ K (view H.get (F.get t))
  | .cell b ty, K => match F.get b, tt ty with
    | .ptr r 0 0, some ti => match H.get r with
      | some (.var l) => isStruct ti.desc = true ∧ ti.size = l.length ∧ okView H.get (.agg l) ∧ K (view H.get (.agg l))
      | _ => False
    | _, _ => False
def resVs (tt : Tab) (F : Frame) (H : Heap) : List ResultVar → (List PV → Prop) → Prop
  | [], K => K []
  | r :: rest, K => resV tt F H r fun p => resVs tt F H rest fun ps => K (p :: ps)
def oneOf : List PV → PV
  | [p] => p
  | ps => .tup ps
def argsFrame : Nat → List PV → Frame
  | _, [] => []
  | k, p :: rest => (k, p) :: argsFrame (k + 1) rest
theorem argsFrame_get (args : List PV) (k t : Nat) : (argsFrame k args).get t = if k ≤ t ∧ t < k + args.length then args.getD (t - k) .undef else .undef := by
  induction args generalizing k with
  | nil => simp only [argsFrame, Frame.get, List.length_nil]; rw [if_neg (by omega)]
  | cons p rest ih =>
    simp only [argsFrame, Frame.get, List.length_cons]
    by_cases h : k = t
    · subst h
      simp
    · rw [beq_eq_false_iff_ne.2 h, cond_false, ih]
      by_cases h2 : k + 1 ≤ t ∧ t < k + 1 + rest.length
      · rw [if_pos h2, if_pos (by omega), show t - k = (t - (k + 1)) + 1 by omega]
        simp
      · rw [if_neg h2, if_neg (by omega)]
theorem RD.weaken {A : Nat → Prop} (hs : HS E H ow loc w) (hA : ∀ b, A b → E.A b) (S : List Nat) {p : PV} {v : Value} (h : RD w (lessOf ow loc S) p v) : RD w A p v :=
  h.mono (w' := w) (fun b o u _ hc => hc) (fun b _ hb => ⟨hs.forb b (hA b hb), fun ⟨r, _, L, hL, e⟩ => by subst e; exact hs.apart r L hL (hA _ hb)⟩)
def resSem (tmps : Array Value) : ResultVar → Sem Value
  | .tmp t => pure (tmps.getD t undef)
  | .cell b t => do loadVar t (← asAddr (tmps.getD b undef))
theorem results_eq (fn : Func) (tmps : Array Value) : results fn tmps = (do let vs ← fn.results.mapM (resSem tmps); pure (if h : vs.size = 1 then vs[0] else .tuple vs)) := by
  unfold results
  congr 1
theorem resVs_sound (hT : TabOk P tt) {A : Nat → Prop} (hs : HS E H ow loc w) (hf : FS w ow loc H.nx F.get a) (hA : ∀ b, A b → E.A b) : ∀ (rs : List ResultVar) (K : List PV → Prop), resVs tt F H rs K →
    ∃ (ps : List PV) (vs : List Value), K ps ∧ (rs.mapM (resSem a.tmps)).run P w = .ok vs w ∧ ps.length = vs.length ∧ ps.length = rs.length ∧ ∀ i, i < ps.length → RD w A (ps.getD i .undef) (vs.getD i undef)
  | [], K, h => ⟨[], [], h, by simp, rfl, rfl, fun i hi => by simp at hi⟩
  | r :: rest, K, h => by
    simp only [resVs] at h
    have step : ∃ p v, resVs tt F H rest (fun ps => K (p :: ps)) ∧ (resSem a.tmps r).run P w = .ok v w ∧ RD w A p v := by
      cases r with
      | tmp t =>
        obtain ⟨hok, h⟩ := h
        exact ⟨_, a.tmps.getD t undef, h, by simp [resSem], (view_ok hs.rowsOk (hf.vals t) hok (ids (F.get t)) fun _ h => h).weaken hs hA _⟩
      | cell b t =>
        simp only [resV] at h
        have hb := hf.vals b
        split at h
        · rename_i r ti hp hti
          rw [hp] at hb
          cases hrw : H.get r with
          | none => rw [hrw] at h; exact h.elim
          | some row =>
            rw [hrw] at h
            cases row with
            | ints => exact h.elim
            | list => exact h.elim
            | var l =>
              obtain ⟨hst, hsz, hok, h⟩ := h
              have ht := hT _ _ hti
              have hno : isOther ti.desc = false := by cases hd : ti.desc <;> simp [isStruct, isOther, hd] at hst ⊢
              have hload := load_sound (P := P) ht hno hs.rowsOk (K := fun p => p = .agg l) hb (by
                simp only [loadW, hrw, hst, partW]
                exact ⟨trivial, by omega, by rw [List.drop_zero, hsz, List.take_length]⟩)
              obtain ⟨q, rfl, cv, hrun, hv, _⟩ := hload
              refine ⟨_, cv, h, ?_, (view_ok hs.rowsOk hv hok (ids (.agg l)) fun _ h => h).weaken hs hA _⟩
              have hptr : ∃ ad, a.tmps.getD b undef = .pointer (some ad) := by
                generalize a.tmps.getD b undef = x at hb
                cases hb with
                | data _ _ h => cases h
                | _ => exact ⟨_, rfl⟩
              obtain ⟨ad, had⟩ := hptr
              rw [had] at hrun
              simp only [resSem, had]
              simpa [asAddr, Instr.loadAt, Instr.sureAddr] using hrun
        · exact h.elim
    obtain ⟨p, v, h, hrun, hv⟩ := step
    obtain ⟨ps, vs, hK, hruns, hl, hl2, hd⟩ := resVs_sound hT hs hf hA rest _ h
    refine ⟨p :: ps, v :: vs, hK, ?_, by simp [hl], by simp [hl2], fun i hi => ?_⟩
    · simp only [List.mapM_cons, Sem.run_bind, hrun, Result.andThen_ok, hruns, Sem.run_pure]
    · cases i with
      | zero => exact hv
      | succ i => simp only [List.getD_cons_succ]; exact hd i (by simpa using hi)
theorem meets_of (hT : TabOk P tt) {f : FuncId} {fn : Func} {c : Code} (hf : P.funcs[f]? = some fn) (hname : (fn.name == "runtime.NumGoroutine") = false) (hb : fn.body = some c) {args : List PV} {res : PV} (hlen : args.length ≤ fn.ntmps) (hdat : args.all dataB = true)
    (h : ∀ E, PW P E fn.ntmps c (fun e F H => (match e with | .ret | .normal => True | _ => False) ∧ resVs tt F H fn.results.toList fun ps => res = oneOf ps) (argsFrame 0 args) ⟨0, [], [], []⟩) : Meets P f args res := by
  refine ⟨fun w A vs ⟨hL, hA⟩ hl hargs => ?_⟩
  refine .inl ⟨call_enters hf hname hb vs w, ?_⟩
  refine calls_of_wp hf hb ?_
  have hvs : vs.size ≤ fn.ntmps := by omega
  let E : Entry P := ⟨w, fun _ => False, A, fun _ _ => undef, hL, fun _ _ _ _ _ h => h⟩
  have hst : St E fn.ntmps (argsFrame 0 args) ⟨0, [], [], []⟩ { tmps := vs ++ Array.replicate (fn.ntmps - vs.size) undef, defers := [] } w := by
    refine ⟨A, fun _ => none, ⟨(fun r row h => by cases h), (fun r L h => by cases h), (fun r r' L L' h => by cases h), fun _ _ _ => rfl, Nat.le_refl _, rfl, rfl, rfl, fun _ _ => rfl, hA, fun _ h => h, hA, (fun r L h => by cases h), (fun r l h => by cases h), fun i t => ⟨by simp only [List.getD_nil, Frame.get]; exact .data _ _ (.undef _), by simp only [List.getD_nil, Frame.get]; exact .undef⟩, fun r t h => by cases h⟩, ⟨fun t => ?_, fun t => ?_, rfl⟩, by simp; omega⟩
    · rw [argsFrame_get]
      split
      · rename_i ht
        have ht' : t < vs.size := by omega
        have e : (vs ++ Array.replicate (fn.ntmps - vs.size) undef).getD t undef = vs.getD t undef := by
          simp [Array.getD_eq_getD_getElem?, Array.getElem?_append_left ht']
        simp only [Nat.sub_zero]
        rw [e]
        exact .data _ _ (hargs t (by omega))
      · exact .data _ _ (.undef _)
    · rw [argsFrame_get]
      split
      · rename_i ht
        simp only [Nat.sub_zero]
        exact rd_refs (hargs t (by omega))
      · exact .undef
  refine wp_mono (h E _ w hst) fun e a' w' ⟨F', H', ⟨he, hr⟩, ow, loc, hs, hf', hsz⟩ => ?_
  have fin : a'.defers = [] ∧ ∃ v, (results fn a'.tmps).run P w' = .ok v w' ∧ ∃ u, Ending.returned v = Ending.returned u ∧ Back w A res u w' := by
    obtain ⟨ps, us, hres, hrun, hlen2, hlen3, hd⟩ := resVs_sound (P := P) (A := A) hT hs hf' (fun _ h => h) fn.results.toList _ hr
    subst hres
    have hback : Below w.heap.size w w' := ⟨hs.os, hs.tape, hs.output, hs.size, fun b hb0 => hs.old b hb0 (fun h => h)⟩
    have hmap : (fn.results.mapM (resSem a'.tmps)).run P w' = .ok us.toArray w' := by
      rw [Array.mapM_eq_mapM_toList]
      simp only [Sem.run_map, hrun, Result.andThen_ok]
    refine ⟨hf'.defers, if h : us.toArray.size = 1 then us.toArray[0] else .tuple us.toArray, ?_, _, rfl, hback, ?_⟩
    · rw [results_eq]; simp only [Sem.run_bind, hmap, Result.andThen_ok, Sem.run_pure]
    · match ps, us, hlen2, hd with
      | [p], [u], _, hd => simpa [oneOf] using hd 0 (by simp)
      | [], [], _, hd => simpa [oneOf] using RD.tup [] #[] rfl hd
      | p :: q :: ps, u :: u' :: us, hl, hd =>
        have : ¬ ((u :: u' :: us).toArray.size = 1) := by simp
        rw [dif_neg this]
        exact .tup _ _ (by simpa using hl) fun i hi => by
          have := hd i hi
          have e : (u :: u' :: us).toArray.getD i undef = (u :: u' :: us).getD i undef := by
            rw [Array.getD_eq_getD_getElem?, List.getElem?_toArray]; rfl
          rw [e]; exact this
  cases e <;> first | exact fin | exact he.elim
end
theorem get_nil (t : Nat) : Frame.get [] t = .undef := rfl
theorem get_cons (F : Frame) (k t : Nat) (p : PV) : Frame.get ((k, p) :: F) t = match k == t with | true => p | false => Frame.get F t := by
  simp only [Frame.get]; cases k == t <;> rfl
def ifW (b want : Bool) (yes no : Prop) (_ : Ph yes) (_ : Ph no) : Prop := (b = want → yes) ∧ (b ≠ want → no)
@[congr] theorem ifW_congr {b b' want : Bool} {yes no : Prop} {d : Ph yes} {e : Ph no} (h : b = b') : ifW b want yes no d e = ifW b' want yes no d e := by rw [h]
theorem ifW_tt (yes no : Prop) (d : Ph yes) (e : Ph no) : ifW true true yes no d e = yes := by simp [ifW]
theorem ifW_ff (yes no : Prop) (d : Ph yes) (e : Ph no) : ifW false false yes no d e = yes := by simp [ifW]
theorem ifW_tf (yes no : Prop) (d : Ph yes) (e : Ph no) : ifW true false yes no d e = no := by simp [ifW]
theorem ifW_ft (yes no : Prop) (d : Ph yes) (e : Ph no) : ifW false true yes no d e = no := by simp [ifW]
theorem wantW_eq (all : List Oper) (F : Frame) (o : Oper) (yes no : Prop) : wantW all F o yes no = match o.guard with
    | none => yes
    | some (j, want) => match guardV all F j with
      | .bool b => ifW b want yes no .mk .mk
      | .tup [] => no
      | _ => False := by
  unfold wantW ifW
  rfl
section
variable {P : Program} {w w' : World} {ow ow' : Nat → Prop} {loc loc' : Locs} {n nt : Nat} {E : Entry P} {H : Heap} {F : Frame} {a : Act} {tt : Tab} {rows : Nat → Option Row}
theorem ifW_dec {p : Prop} [inst : Decidable p] {want : Bool} {yes no : Prop} {d : Ph yes} {e : Ph no} (h1 : p → ifW true want yes no d e) (h2 : ¬ p → ifW false want yes no d e) : ifW (decide p) want yes no d e := by
  by_cases h : p
  · rw [decide_eq_true h]; exact h1 h
  · rw [decide_eq_false h]; exact h2 h
@[congr] theorem PW_congr {c : Code} {Q : Exit → Frame → Heap → Prop} {F F' : Frame} {H H' : Heap} (hF : F = F') (hH : H = H') : PW P E nt c Q F H = PW P E nt c Q F' H' := by rw [hF, hH]
def condE (p : PV) (x y : Prop) (_ : Ph x) (_ : Ph y) : Prop := condW p x y
@[congr] theorem condE_congr {p p' : PV} {x y : Prop} {d : Ph x} {e : Ph y} (h : p = p') : condE p x y d e = condE p' x y d e := by rw [h]
theorem condE_t (x y : Prop) (d : Ph x) (e : Ph y) : condE (.bool true) x y d e = x := by simp [condE, condW]
theorem condE_f (x y : Prop) (d : Ph x) (e : Ph y) : condE (.bool false) x y d e = y := by simp [condE, condW]
theorem PW.fork {c : Operand} {x y : Code} {Q : Exit → Frame → Heap → Prop} (h : condE (ev F.get c) (PW P E nt x Q F H) (PW P E nt y Q F H) .mk .mk) : PW P E nt (.cond c x y) Q F H := PW.cond h
theorem condE_dec {p : Prop} [inst : Decidable p] {x y : Prop} {d : Ph x} {e : Ph y} (h1 : p → x) (h2 : ¬ p → y) : condE (.bool (decide p)) x y d e :=
  ⟨fun h => h1 (of_decide_eq_true h), fun h => h2 (of_decide_eq_false h)⟩
theorem condE_not {p : Prop} [inst : Decidable p] {x y : Prop} {d : Ph x} {e : Ph y} (h1 : ¬ p → x) (h2 : p → y) : condE (.bool (!decide p)) x y d e :=
  ⟨fun h => h1 (by simpa using h), fun h => h2 (by simpa using h)⟩
theorem condE_var {b : Bool} {x y : Prop} {d : Ph x} {e : Ph y} (h1 : b = true → x) (h2 : b = false → y) : condE (.bool b) x y d e := ⟨h1, h2⟩
def Again {P : Program} (E : Entry P) (nt : Nat) (I : Nat → Frame → Heap → Prop) (n : Nat) (F : Frame) (H : Heap) : Prop := ∃ n' F' H', n' < n ∧ Sub E nt F H F' H' ∧ I n' F' H'
@[congr] theorem Again_congr {I : Nat → Frame → Heap → Prop} {n : Nat} {F F' : Frame} {H H' : Heap} (hF : F = F') (hH : H = H') : Again E nt I n F H = Again E nt I n F' H' := by rw [hF, hH]
theorem Again.mk {I : Nat → Frame → Heap → Prop} {n : Nat} {F : Frame} {H : Heap} (n' : Nat) (F' : Frame) (H' : Heap) (h1 : n' < n) (h2 : Sub E nt F H F' H') (h3 : I n' F' H') : Again E nt I n F H := ⟨n', F', H', h1, h2, h3⟩
theorem PW.loopA {c : Code} {Q : Exit → Frame → Heap → Prop} (I : Nat → Frame → Heap → Prop) (n₀ : Nat) (F₀ : Frame) (H₀ : Heap) (h0 : Sub E nt F H F₀ H₀) (hI : I n₀ F₀ H₀)
    (round : ∀ n F H, I n F H → PW P E nt c (thenQ (Again E nt I n) Q) F H) : PW P E nt (.loop c) Q F H := PW.loop I n₀ h0 hI round
def Fin (tt : Tab) (rs : List ResultVar) (res : PV) (e : Exit) (F : Frame) (H : Heap) : Prop :=
  (match e with | .ret | .normal => True | _ => False) ∧ resVs tt F H rs fun ps => res = oneOf ps
theorem Fin_ret {rs : List ResultVar} {res : PV} : Fin tt rs res .ret F H = resVs tt F H rs fun ps => res = oneOf ps := by simp [Fin]
theorem Fin_normal {rs : List ResultVar} {res : PV} : Fin tt rs res .normal F H = resVs tt F H rs fun ps => res = oneOf ps := by simp [Fin]
theorem meets_by (hT : TabOk P tt) {f : FuncId} {fn : Func} {c : Code} {rs : Array ResultVar} {nt : Nat} (hf : P.funcs[f]? = some fn) (hn : fn.ntmps = nt) (hrs : fn.results = rs) (hname : (fn.name == "runtime.NumGoroutine") = false) (hb : fn.body = some c) {args : List PV} {res : PV} (hlen : Nat.ble args.length nt = true) (hdat : args.all dataB = true)
    (h : ∀ E, PW P E nt c (Fin tt rs.toList res) (argsFrame 0 args) ⟨0, [], [], []⟩) : Meets P f args res :=
  meets_of hT hf hname hb (by rw [hn]; exact Nat.le_of_ble_eq_true hlen) hdat fun E => by rw [hn, hrs]; exact h E
@[congr] theorem callB_congr {f : FuncId} {args args' : List PV} {F F' : Frame} {H H' : Heap} {K : PV → Frame → Heap → Prop} {d : Ph K} (h1 : args = args') (h2 : F = F') (h3 : H = H') : callB P f args F H K d = callB P f args' F' H' K d := by rw [h1, h2, h3]
theorem call_by {f : FuncId} {args : List PV} {res : PV} {K : PV → Frame → Heap → Prop} {d : Ph K} (hm : Meets P f args res) (hv : args.map (view H.get) = args) (ho : okViews H.get args) (hfl : (flatB res || args.all dataB) = true) (h : K res F H) : callB P f args F H K d :=
  .inl ⟨ho, res, by rw [hv]; exact hm, by rw [hfl]; exact h⟩
theorem call_by' {f : FuncId} {args args' : List PV} {res : PV} {K : PV → Frame → Heap → Prop} {d : Ph K} (hv : args.map (view H.get) = args') (hm : Meets P f args' res) (ho : okViews H.get args) (hfl : (flatB res || args.all dataB) = true) (h : K res F H) : callB P f args F H K d :=
  .inl ⟨ho, res, by rw [hv]; exact hm, by rw [hfl]; exact h⟩
theorem call_h {f : FuncId} {args : List PV} {R : PV → Heap → Prop} {K : PV → Frame → Heap → Prop} {d : Ph K} (hm : HMeets P f args ⟨H.nx, H.rows, F :: H.g, H.ty⟩ R) (h : ∀ res H', R res H' → ∃ F' g', H'.g = F' :: g' ∧ K res F' ⟨H'.nx, H'.rows, g', H'.ty⟩) : callB P f args F H K d :=
  .inr ⟨fun E ow loc w vs hs hl ha => by
    have mono : ∀ (R R' : Value → World → Prop), (∀ v w', R v w' → R' v w') → CallsTo P f vs w R → CallsTo P f vs w R' := fun R R' hR hc => by
      rcases hc with ⟨h1, h2⟩ | ⟨v, w', h1, h2⟩
      · exact .inl ⟨h1, h2.mono fun e w' ⟨v, he, hr⟩ => ⟨v, he, hR _ _ hr⟩⟩
      · exact .inr ⟨v, w', h1, hR _ _ h2⟩
    exact mono _ _ (fun v w' ⟨res, H', ow', loc', hR, rest⟩ => ⟨res, H', ow', loc', h res H' hR, rest⟩) (hm.run E ow loc w vs hs hl ha)⟩
theorem load_int (rows : Nat → Option Row) (sz : Nat) (k : IntKind) (n : Int) (K : PV → Prop) : loadW rows false sz (.rptr (.int k n) 0) K = K (.int k n) := by
  simp [loadW, partW, cellsOf]
end
theorem wrap_i64' (n : Int) : IntKind.wrap .i64 n = if n % 18446744073709551616 ≥ 9223372036854775808 then n % 18446744073709551616 - 18446744073709551616 else n % 18446744073709551616 := by
  simp [IntKind.wrap, IntKind.signed, IntKind.bits]
theorem wrap_i64 {n : Int} (h : -9223372036854775808 ≤ n ∧ n ≤ 9223372036854775807) : IntKind.wrap .i64 n = n := by
  rw [wrap_i64']; split <;> omega
theorem wrap_u64' (n : Int) : IntKind.wrap .u64 n = n % 18446744073709551616 := by
  simp [IntKind.wrap, IntKind.signed, IntKind.bits]
theorem wrap_u64 {n : Int} (h : 0 ≤ n ∧ n ≤ 18446744073709551615) : IntKind.wrap .u64 n = n := by
  rw [wrap_u64']; omega
theorem wrap_u8' (n : Int) : IntKind.wrap .u8 n = n % 256 := by
  simp [IntKind.wrap, IntKind.signed, IntKind.bits]
theorem wrap_u8 {n : Int} (h : 0 ≤ n ∧ n ≤ 255) : IntKind.wrap .u8 n = n := by
  rw [wrap_u8']; omega
end Go.PV

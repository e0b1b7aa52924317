/- Pure values, part 12: literals of slices, the bytes of a string. -/
import Derived.Test.YtmoigffjpijpaaaV11
set_option linter.unusedVariables false
set_option linter.unusedSimpArgs false
namespace Go.PV
open Go Go.RowKit

section
variable {P : Program} {w w' : World} {ow ow' : Nat → Prop} {loc loc' : Locs} {n nt : Nat} {E : Entry} {H : Heap} {F : Frame} {a : Act} {tt : Tab}

/-- The parts of a whole literal, in their order. -/
def inOrder : Nat → List (Nat × PV) → Bool
  | _, [] => true
  | k, (i, _) :: rest => k == i && inOrder (k + 1) rest

def intsOf (k : IntKind) : List (Nat × PV) → (List Int → Prop) → Prop
  | [], K => K []
  | (_, p) :: rest, K => match p with
    | .int k' m => k = k' ∧ intsOf k rest fun l => K (m :: l)
    | _ => False

def partsOk (sz : Nat) : List (Nat × PV) → Prop
  | [] => True
  | (_, p) :: rest => (known p = true ∧ dataB p = true ∧ (cellsOf p).length = sz) ∧ partsOk sz rest

/-- A literal of a slice, all of whose elements are told. -/
def litW (tt : Tab) (t : TypeId) (len : Nat) (parts : List (Nat × PV)) (H : Heap) (K : PV → Heap → Prop) : Prop :=
  match tt t with
  | some ti => match ti.desc with
    | .slice e => match tt e with
      | some te => (inOrder 0 parts = true ∧ parts.length = len ∧ 0 < te.size ∧ len * te.size ≤ 16777216) ∧
        (match te.desc with
        | .int k => te.size = 1 ∧ intsOf k parts fun l => K (.sl H.nx 0 len true) (H.new (.ints k l))
        | _ => partsOk te.size parts ∧ K (.sl H.nx 0 len true) (H.new (.list te.size (parts.map (·.2)))))
      | none => False
    | _ => False
  | none => False

/-- What a literal's parts are laid out as. -/
theorem fill_seq (sz : Nat) (hsz : 0 < sz) : ∀ (vals : List (Nat × Value)) (k : Nat) (cs : Array Value), (∀ x ∈ vals, x.2.cells.size = sz) → (∀ j, j < vals.length → (vals.getD j (0, undef)).1 = k + j) → (k + vals.length) * sz ≤ cs.size →
    ∃ cs', Instr.fill (fun i => some (i * sz, sz)) cs vals = some cs' ∧ cs'.size = cs.size ∧ (∀ i, i < k * sz → cs'[i]? = cs[i]?) ∧
      ∀ j m, j < vals.length → m < sz → cs'[(k + j) * sz + m]? = some ((vals.getD j (0, undef)).2.cells.getD m undef) := by
  intro vals
  induction vals with
  | nil => intro k cs _ _ _; exact ⟨cs, rfl, rfl, fun _ _ => rfl, fun j m hj => by simp at hj⟩
  | cons x vals ih =>
    intro k cs hx hk hle
    obtain ⟨i, v⟩ := x
    have hi : i = k := by have := hk 0 (by simp); simpa using this
    subst hi
    have hv : v.cells.size = sz := hx (i, v) (by simp)
    have hle1 : (i + 1) * sz ≤ cs.size := Nat.le_trans (Nat.mul_le_mul_right _ (by simp)) hle
    have hle1' := hle1
    rw [Nat.add_mul, Nat.one_mul] at hle1
    have step : ∀ (us : List Value) (j : Nat) (c : Array Value), i * sz + j + us.length ≤ c.size →
        (∀ x, ((us.zipIdx j).foldl (fun (cs : Array Value) (y : Value × Nat) => cs.setIfInBounds (i * sz + y.2) y.1) c)[x]? = if i * sz + j ≤ x ∧ x < i * sz + j + us.length then us[x - (i * sz + j)]? else c[x]?) ∧
        ((us.zipIdx j).foldl (fun (cs : Array Value) (y : Value × Nat) => cs.setIfInBounds (i * sz + y.2) y.1) c).size = c.size := by
      intro us
      induction us with
      | nil => intro j c _; exact ⟨fun x => by rw [if_neg (by simp only [List.length_nil]; omega)]; rfl, rfl⟩
      | cons u us ihu =>
        intro j c hc
        simp only [List.zipIdx_cons, List.foldl_cons]
        simp only [List.length_cons] at hc
        obtain ⟨h1, h2⟩ := ihu (j + 1) (c.setIfInBounds (i * sz + j) u) (by simp; omega)
        refine ⟨fun x => ?_, by rw [h2]; simp⟩
        rw [h1]
        simp only [List.length_cons]
        by_cases hxj : x = i * sz + j
        · subst hxj
          rw [if_neg (by omega), if_pos (by omega)]
          simp [show i * sz + j < c.size by omega]
        · by_cases hin : i * sz + (j + 1) ≤ x ∧ x < i * sz + (j + 1) + us.length
          · rw [if_pos hin, if_pos (by omega)]
            rw [show x - (i * sz + j) = (x - (i * sz + (j + 1))) + 1 by omega]
            simp
          · rw [if_neg hin, if_neg (by omega)]
            simp [Ne.symm hxj]
    obtain ⟨hg, hsz1⟩ := step v.cells.toList 0 cs (by simp [hv]; omega)
    have hlen : v.cells.toList.length = sz := by simpa using hv
    generalize hcs1 : ((v.cells.toList.zipIdx 0).foldl (fun (cs : Array Value) (y : Value × Nat) => cs.setIfInBounds (i * sz + y.2) y.1) cs) = cs1 at hg hsz1
    obtain ⟨cs', hf, hs', hlow, hhigh⟩ := ih (i + 1) cs1 (fun y hy => hx y (by simp [hy])) (fun j hj => by have := hk (j + 1) (by simpa using hj); simp only [List.getD_cons_succ] at this; omega)
      (by rw [hsz1]; simp only [List.length_cons] at hle; rw [show i + 1 + vals.length = i + (vals.length + 1) by omega]; exact hle)
    refine ⟨cs', ?_, hs'.trans hsz1, ?_, ?_⟩
    · have e : v.cells.zipIdx.foldl (fun cs (x : Value × Nat) => cs.setIfInBounds (i * sz + x.2) x.1) cs = cs1 := by
        rw [← hcs1, ← Array.foldl_toList]; simp
      have hcond : (decide (v.cells.size ≠ sz) || decide (i * sz + v.cells.size > cs.size)) = false := by simp; omega
      simp only [Instr.fill, hcond, Bool.false_eq_true, if_false]
      rw [← hf]
      congr 1
    · intro x hxl
      rw [hlow x (by rw [Nat.add_mul]; omega), hg, if_neg (by omega)]
    · intro j m hj hm
      cases j with
      | zero =>
        simp only [Nat.add_zero, List.getD_cons_zero]
        rw [hlow _ (by rw [Nat.add_mul]; omega), hg, if_pos (by omega)]
        rw [show i * sz + m - (i * sz + 0) = m by omega, Array.getElem?_toList]
        have : m < v.cells.size := by omega
        simp [Array.getD, this]
      | succ j =>
        simp only [List.getD_cons_succ]
        rw [← hhigh j m (by simpa using hj) hm, show i + 1 + j = i + (j + 1) by omega]

theorem inOrder_get : ∀ (parts : List (Nat × PV)) (k : Nat), inOrder k parts = true → ∀ j, j < parts.length → (parts.getD j (0, .undef)).1 = k + j
  | [], _, _, j, hj => by simp at hj
  | (i, p) :: rest, k, h, j, hj => by
    simp only [inOrder, Bool.and_eq_true, beq_iff_eq] at h
    cases j with
    | zero => simpa using h.1.symm
    | succ j =>
      have := inOrder_get rest (k + 1) h.2 j (by simpa using hj)
      simp only [List.getD_cons_succ]
      omega

theorem intsOf_get (k : IntKind) : ∀ (parts : List (Nat × PV)) (K : List Int → Prop), intsOf k parts K → ∃ l, K l ∧ l.length = parts.length ∧ ∀ j, j < parts.length → (parts.getD j (0, .undef)).2 = .int k (l.getD j 0)
  | [], K, h => ⟨[], h, rfl, fun j hj => by simp at hj⟩
  | (i, p) :: rest, K, h => by
    simp only [intsOf] at h
    cases p <;> try exact h.elim
    obtain ⟨rfl, h⟩ := h
    obtain ⟨l, hK, hl, hg⟩ := intsOf_get k rest _ h
    refine ⟨_, hK, by simp [hl], fun j hj => ?_⟩
    cases j with
    | zero => rfl
    | succ j => simp only [List.getD_cons_succ]; exact hg j (by simpa using hj)

theorem partsOk_get (sz : Nat) : ∀ (parts : List (Nat × PV)), partsOk sz parts → ∀ j, j < parts.length → known (parts.getD j (0, .undef)).2 = true ∧ dataB (parts.getD j (0, .undef)).2 = true ∧ (cellsOf (parts.getD j (0, .undef)).2).length = sz
  | [], _, j, hj => by simp at hj
  | (i, p) :: rest, h, j, hj => by
    cases j with
    | zero => exact h.1
    | succ j => simp only [List.getD_cons_succ]; exact partsOk_get sz rest h.2 j (by simpa using hj)

theorem lit_sound (hT : TabOk P tt) (hs : HS E H ow loc w) {t : TypeId} {len : Nat} {parts : List (Nat × PV)} {vals : Array (Nat × Value)} {K : PV → Heap → Prop} (hlen : parts.length = vals.toList.length)
    (hv : ∀ i, i < parts.length → (parts.getD i (0, .undef)).1 = (vals.toList.getD i (0, undef)).1 ∧ RV w ow loc (parts.getD i (0, .undef)).2 (vals.toList.getD i (0, undef)).2)
    (h : litW tt t len parts H K) : Made P E H ow loc w (Instr.buildSlice t len vals) K := by
  unfold litW at h
  cases hti : tt t with
  | none => rw [hti] at h; exact h.elim
  | some ti =>
    rw [hti] at h
    simp only at h
    split at h
    · rename_i e hd
      cases hte : tt e with
      | none => rw [hte] at h; exact h.elim
      | some te =>
        rw [hte] at h
        obtain ⟨⟨hord, hpl, hpos, hbig⟩, h⟩ := h
        have ht := hT _ _ hti
        have hte' := hT _ _ hte
        obtain ⟨i, hi, hz, his, hby⟩ := hte'.info
        have hord' := inOrder_get parts 0 hord
        -- every part has its size
        have hcells : ∀ j, j < parts.length → (vals.toList.getD j (0, undef)).2.cells.size = te.size ∧ ∀ m, m < te.size → ((vals.toList.getD j (0, undef)).2.cells.getD m undef).oneCell' = true := by
          intro j hj
          have hvj := (hv j hj).2
          split at h
          · rename_i k hk
            obtain ⟨h1, h⟩ := h
            obtain ⟨l, hK, hl, hg⟩ := intsOf_get k parts _ h
            rw [hg j hj] at hvj
            rw [rv_int hvj, h1]
            refine ⟨rfl, fun m hm => ?_⟩
            obtain rfl : m = 0 := by omega
            rfl
          · obtain ⟨hk, hd, hc⟩ := partsOk_get _ parts h.1 j hj
            obtain ⟨h1, h2⟩ := rv_cells hvj hk
            exact ⟨by rw [← h1]; exact hc, fun m hm => (h2 m (by omega)).2⟩
        have hzc : te.z.cells.size = te.size := hte'.s
        obtain ⟨cs', hf, hcs, _, hget⟩ := fill_seq te.size hpos vals.toList 0 ((Array.range (len * te.size)).map (te.z.cells[· % te.z.cells.size]!)) (fun x hx => by
            obtain ⟨j, hj, rfl⟩ := List.getElem_of_mem hx
            have := (hcells j (by omega)).1
            have e2 : vals.toList.getD j (0, undef) = vals.toList[j] := by rw [List.getD_eq_getElem?_getD, List.getElem?_eq_getElem hj]; rfl
            rwa [e2] at this) (fun j hj => by
            have h1 := (hv j (by omega)).1
            have h2 := hord' j (by omega)
            omega) (by simp; rw [← hpl, hlen]; simp)
        have hcs' : cs'.size = len * te.size := by rw [hcs]; simp
        have hrun : (Instr.buildSlice t len vals).run P w = .ok (.slice (some ⟨w.heap.size, 0, none⟩) len len) (w.alloc (.cells cs' e)) := by
          have hb : ¬ (16777216 < len * i.size) := by rw [his]; omega
          have hf' : Instr.fill (fun i => some (i * te.size, te.size)) (madeCells te.z.cells (len * te.size)) vals.toList = some cs' := hf
          by_cases hz0 : len * i.size = 0
          · have hl0 : len = 0 := by rcases Nat.mul_eq_zero.1 hz0 with h | h; exact h; omega
            subst hl0
            have hvn : vals.toList = [] := List.eq_nil_of_length_eq_zero (by omega)
            rw [hvn] at hf
            simp [Instr.fill] at hf
            simp [Instr.buildSlice, run_underlying (ht.under_slice hd), sizeOf, typeInfo, hi, newRow, hvn, Instr.fill, ← hf, Array.range_zero']
          · simp only [madeCells] at hf'
            rw [← his] at hf'
            simp [Instr.buildSlice, run_underlying (ht.under_slice hd), sizeOf, typeInfo, zeroValue, hi, hz, hb, hz0, hf', newRow]
        have hc := Chg.of_alloc w (.cells cs' e) w.heap.size
        have hst : Stable ow w (w.alloc (.cells cs' e)) := Stable.of_chg_new hc (Nat.le_refl _) ow
        have hbb : ∀ b, b < w.heap.size → (ow b ∨ b = w.heap.size) → ow b := fun b hb h => h.elim id (fun e => by omega)
        have fin : ∀ row, RowIn (w.alloc (.cells cs' e)) (fun b => ow b ∨ b = w.heap.size) (locNew loc H.nx (some ⟨w.heap.size, 0, len, te.size⟩)) ⟨w.heap.size, 0, len, te.size⟩ cs' row →
            (∀ l, row = .var l → False) → K (.sl H.nx 0 len true) (H.new row) → Made P E H ow loc w (Instr.buildSlice t len vals) K := by
          intro row hin hnv hK
          have hL : locNew loc H.nx (some ⟨w.heap.size, 0, len, te.size⟩) H.nx = some (some ⟨w.heap.size, 0, len, te.size⟩) := by simp [locNew]
          refine made_of hs (cap := len) (sz := te.size) (fr := (0, 0)) hK hrun hc (by simp) (heap_alloc_new w _) (unfrozen_zero _) hcs' hin (fun l e => (hnv l e).elim) ?_ (.sl _ _ _ _ (by omega))
          exact .sl _ _ _ _ _ _ _ hL (Nat.le_refl _) (by simp) (fun _ => by simp) (.inr (by simp))
        split at h
        · rename_i k hk
          obtain ⟨h1, h⟩ := h
          obtain ⟨l, hK, hl, hg⟩ := intsOf_get k parts _ h
          refine fin (.ints k l) ⟨h1, by show l.length ≤ len; omega, fun j hj => ?_⟩ (fun l e => by cases e) hK
          have := hget j 0 (by omega) hpos
          rw [h1] at this
          simp only [Nat.zero_add, Nat.mul_one, Nat.add_zero] at this ⊢
          rw [this]
          have hvj := (hv j (by omega)).2
          rw [hg j (by omega)] at hvj
          rw [rv_int hvj]
          rfl
        · refine fin (.list te.size (parts.map (·.2))) ⟨rfl, hpos, by show (parts.map (·.2)).length ≤ len; rw [List.length_map]; omega, fun j hj => ?_⟩ (fun l e => by cases e) h.2
          rw [List.length_map] at hj
          have e1 : (parts.map (·.2)).getD j .undef = (parts.getD j (0, .undef)).2 := by simp [List.getD, hj]
          rw [e1]
          obtain ⟨hk, hdd, hcl⟩ := partsOk_get _ parts h.1 j hj
          refine ⟨hcl, fun m hm => ⟨_, ?_, (hcells j hj).2 m hm, ?_⟩⟩
          · have := hget j m (by omega) hm
            simpa using this
          · exact (rd_of0' (rd_of (hv j hj).2 hdd) hk m (by omega)).mono hst hbb
    · exact h.elim

theorem bytes_sound (hT : TabOk P tt) (hs : HS E H ow loc w) {src dst e : TypeId} {sti : TypeDesc} (hsu : P.underlying src = some sti) (hd : P.underlying dst = some (.slice e)) (he : P.underlying e = some (.int .u8)) {l : List Int} {v : Value} {K : PV → Heap → Prop}
    (hp : RV w ow loc (.str l) v) (hbig : l.length ≤ 9223372036854775807) (h : K (.sl H.nx 0 l.length true) (H.new (.ints .u8 l))) : Made P E H ow loc w (convert src dst v) K := by
  obtain ⟨s, rfl, rfl⟩ := rv_str hp
  rw [bytesI_length] at h hbig
  generalize hcap : (Question.appendCap s.size 0 e).cut (w.tape w.drawn (.appendCap s.size 0 e)) = cap
  have hcap' : s.size ≤ cap := by rw [← hcap]; simp [Question.cut]
  generalize hcs : (s.data.map fun b => Value.int .u8 b.toNat) ++ Array.replicate (cap - s.size) (.int .u8 0) = cs
  have hsz : cs.size = cap := by rw [← hcs]; simp; have : s.data.size = s.size := rfl; omega
  have hrun : (convert src dst (.string s)).run P w = .ok (.slice (some ⟨w.heap.size, 0, none⟩) s.size cap) ((w.drew.alloc (.cells cs e)).freeze ⟨w.heap.size, cap, none⟩ 1) := by
    have hfo : (Question.appendCap s.size 0 e).forced = false := rfl
    have hsh : (w.drew.alloc (.cells cs e)).shape? w.heap.size = some (e, cap) := by
      unfold World.shape?
      rw [show (w.drew.alloc (.cells cs e)).heap[w.heap.size]? = some (.cells cs e) from heap_alloc_new w.drew _]
      simp [hsz]
    cases sti <;> simp [convert, run_underlying hsu, run_underlying hd, run_underlying he, Conv.stringToBytes, hfo, hcap, hcs, newRow, markStringish, hsh]
  have hheap : ((w.drew.alloc (.cells cs e)).freeze ⟨w.heap.size, cap, none⟩ 1).heap[w.heap.size]? = some (.cells cs e (cap, cap + 1)) := by
    have := heap_alloc_new w.drew (.cells cs e)
    unfold World.freeze
    simp only [Nat.one_ne_zero, if_false, Array.getElem?_modify]
    rw [show (w.drew.alloc (.cells cs e)).heap[w.heap.size]? = some (.cells cs e) from this]
    simp
  have hc : Chg w ((w.drew.alloc (.cells cs e)).freeze ⟨w.heap.size, cap, none⟩ 1) w.heap.size := by
    refine ⟨rfl, rfl, rfl, ?_, ?_⟩
    · simp [World.freeze]
    · intro k hk hne
      have := heap_alloc_old w.drew (.cells cs e) k hk
      unfold World.freeze
      simp only [Nat.one_ne_zero, if_false, Array.getElem?_modify]
      rw [if_neg (Ne.symm hne)]
      exact this
  have hL : locNew loc H.nx (some ⟨w.heap.size, 0, cap, 1⟩) H.nx = some (some ⟨w.heap.size, 0, cap, 1⟩) := by simp [locNew]
  refine made_of hs (cap := cap) (sz := 1) (fr := (cap, cap + 1)) h hrun hc (by simp [World.freeze]) hheap (fun i hi => by rw [hsz] at hi; simp only; omega) (by omega) ⟨rfl, by rw [bytesI_length]; exact hcap', fun j hj => ?_⟩ (fun l e => by cases e) ?_ (.sl _ _ _ _ (by omega))
  · rw [bytesI_length] at hj
    have hj' : j < s.data.size := hj
    rw [← hcs]
    simp only [Nat.zero_add]
    rw [Array.getElem?_append_left (by simpa using hj')]
    simp [bytesI]
    exact ⟨s.data[j], Array.getElem?_eq_getElem hj', by rw [Array.getElem?_eq_getElem hj']; rfl⟩
  · exact .sl _ _ _ _ _ _ _ hL hcap' (by simp) (fun _ => by simp) (.inr (by simp))
end
end Go.PV

/- Contracts and laws that the row leans on, part 1: texts that were built one by one, laid together. -/
import Derived.Below
import Derived.Orders
import Derived.Laws.OwnMore
import Derived.Laws.CopyRow
import Derived.Laws.BytesArg
import Derived.Laws.Concat
import Derived.Laws.Slices
import Derived.Laws.Cells
import Derived.Laws.Entries
import Derived.Lib.TrailingZeros
import Derived.Laws.StructEq
import Derived.Laws.Small
import Derived.Laws.Closers25b
import Derived.ChangeKeysEq
import Derived.Laws.BytesString
namespace Go.PV
open Go Go.RowKit
inductive PV where
  | undef
  | int (k : IntKind) (n : Int)
  | bool (b : Bool)
  | str (l : List Int)
  | nil
  | ints (k : IntKind) (l : List Int)
  | list (sz : Nat) (l : List PV)
  | agg (l : List PV)
  | tup (l : List PV)
  | sl (r off len : Nat) (full : Bool)
  | ptr (r i j : Nat)
  | rptr (p : PV) (j : Nat)
  | nilptr
  | con (v : Value)
instance : Inhabited PV := ⟨.undef⟩
def cellsOf : PV → List PV
  | .agg l => l
  | p => [p]
def bytesI (s : ByteArray) : List Int := s.data.toList.map fun b => (b.toNat : Int)
theorem bytesI_length (s : ByteArray) : (bytesI s).length = s.size := by unfold bytesI; rw [List.length_map, Array.length_toList]; rfl
inductive RD (w : World) (ow : Nat → Prop) : PV → Value → Prop
  | undef (v : Value) : RD w ow .undef v
  | int (k : IntKind) (n : Int) : RD w ow (.int k n) (.int k n)
  | bool (b : Bool) : RD w ow (.bool b) (.bool b)
  | str (s : ByteArray) (l : List Int) (h : bytesI s = l) : RD w ow (.str l) (.string s)
  | nil : RD w ow .nil (.slice none 0 0)
  | nilptr : RD w ow .nilptr (.pointer none)
  | con (v : Value) (h : v.oneCell' = true) : RD w ow (.con v) v
  | intsNil (k : IntKind) : RD w ow (.ints k []) (.slice none 0 0)
  | listNil (sz : Nat) : RD w ow (.list sz []) (.slice none 0 0)
  | intsE (k : IntKind) (a : Addr) (cap : Nat) : RD w ow (.ints k []) (.slice (some a) 0 cap)
  | listE (sz : Nat) (a : Addr) (cap : Nat) : RD w ow (.list sz []) (.slice (some a) 0 cap)
  | ints (k : IntKind) (l : List Int) (n b o cap : Nat) (hn : n = l.length) (hc : n ≤ cap) (ho : ¬ ow b)
      (hm : ∀ i, i < l.length → w.cell? ⟨b, o + i, none⟩ = some (.int k (l.getD i 0))) :
      RD w ow (.ints k l) (.slice (some ⟨b, o, none⟩) n cap)
  | list (sz : Nat) (l : List PV) (n b o cap : Nat) (us : Nat → Nat → Value) (hn : n = l.length) (hc : n ≤ cap) (ho : ¬ ow b) (hsz : 0 < sz)
      (hz : ∀ i, i < l.length → (cellsOf (l.getD i .undef)).length = sz)
      (hm : ∀ i j, i < l.length → j < sz → w.cell? ⟨b, o + (i * sz + j), none⟩ = some (us i j))
      (h1 : ∀ i j, i < l.length → j < sz → (us i j).oneCell' = true)
      (hd : ∀ i j, i < l.length → j < sz → RD w ow ((cellsOf (l.getD i .undef)).getD j .undef) (us i j)) :
      RD w ow (.list sz l) (.slice (some ⟨b, o, none⟩) n cap)
  | agg (l : List PV) (vs : Array Value) (hl : l.length = vs.size) (h1 : ∀ u ∈ vs.toList, u.oneCell' = true)
      (hd : ∀ i, i < l.length → RD w ow (l.getD i .undef) (vs.getD i undef)) : RD w ow (.agg l) (.agg vs)
  | tup (l : List PV) (vs : Array Value) (hl : l.length = vs.size)
      (hd : ∀ i, i < l.length → RD w ow (l.getD i .undef) (vs.getD i undef)) : RD w ow (.tup l) (.tuple vs)
def Stable (ow : Nat → Prop) (w w' : World) : Prop :=
  ∀ (b o : Nat) (u : Value), ¬ ow b → w.cell? ⟨b, o, none⟩ = some u → w'.cell? ⟨b, o, none⟩ = some u
theorem Stable.refl (ow : Nat → Prop) (w : World) : Stable ow w w := fun _ _ _ _ h => h
theorem Stable.of_blocks {ow : Nat → Prop} {w w' : World} (h : ∀ b, b < w.heap.size → ¬ ow b → w'.heap[b]? = w.heap[b]?) : Stable ow w w' := fun b o u ho hc => by
  have hlt := World.block_lt_of_cell? w _ hc
  rw [World.cell?_of_block (w := w) (w' := w') (h b hlt ho)]; exact hc
theorem RD.mono {w w' : World} {ow ow' : Nat → Prop} (hs : Stable ow w w') (hb : ∀ b, b < w.heap.size → ow' b → ow b) {p : PV} {v : Value} (h : RD w ow p v) :
    RD w' ow' p v := by
  induction h with
  | undef v => exact .undef v
  | int k n => exact .int k n
  | bool b => exact .bool b
  | str s l h => exact .str s l h
  | nil => exact .nil
  | nilptr => exact .nilptr
  | con v h => exact .con v h
  | intsNil k => exact .intsNil k
  | listNil sz => exact .listNil sz
  | intsE k a cap => exact .intsE k a cap
  | listE sz a cap => exact .listE sz a cap
  | ints k l n b o cap hn hc ho hm =>
    cases l with
    | nil => subst hn; exact .intsE k _ cap
    | cons x l =>
      have hlt := World.block_lt_of_cell? w _ (hm 0 (by simp))
      exact .ints k _ n b o cap hn hc (fun h => ho (hb b hlt h)) fun i hi => hs b _ _ ho (hm i hi)
  | list sz l n b o cap us hn hc ho hsz hz hm h1 hd ih =>
    cases l with
    | nil => subst hn; exact .listE sz _ cap
    | cons x l =>
      have hlt := World.block_lt_of_cell? w _ (hm 0 0 (by simp) hsz)
      exact .list sz _ n b o cap us hn hc (fun h => ho (hb b hlt h)) hsz hz (fun i j hi hj => hs b _ _ ho (hm i j hi hj)) h1 ih
  | agg l vs hl h1 hd ih => exact .agg l vs hl h1 ih
  | tup l vs hl hd ih => exact .tup l vs hl ih
inductive Flat : PV → Prop
  | undef : Flat .undef
  | int (k n) : Flat (.int k n)
  | bool (b) : Flat (.bool b)
  | str (l) : Flat (.str l)
  | nil : Flat .nil
  | nilptr : Flat .nilptr
  | con (v) : Flat (.con v)
  | agg (l) (h : ∀ i, i < l.length → Flat (l.getD i .undef)) : Flat (.agg l)
  | tup (l) (h : ∀ i, i < l.length → Flat (l.getD i .undef)) : Flat (.tup l)
theorem RD.flat {w w' : World} {ow ow' : Nat → Prop} {p : PV} {v : Value} (h : RD w ow p v) (hf : Flat p) : RD w' ow' p v := by
  induction h with
  | undef v => exact .undef v
  | int k n => exact .int k n
  | bool b => exact .bool b
  | str s l h => exact .str s l h
  | nil => exact .nil
  | nilptr => exact .nilptr
  | con v h => exact .con v h
  | intsNil k => cases hf
  | listNil sz => cases hf
  | intsE k a cap => cases hf
  | listE sz a cap => cases hf
  | ints => cases hf
  | list => cases hf
  | agg l vs hl h1 hd ih => cases hf with | agg _ h => exact .agg l vs hl h1 fun i hi => ih i hi (h i hi)
  | tup l vs hl hd ih => cases hf with | tup _ h => exact .tup l vs hl fun i hi => ih i hi (h i hi)
def flatB0 : PV → Bool
  | .undef | .int .. | .bool _ | .str _ | .nil | .nilptr => true
  | _ => false
def flatB1 : PV → Bool
  | .agg l => l.all flatB0
  | p => flatB0 p
def flatB : PV → Bool
  | .tup l => l.all flatB1
  | p => flatB1 p
theorem flat_of0 {p : PV} (h : flatB0 p = true) : Flat p := by
  cases p <;> first | (simp [flatB0] at h; done) | constructor
theorem flat_of1 {p : PV} (h : flatB1 p = true) : Flat p := by
  cases p with
  | agg l =>
    simp only [flatB1, List.all_eq_true] at h
    refine .agg l fun i hi => flat_of0 (h _ ?_)
    rw [List.getD_eq_getElem?_getD, List.getElem?_eq_getElem hi]; exact List.getElem_mem hi
  | _ => exact flat_of0 h
theorem flat_of {p : PV} (h : flatB p = true) : Flat p := by
  cases p with
  | tup l =>
    simp only [flatB, List.all_eq_true] at h
    refine .tup l fun i hi => flat_of1 (h _ ?_)
    rw [List.getD_eq_getElem?_getD, List.getElem?_eq_getElem hi]; exact List.getElem_mem hi
  | _ => exact flat_of1 h
structure RowLoc where
  b : Nat
  o : Nat
  cap : Nat
  sz : Nat
abbrev Locs := Nat → Option (Option RowLoc)
inductive RV (w : World) (ow : Nat → Prop) (loc : Locs) : PV → Value → Prop
  | data (p : PV) (v : Value) (h : RD w ow p v) : RV w ow loc p v
  | dang (r off len : Nat) (full : Bool) (a : Option Addr) (n c : Nat) (h : loc r = none) : RV w ow loc (.sl r off len full) (.slice a n c)
  | dangp (r i j : Nat) (a : Addr) (h : loc r = none) : RV w ow loc (.ptr r i j) (.pointer (some a))
  | slnil (r : Nat) (full : Bool) (h : loc r = some none) : RV w ow loc (.sl r 0 0 full) (.slice none 0 0)
  | sl (r off len : Nat) (full : Bool) (L : RowLoc) (a : Addr) (c : Nat) (h : loc r = some (some L)) (hlc : len ≤ c) (hc : off + c ≤ L.cap)
      (hf : full = true → off + c = L.cap) (ha : c = 0 ∨ a = ⟨L.b, L.o + off * L.sz, none⟩) : RV w ow loc (.sl r off len full) (.slice (some a) len c)
  | ptr (r i j : Nat) (L : RowLoc) (h : loc r = some (some L)) : RV w ow loc (.ptr r i j) (.pointer (some ⟨L.b, L.o + i * L.sz + j, none⟩))
  | rptr (p : PV) (j b o : Nat) (us : Nat → Value) (ho : ¬ ow b) (hm : ∀ i, i < (cellsOf p).length → w.cell? ⟨b, o + i, none⟩ = some (us i))
      (h1 : ∀ i, i < (cellsOf p).length → (us i).oneCell' = true)
      (hd : ∀ i, i < (cellsOf p).length → RD w ow ((cellsOf p).getD i .undef) (us i)) (h0 : 0 < (cellsOf p).length) : RV w ow loc (.rptr p j) (.pointer (some ⟨b, o + j, none⟩))
  | agg (l : List PV) (vs : Array Value) (hl : l.length = vs.size) (h1 : ∀ u ∈ vs.toList, u.oneCell' = true)
      (hd : ∀ i, i < l.length → RV w ow loc (l.getD i .undef) (vs.getD i undef)) : RV w ow loc (.agg l) (.agg vs)
  | tup (l : List PV) (vs : Array Value) (hl : l.length = vs.size)
      (hd : ∀ i, i < l.length → RV w ow loc (l.getD i .undef) (vs.getD i undef)) : RV w ow loc (.tup l) (.tuple vs)
def LocLe (loc loc' : Locs) : Prop := ∀ r, loc' r = loc r ∨ loc' r = none
theorem LocLe.refl (loc : Locs) : LocLe loc loc := fun _ => .inl rfl
theorem RV.mono {w w' : World} {ow ow' : Nat → Prop} {loc loc' : Locs} (hs : Stable ow w w') (hb : ∀ b, b < w.heap.size → ow' b → ow b) (hl : LocLe loc loc') {p : PV} {v : Value}
    (h : RV w ow loc p v) : RV w' ow' loc' p v := by
  induction h with
  | data p v h => exact .data p v (h.mono hs hb)
  | dang r off len full a n c h => exact .dang r off len full a n c ((hl r).elim (fun e => e.trans h) id)
  | dangp r i j a h => exact .dangp r i j a ((hl r).elim (fun e => e.trans h) id)
  | slnil r full h => exact (hl r).elim (fun e => .slnil r full (e.trans h)) fun e => .dang r 0 0 full _ _ _ e
  | sl r off len full L a c h hlc hc hf ha => exact (hl r).elim (fun e => .sl r off len full L a c (e.trans h) hlc hc hf ha) fun e => .dang r off len full _ _ _ e
  | ptr r i j L h => exact (hl r).elim (fun e => .ptr r i j L (e.trans h)) fun e => .dangp r i j _ e
  | rptr p j b o us ho hm h1 hd h0 =>
    have hlt := World.block_lt_of_cell? w _ (hm 0 h0)
    exact .rptr p j b o us (fun h => ho (hb b hlt h)) (fun i hi => hs b _ _ ho (hm i hi)) h1 (fun i hi => (hd i hi).mono hs hb) h0
  | agg l vs hl' h1 hd ih => exact .agg l vs hl' h1 ih
  | tup l vs hl' hd ih => exact .tup l vs hl' ih
inductive Refs (n : Nat) : PV → Prop
  | undef : Refs n .undef
  | int (k i) : Refs n (.int k i)
  | bool (b) : Refs n (.bool b)
  | str (l) : Refs n (.str l)
  | nil : Refs n .nil
  | nilptr : Refs n .nilptr
  | con (v) : Refs n (.con v)
  | ints (k l) : Refs n (.ints k l)
  | list (sz l) : Refs n (.list sz l)
  | rptr (p j) : Refs n (.rptr p j)
  | sl (r off len full) (h : r < n) : Refs n (.sl r off len full)
  | ptr (r i j) (h : r < n) : Refs n (.ptr r i j)
  | agg (l) (h : ∀ i, i < l.length → Refs n (l.getD i .undef)) : Refs n (.agg l)
  | tup (l) (h : ∀ i, i < l.length → Refs n (l.getD i .undef)) : Refs n (.tup l)
theorem RV.newLoc {w w' : World} {ow ow' : Nat → Prop} {loc loc' : Locs} {n : Nat} (hs : Stable ow w w') (hb : ∀ b, b < w.heap.size → ow' b → ow b) (hl : ∀ r, r < n → loc' r = loc r ∨ loc' r = none) {p : PV} {v : Value}
    (h : RV w ow loc p v) (hr : Refs n p) : RV w' ow' loc' p v := by
  induction h with
  | data p v h => exact .data p v (h.mono hs hb)
  | dang r off len full a n c h => cases hr with | sl _ _ _ _ hr => exact .dang r off len full a n c ((hl r hr).elim (fun e => e.trans h) id)
  | dangp r i j a h => cases hr with | ptr _ _ _ hr => exact .dangp r i j a ((hl r hr).elim (fun e => e.trans h) id)
  | slnil r full h => cases hr with | sl _ _ _ _ hr => exact (hl r hr).elim (fun e => .slnil r full (e.trans h)) fun e => .dang r 0 0 full _ _ _ e
  | sl r off len full L a c h hlc hc hf ha => cases hr with | sl _ _ _ _ hr => exact (hl r hr).elim (fun e => .sl r off len full L a c (e.trans h) hlc hc hf ha) fun e => .dang r off len full _ _ _ e
  | ptr r i j L h => cases hr with | ptr _ _ _ hr => exact (hl r hr).elim (fun e => .ptr r i j L (e.trans h)) fun e => .dangp r i j _ e
  | rptr p j b o us ho hm h1 hd h0 =>
    have hlt := World.block_lt_of_cell? w _ (hm 0 h0)
    exact .rptr p j b o us (fun h => ho (hb b hlt h)) (fun i hi => hs b _ _ ho (hm i hi)) h1 (fun i hi => (hd i hi).mono hs hb) h0
  | agg l vs hl' h1 hd ih => cases hr with | agg _ hr => exact .agg l vs hl' h1 fun i hi => ih i hi (hr i hi)
  | tup l vs hl' hd ih => cases hr with | tup _ hr => exact .tup l vs hl' fun i hi => ih i hi (hr i hi)
theorem Refs.mono {n m : Nat} (hnm : n ≤ m) {p : PV} (h : Refs n p) : Refs m p := by
  induction h with
  | sl r off len full h => exact .sl r off len full (by omega)
  | ptr r i j h => exact .ptr r i j (by omega)
  | agg l h ih => exact .agg l ih
  | tup l h ih => exact .tup l ih
  | _ => constructor
inductive Row where
  | ints (k : IntKind) (l : List Int)
  | list (sz : Nat) (l : List PV)
  | var (l : List PV)
def unfrozen (fr : Nat × Nat) (n : Nat) : Prop := ∀ i, i < n → ¬ (fr.1 ≤ i ∧ i < fr.2)
def RowIn (w : World) (ow : Nat → Prop) (loc : Locs) (L : RowLoc) (cur : Array Value) : Row → Prop
  | .ints k l => L.sz = 1 ∧ l.length ≤ L.cap ∧ ∀ i, i < l.length → cur[L.o + i]? = some (.int k (l.getD i 0))
  | .list sz l => L.sz = sz ∧ 0 < sz ∧ l.length ≤ L.cap ∧ ∀ i, i < l.length → (cellsOf (l.getD i .undef)).length = sz ∧
      ∀ j, j < sz → ∃ u, cur[L.o + (i * sz + j)]? = some u ∧ u.oneCell' = true ∧ RD w ow ((cellsOf (l.getD i .undef)).getD j .undef) u
  | .var l => L.sz = l.length ∧ L.cap = 1 ∧ ∀ j, j < l.length → ∃ u, cur[L.o + j]? = some u ∧ u.oneCell' = true ∧ RV w ow loc (l.getD j .undef) u
def RowAt (w : World) (ow : Nat → Prop) (loc : Locs) : Option RowLoc → Row → Prop
  | none, .ints _ l => l = []
  | none, .list _ l => l = []
  | none, .var _ => False
  | some L, row => ∃ cur e fr, w.heap[L.b]? = some (.cells cur e fr) ∧ cur.size = L.o + L.cap * L.sz ∧ unfrozen fr cur.size ∧ RowIn w ow loc L cur row
def getRow : List (Nat × Row) → Nat → Option Row
  | [], _ => none
  | (k, row) :: rest, r => bif k == r then some row else getRow rest r
abbrev Frame := List (Nat × PV)
def Frame.get : Frame → Nat → PV
  | [], _ => .undef
  | (k, p) :: rest, t => bif k == t then p else Frame.get rest t
def Frame.put (F : Frame) (d : Option Nat) (p : PV) : Frame :=
  match d with
  | some d => (d, p) :: F
  | none => F
structure Heap where
  nx : Nat
  rows : List (Nat × Row)
  g : List Frame
  ty : List (Nat × TypeId)
def Heap.get (H : Heap) (r : Nat) : Option Row := getRow H.rows r
def getT : List (Nat × TypeId) → Nat → Option TypeId
  | [], _ => none
  | (k, t) :: rest, r => bif k == r then some t else getT rest r
def dropT (r : Nat) : List (Nat × TypeId) → List (Nat × TypeId)
  | [] => []
  | (k, t) :: rest => bif k == r then dropT r rest else (k, t) :: dropT r rest
theorem getT_drop {r r' : Nat} {t : TypeId} : ∀ {l : List (Nat × TypeId)}, getT (dropT r l) r' = some t → r' ≠ r ∧ getT l r' = some t
  | [], h => by cases h
  | (k, u) :: rest, h => by
    simp only [dropT] at h
    cases hk : k == r with
    | true =>
      rw [hk] at h
      obtain ⟨h1, h2⟩ := getT_drop (l := rest) h
      have : k = r := by simpa using hk
      subst this
      refine ⟨h1, ?_⟩
      simp only [getT]
      rw [beq_eq_false_iff_ne.2 (Ne.symm h1)]
      exact h2
    | false =>
      rw [hk] at h
      have hne : k ≠ r := by simpa using hk
      simp only [cond_false, getT] at h ⊢
      cases hk2 : k == r' with
      | true =>
        rw [hk2] at h
        have : k = r' := by simpa using hk2
        subst this
        exact ⟨hne, h⟩
      | false =>
        rw [hk2] at h
        exact getT_drop (l := rest) h
def GS (w : World) (ow : Nat → Prop) (loc : Locs) (n : Nat) (g : List Frame) (gv : Nat → Nat → Value) : Prop :=
  ∀ i t, RV w ow loc ((g.getD i []).get t) (gv i t) ∧ Refs n ((g.getD i []).get t)
theorem GS.mono {w w' : World} {ow ow' : Nat → Prop} {loc loc' : Locs} {n : Nat} {g : List Frame} {gv : Nat → Nat → Value} (h : GS w ow loc n g gv) (hs : Stable ow w w') (hb : ∀ b, b < w.heap.size → ow' b → ow b) (hl : LocLe loc loc') : GS w' ow' loc' n g gv :=
  fun i t => ⟨(h i t).1.mono hs hb hl, (h i t).2⟩
theorem GS.newLoc {w w' : World} {ow ow' : Nat → Prop} {loc loc' : Locs} {n m : Nat} {g : List Frame} {gv : Nat → Nat → Value} (h : GS w ow loc n g gv) (hs : Stable ow w w') (hb : ∀ b, b < w.heap.size → ow' b → ow b) (hl : ∀ r, r < n → loc' r = loc r ∨ loc' r = none) (hm : n ≤ m) : GS w' ow' loc' m g gv :=
  fun i t => ⟨(h i t).1.newLoc hs hb hl (h i t).2, (h i t).2.mono hm⟩
def tabOf (n : String) : Option (IntKind × List Int) := if n = "math/bits.deBruijn64tab" then some (.u8, Lib.deBruijn64tab.map fun k : Nat => (k : Int)) else if n = "internal/strconv.uint64pow10" then some (.u64, (List.range 20).map fun i => ((10 ^ i : Nat) : Int)) else none
def Tabs (P : Program) (w : World) : Prop := ∀ (g : Nat) (gl : Global) (tab : IntKind × List Int), P.globals[g]? = some gl → tabOf gl.name = some tab → ∃ e fr, w.heap[g]? = some (.cells (tab.2.map fun z => Value.int tab.1 z).toArray e fr)
theorem Tabs.lt {P : Program} {w : World} (h : Tabs P w) {g : Nat} {gl : Global} {tab : IntKind × List Int} (hg : P.globals[g]? = some gl) (ht : tabOf gl.name = some tab) : g < w.heap.size := by
  obtain ⟨e, fr, h1⟩ := h g gl tab hg ht
  exact (Array.getElem?_eq_some_iff.1 h1).1
theorem Tabs.cell {P : Program} {w : World} (h : Tabs P w) {g : Nat} {gl : Global} {tab : IntKind × List Int} (hg : P.globals[g]? = some gl) (ht : tabOf gl.name = some tab) (j : Nat) (hj : j < tab.2.length) : w.cell? ⟨g, j, none⟩ = some (.int tab.1 (tab.2.getD j 0)) := by
  obtain ⟨e, fr, h1⟩ := h g gl tab hg ht
  have e1 : (tab.2.map fun z => Value.int tab.1 z).toArray[j]? = some (.int tab.1 (tab.2.getD j 0)) := by
    rw [List.getElem?_toArray, List.getElem?_map, List.getD_eq_getElem?_getD, List.getElem?_eq_getElem hj]
    rfl
  have hc2 : w.cell? ⟨g, j, none⟩ = (tab.2.map fun z => Value.int tab.1 z).toArray[j]? := by simp [World.cell?, h1]
  rw [hc2, e1]
structure Entry (P : Program) where
  w0 : World
  S0 : Nat → Prop
  A : Nat → Prop
  gv : Nat → Nat → Value
  lg : Tabs P w0
  ls : ∀ (g : Nat) (gl : Global) (tab : IntKind × List Int), P.globals[g]? = some gl → tabOf gl.name = some tab → ¬ S0 g
structure HS {P : Program} (E : Entry P) (H : Heap) (ow : Nat → Prop) (loc : Locs) (w : World) : Prop where
  rows : ∀ r row, H.get r = some row → ∃ L, loc r = some L ∧ RowAt w ow loc L row
  live : ∀ r L, loc r = some (some L) → ow L.b ∧ L.b < w.heap.size ∧ (E.w0.heap.size ≤ L.b ∨ E.S0 L.b)
  inj : ∀ r r' L L', loc r = some (some L) → loc r' = some (some L') → L.b = L'.b → r = r'
  old : ∀ b, b < E.w0.heap.size → ¬ E.S0 b → w.heap[b]? = E.w0.heap[b]?
  size : E.w0.heap.size ≤ w.heap.size
  os : w.os = E.w0.os
  tape : w.tape = E.w0.tape
  output : w.output = E.w0.output
  nx : ∀ r, H.nx ≤ r → loc r = none
  owlt : ∀ b, ow b → b < w.heap.size
  forb : ∀ b, E.A b → ow b
  alt : ∀ b, E.A b → b < E.w0.heap.size
  apart : ∀ r L, loc r = some (some L) → ¬ E.A L.b
  refs : ∀ r l, H.get r = some (.var l) → ∀ j, j < l.length → Refs H.nx (l.getD j .undef)
  gh : GS w ow loc H.nx H.g E.gv
  ty : ∀ r t, getT H.ty r = some t → r < H.nx ∧ ∀ L, loc r = some (some L) → ∃ cur fr, w.heap[L.b]? = some (.cells cur t fr) ∧ L.o = 0
structure FS (w : World) (ow : Nat → Prop) (loc : Locs) (n : Nat) (get : Nat → PV) (a : Act) : Prop where
  vals : ∀ t, RV w ow loc (get t) (a.tmps.getD t undef)
  refs : ∀ t, Refs n (get t)
  defers : a.defers = []
theorem HS.laid {P : Program} {E : Entry P} {H : Heap} {ow : Nat → Prop} {loc : Locs} {w : World} (h : HS E H ow loc w) : Tabs P w := fun g gl tab hg ht => by
  obtain ⟨e, fr, hc⟩ := E.lg g gl tab hg ht
  exact ⟨e, fr, (h.old g (E.lg.lt hg ht) (E.ls g gl tab hg ht)).trans hc⟩
def St {P : Program} (E : Entry P) (nt : Nat) (F : Frame) (H : Heap) (a : Act) (w : World) : Prop :=
  ∃ ow loc, HS E H ow loc w ∧ FS w ow loc H.nx F.get a ∧ a.tmps.size = nt
inductive TD where
  | int (k : IntKind)
  | bool
  | str
  | slice (e : TypeId)
  | struct (fs : List (Nat × Nat × Bool))
  | arr (n : Nat) (e : TypeId) (fs : List (Nat × Nat × Bool))
  | ptr (e : TypeId)
  | iface
  | other
inductive EK where
  | b
  | i
  | s
structure TI where
  desc : TD
  size : Nat
  bytes : Nat
  z : Value
  eqs : List EK
def ekOf (P : Program) (t : TypeId) : Option EK :=
  match P.underlying t with
  | some .bool => some .b
  | some (.int _) => some .i
  | some .string => some .s
  | _ => none
def eqsOf (P : Program) (t : TypeId) : List EK :=
  match P.underlying t with
  | some (.struct _) => match !P.stoodInHeld t && (!P.eqGuardType P.depth t && (P.fieldsOf t).toList.zipIdx.all fun x => (x.1.name != "_") && (x.1.offset == x.2 && (ekOf P x.1.type).isSome)) with
    | true => (P.fieldsOf t).toList.filterMap fun f => ekOf P f.type
    | false => []
  | some (.array n e) => match !P.eqGuardType P.depth t && P.cellsOf e == 1 with
    | true => match ekOf P e with
      | some k => List.replicate n k
      | none => []
    | false => []
  | _ => []
def isAggT (P : Program) (t : TypeId) : Bool :=
  match P.underlying t with
  | some (.struct _) | some (.array _ _) => true
  | _ => false
def sizeT (P : Program) (t : TypeId) : Nat := bif (P.underlying t).isSome then P.cellsOf t else 0
def tdOf (P : Program) : TypeDesc → TD
  | .int k => .int k
  | .bool => .bool
  | .string => .str
  | .slice e => .slice e
  | .pointer e => .ptr e
  | .struct fs => .struct (fs.toList.map fun f => (f.offset, sizeT P f.type, isAggT P f.type))
  | .array n e => .arr n e ((List.range n).map fun i => (i * sizeT P e, sizeT P e, isAggT P e))
  | .interface _ => .iface
  | _ => .other
structure TIOk (P : Program) (t : TypeId) (ti : TI) : Prop where
  d : (P.underlying t).map (tdOf P) = some ti.desc
  i : (P.info? t).map (fun i => (i.zero, i.size, i.bytes)) = some (some ti.z, ti.size, ti.bytes)
  s : ti.z.cells.size = ti.size
  e : eqsOf P t = ti.eqs
abbrev Tab := TypeId → Option TI
def TabOk (P : Program) (tt : Tab) : Prop := ∀ t ti, tt t = some ti → TIOk P t ti
section
variable {P : Program} {t : TypeId} {ti : TI}
theorem TIOk.ex (h : TIOk P t ti) : ∃ d, P.underlying t = some d ∧ tdOf P d = ti.desc := by
  have := h.d
  cases hu : P.underlying t with
  | none => rw [hu] at this; simp at this
  | some d => rw [hu] at this; exact ⟨d, rfl, by simpa using this⟩
theorem TIOk.under_slice (h : TIOk P t ti) {e : TypeId} (hd : ti.desc = .slice e) : P.underlying t = some (.slice e) := by
  obtain ⟨d, hu, hd'⟩ := h.ex
  rw [hd] at hd'
  cases d <;> simp [tdOf] at hd'
  subst hd'; exact hu
theorem TIOk.under_int (h : TIOk P t ti) {k : IntKind} (hd : ti.desc = .int k) : P.underlying t = some (.int k) := by
  obtain ⟨d, hu, hd'⟩ := h.ex
  rw [hd] at hd'
  cases d <;> simp [tdOf] at hd'
  subst hd'; exact hu
theorem TIOk.under_str (h : TIOk P t ti) (hd : ti.desc = .str) : P.underlying t = some .string := by
  obtain ⟨d, hu, hd'⟩ := h.ex
  rw [hd] at hd'
  cases d <;> simp [tdOf] at hd'
  exact hu
theorem TIOk.under_bool (h : TIOk P t ti) (hd : ti.desc = .bool) : P.underlying t = some .bool := by
  obtain ⟨d, hu, hd'⟩ := h.ex
  rw [hd] at hd'
  cases d <;> simp [tdOf] at hd'
  exact hu
theorem TIOk.under_struct (h : TIOk P t ti) {fs : List (Nat × Nat × Bool)} (hd : ti.desc = .struct fs) :
    ∃ fields, P.underlying t = some (.struct fields) ∧ fields.toList.map (fun f => (f.offset, sizeT P f.type, isAggT P f.type)) = fs := by
  obtain ⟨d, hu, hd'⟩ := h.ex
  rw [hd] at hd'
  cases d <;> simp [tdOf] at hd'
  exact ⟨_, hu, by simpa using hd'⟩
theorem TIOk.under_arr (h : TIOk P t ti) {n : Nat} {e : TypeId} {fs : List (Nat × Nat × Bool)} (hd : ti.desc = .arr n e fs) :
    P.underlying t = some (.array n e) ∧ (List.range n).map (fun i => (i * sizeT P e, sizeT P e, isAggT P e)) = fs := by
  obtain ⟨d, hu, hd'⟩ := h.ex
  rw [hd] at hd'
  cases d <;> simp [tdOf] at hd'
  obtain ⟨rfl, rfl, h⟩ := hd'
  exact ⟨hu, h⟩
theorem TIOk.info (h : TIOk P t ti) : ∃ i, P.info? t = some i ∧ i.zero = some ti.z ∧ i.size = ti.size ∧ i.bytes = ti.bytes := by
  have := h.i
  cases hi : P.info? t with
  | none => rw [hi] at this; simp at this
  | some i => rw [hi] at this; simp at this; exact ⟨i, rfl, this⟩
end
def isStruct : TD → Bool
  | .struct _ => true
  | .arr .. => true
  | _ => false
def isOther : TD → Bool
  | .other => true
  | _ => false
theorem TIOk.run_agg {P : Program} {t : TypeId} {ti : TI} (h : TIOk P t ti) (ho : isOther ti.desc = false) (w : World) : (Go.isAgg t).run P w = .ok (isStruct ti.desc) w := by
  obtain ⟨d, hu, hd⟩ := h.ex
  rw [← hd] at ho ⊢
  cases d <;> simp [Go.isAgg, run_underlying hu, tdOf, isStruct] <;> simp [tdOf, isOther] at ho
-- values of the text
def toPV0 : Value → PV
  | .int k n => .int k n
  | .bool b => .bool b
  | .string s => .str (bytesI s)
  | .slice none 0 0 => .nil
  | .pointer none => .nilptr
  | .nilIface => .con .nilIface
  | _ => .undef
def toPV : Value → PV
  | .agg cs => bif cs.toList.all (·.oneCell') then .agg (cs.toList.map toPV0) else .undef
  | v => toPV0 v
theorem toPV0_ok (w : World) (ow : Nat → Prop) (v : Value) : RD w ow (toPV0 v) v := by
  unfold toPV0
  split <;> first | exact .int _ _ | exact .bool _ | exact .str _ _ rfl | exact .nil | exact .nilptr | exact .con _ rfl | exact .undef _
theorem toPV0_refs (n : Nat) (v : Value) : Refs n (toPV0 v) := by
  unfold toPV0
  split <;> constructor
theorem toPV_ok (w : World) (ow : Nat → Prop) (v : Value) : RD w ow (toPV v) v := by
  unfold toPV
  split
  · rename_i cs
    cases hc : cs.toList.all (·.oneCell') with
    | true =>
      simp only [cond_true]
      refine .agg _ _ (by simp) (fun u hu => List.all_eq_true.1 hc u hu) fun i hi => ?_
      have hi' : i < cs.size := by simpa using hi
      have e1 : (cs.toList.map toPV0).getD i .undef = toPV0 cs[i] := by simp [List.getD, hi']
      have e2 : cs.getD i undef = cs[i] := by simp [Array.getD, hi']
      rw [e1, e2]; exact toPV0_ok w ow _
    | false => exact .undef _
  · exact toPV0_ok w ow _
theorem toPV_refs (n : Nat) (v : Value) : Refs n (toPV v) := by
  unfold toPV
  split
  · rename_i cs
    cases hc : cs.toList.all (·.oneCell') with
    | true =>
      simp only [cond_true]
      refine .agg _ fun i hi => ?_
      have hi' : i < cs.size := by simpa using hi
      have e1 : (cs.toList.map toPV0).getD i .undef = toPV0 cs[i] := by simp [List.getD, hi']
      rw [e1]; exact toPV0_refs n _
    | false => exact .undef
  · exact toPV0_refs n _
def ev (get : Nat → PV) : Operand → PV
  | .tmp t => get t
  | .const v => toPV v
  | _ => .undef
-- the operations, each: what must hold, and what is handed on
def optI (v : Option PV) (d : Int) (K : Int → Prop) : Prop :=
  match v with
  | none => K d
  | some (.int _ n) => K n
  | _ => False
def cutL {α : Type} (l : List α) (lo hi : Option PV) : List α :=
  match lo, hi with
  | none, none => l
  | some (.int _ a), none => l.drop a.toNat
  | none, some (.int _ b) => l.take b.toNat
  | some (.int _ a), some (.int _ b) => (l.take b.toNat).drop a.toNat
  | _, _ => l
def rowLen : Option Row → Nat
  | some (.ints _ l) => l.length
  | some (.list _ l) => l.length
  | some (.var _) => 1
  | none => 0
def rowSz : Option Row → Nat
  | some (.ints _ _) => 1
  | some (.list sz _) => sz
  | some (.var l) => l.length
  | none => 0
def cutW (n : Nat) (lo hi mx : Option PV) (K : Prop) : Prop :=
  optI lo 0 fun a => optI hi n fun b =>
    match mx with
    | none => (0 ≤ a ∧ a ≤ b ∧ b ≤ n) ∧ K
    | some (.int _ m) => hi.isSome = true ∧ (0 ≤ a ∧ a ≤ b ∧ b ≤ m ∧ m ≤ n) ∧ K
    | _ => False
def sliceW (rows : Nat → Option Row) (d : TD) (esz : Nat) (p : PV) (lo hi mx : Option PV) (K : PV → Prop) : Prop :=
  match d, p with
  | .str, .str l => mx.isNone = true ∧ cutW l.length lo hi none (K (.str (cutL l lo hi)))
  | .slice _, .ints k l => esz = 1 ∧ cutW l.length lo hi mx (K (.ints k (cutL l lo hi)))
  | .slice _, .list sz l => 0 < sz ∧ esz = sz ∧ cutW l.length lo hi mx (K (.list sz (cutL l lo hi)))
  | .slice _, .nil => 0 < esz ∧ cutW 0 lo hi mx (K .nil)
  | .slice _, .sl r off len full =>
    0 < esz ∧ esz = rowSz (rows r) ∧ optI lo 0 fun a => optI hi len fun b =>
      match mx with
      | none => (0 ≤ a ∧ a ≤ b ∧ (b ≤ len ∨ full = true ∧ off + b ≤ rowLen (rows r))) ∧ K (.sl r (off + a.toNat) (b - a).toNat full)
      | some (.int _ m) => hi.isSome = true ∧ (0 ≤ a ∧ a ≤ b ∧ b ≤ m ∧ m ≤ len) ∧ K (.sl r (off + a.toNat) (b - a).toNat false)
      | _ => False
  | _, _ => False
def ibits (op : BinOp) (k : IntKind) (x y : Int) : Int :=
  let a := BitVec.ofInt k.bits x
  let b := BitVec.ofInt k.bits y
  match op with
  | .and => k.wrap (a &&& b).toNat
  | .or => k.wrap (a ||| b).toNat
  | .xor => k.wrap (a ^^^ b).toNat
  | _ => k.wrap (a &&& ~~~b).toNat
def strLess : List Int → List Int → Bool
  | _, [] => false
  | [], _ :: _ => true
  | a :: x, b :: y => decide (a < b) || (decide (a = b) && strLess x y)
def binW (op : BinOp) (p q : PV) (K : PV → Prop) : Prop :=
  match op with
  | .add => match p, q with
    | .int k a, .int k' b => k = k' ∧ K (.int k (k.wrap (a + b)))
    | .str a, .str b => a.length + b.length ≤ 9223372036854775807 ∧ K (.str (a ++ b))
    | _, _ => False
  | .sub => match p, q with
    | .int k a, .int k' b => k = k' ∧ K (.int k (k.wrap (a - b)))
    | _, _ => False
  | .mul => match p, q with
    | .int k a, .int k' b => k = k' ∧ K (.int k (k.wrap (a * b)))
    | _, _ => False
  | .quo => match p, q with
    | .int k a, .int k' b => k = k' ∧ b ≠ 0 ∧ K (.int k (k.wrap (a.tdiv b)))
    | _, _ => False
  | .rem => match p, q with
    | .int k a, .int k' b => k = k' ∧ b ≠ 0 ∧ K (.int k (a.tmod b))
    | _, _ => False
  | .and => match p, q with
    | .int k a, .int k' b => k = k' ∧ K (.int k (ibits .and k a b))
    | _, _ => False
  | .or => match p, q with
    | .int k a, .int k' b => k = k' ∧ K (.int k (ibits .or k a b))
    | _, _ => False
  | .xor => match p, q with
    | .int k a, .int k' b => k = k' ∧ K (.int k (ibits .xor k a b))
    | _, _ => False
  | .andNot => match p, q with
    | .int k a, .int k' b => k = k' ∧ K (.int k (ibits .andNot k a b))
    | _, _ => False
  | .shl => match p, q with
    | .int k a, .int _ b => 0 ≤ b ∧ K (.int k (k.wrap (a * 2 ^ min b.toNat k.bits)))
    | _, _ => False
  | .shr => match p, q with
    | .int k a, .int _ b => 0 ≤ b ∧ K (.int k (a.fdiv (2 ^ min b.toNat k.bits)))
    | _, _ => False
  | .eql => match p, q with
    | .int k a, .int k' b => k = k' ∧ K (.bool (decide (a = b)))
    | .str a, .str b => K (.bool (decide (a = b)))
    | _, _ => False
  | .neq => match p, q with
    | .int k a, .int k' b => k = k' ∧ K (.bool (!decide (a = b)))
    | .str a, .str b => K (.bool (!decide (a = b)))
    | _, _ => False
  | .lss => match p, q with
    | .int k a, .int k' b => k = k' ∧ K (.bool (decide (a < b)))
    | .str a, .str b => K (.bool (strLess a b))
    | _, _ => False
  | .leq => match p, q with
    | .int k a, .int k' b => k = k' ∧ K (.bool (decide (a ≤ b)))
    | .str a, .str b => K (.bool (strLess a b || decide (a = b)))
    | _, _ => False
  | .gtr => match p, q with
    | .int k a, .int k' b => k = k' ∧ K (.bool (decide (b < a)))
    | .str a, .str b => K (.bool (!(strLess a b || decide (a = b))))
    | _, _ => False
  | .geq => match p, q with
    | .int k a, .int k' b => k = k' ∧ K (.bool (decide (b ≤ a)))
    | .str a, .str b => K (.bool (!strLess a b))
    | _, _ => False
def asB : PV → Option Bool
  | .bool b => some b
  | _ => none
def boolT (tt : Tab) (t : TypeId) : Bool := match tt t with
  | some ti => match ti.desc with
    | .bool => true
    | _ => false
  | none => false
def asA : PV → Option (List PV)
  | .agg l => some l
  | _ => none
def eqsT (tt : Tab) (t : TypeId) : List EK := match tt t with
  | some ti => ti.eqs
  | none => []
def someE : List EK → Bool
  | [] => false
  | _ :: _ => true
def eqW : List EK → List PV → List PV → (Bool → Prop) → Prop
  | [], l, m, K => match l, m with
    | [], [] => K true
    | _, _ => False
  | e :: ks, l, m, K => match l, m with
    | x :: l, y :: m => match e, x, y with
      | .b, .bool a, .bool b => eqW ks l m fun r => K ((a == b) && r)
      | .i, .int k a, .int k' b => k = k' ∧ eqW ks l m fun r => K (decide (a = b) && r)
      | .s, .str a, .str b => eqW ks l m fun r => K (decide (a = b) && r)
      | _, _, _ => False
    | _, _ => False
theorem eqW_nil (l m : List PV) (K : Bool → Prop) : eqW [] l m K = match l, m with
    | [], [] => K true
    | _, _ => False := by cases l <;> cases m <;> rfl
theorem eqW_cons (e : EK) (ks : List EK) (l m : List PV) (K : Bool → Prop) : eqW (e :: ks) l m K = match l, m with
    | x :: l, y :: m => match e, x, y with
      | .b, .bool a, .bool b => eqW ks l m fun r => K ((a == b) && r)
      | .i, .int k a, .int k' b => k = k' ∧ eqW ks l m fun r => K (decide (a = b) && r)
      | .s, .str a, .str b => eqW ks l m fun r => K (decide (a = b) && r)
      | _, _, _ => False
    | _, _ => False := by
  cases l with
  | nil => cases m <;> rfl
  | cons x l =>
    cases m with
    | nil => rfl
    | cons y m => cases e <;> cases x <;> cases y <;> rfl
def binT (tt : Tab) (op : BinOp) (t : TypeId) (p q : PV) (K : PV → Prop) : Prop :=
  match asB p with
  | some a => match asB q with
    | some b => match op with
      | .eql => boolT tt t = true ∧ K (.bool (a == b))
      | .neq => boolT tt t = true ∧ K (.bool (!(a == b)))
      | _ => False
    | none => False
  | none => match asA p with
    | some l => match asA q with
      | some m => match op with
        | .eql => someE (eqsT tt t) = true ∧ eqW (eqsT tt t) l m fun r => K (.bool r)
        | .neq => someE (eqsT tt t) = true ∧ eqW (eqsT tt t) l m fun r => K (.bool (!r))
        | _ => False
      | none => False
    | none => binW op p q K
def unW (op : UnOp) (p : PV) (K : PV → Prop) : Prop :=
  match op with
  | .neg => match p with
    | .int k n => K (.int k (k.wrap (0 - n)))
    | _ => False
  | .xor => match p with
    | .int k n => K (.int k (ibits .xor k (if k.signed then -1 else k.max) n))
    | _ => False
  | .not => match p with
    | .bool b => K (.bool (!b))
    | _ => False
  | .plus => False
def byteOf (n : Int) : Int := ((n.toNat % 256 : Nat) : Int)
def strOf (rows : Nat → Option Row) (p : PV) (K : PV → Prop) : Prop :=
  match p with
  | .ints k l => k = .u8 ∧ K (.str (l.map byteOf))
  | .nil => K (.str [])
  | .sl r off len _ => match rows r with
    | some (.ints k l) => k = .u8 ∧ off + len ≤ l.length ∧ K (.str (((l.drop off).take len).map byteOf))
    | _ => False
  | _ => False
def convW (tt : Tab) (rows : Nat → Option Row) (src dst : TypeId) (p : PV) (K : PV → Prop) : Prop :=
  match tt src, tt dst with
  | some s, some d => match d.desc, p with
    | .int k', .int _ n => K (.int k' (k'.wrap n))
    | .str, .str l => isStruct s.desc = false ∧ K (.str l)
    | .str, p => match s.desc with
      | .slice e => match tt e with
        | some te => match te.desc with
          | .int .u8 => strOf rows p K
          | _ => False
        | none => False
      | _ => False
    | _, _ => False
  | _, _ => False
def partW (agg : Bool) (size : Nat) (ps : List PV) (j : Nat) (K : PV → Prop) : Prop :=
  match agg with
  | true => j + size ≤ ps.length ∧ K (.agg ((ps.drop j).take size))
  | false => j < ps.length ∧ K (ps.getD j .undef)
def loadW (rows : Nat → Option Row) (agg : Bool) (size : Nat) (p : PV) (K : PV → Prop) : Prop :=
  match p with
  | .rptr q j => partW agg size (cellsOf q) j K
  | .ptr r i j => match rows r with
    | some (.ints k l) => match agg with
      | true => False
      | false => (i < l.length ∧ j = 0) ∧ K (.int k (l.getD i 0))
    | some (.list _ l) => i < l.length ∧ partW agg size (cellsOf (l.getD i .undef)) j K
    | some (.var l) => i = 0 ∧ partW agg size l j K
    | none => False
  | _ => False
def elemSize (tt : Tab) : TD → Nat
  | .slice e => match tt e with
    | some te => te.size
    | none => 0
  | _ => 0
def idxW (rows : Nat → Option Row) (sz : Nat) (p : PV) (n : PV) (K : PV → Prop) : Prop :=
  match p, n with
  | .ints k l, .int _ n => sz = 1 ∧ (0 ≤ n ∧ n < l.length) ∧ K (.rptr (.int k (l.getD n.toNat 0)) 0)
  | .list sz' l, .int _ n => sz = sz' ∧ (0 ≤ n ∧ n < l.length) ∧ K (.rptr (l.getD n.toNat .undef) 0)
  | .sl r off len _, .int _ n => 0 < sz ∧ sz = rowSz (rows r) ∧ (0 ≤ n ∧ n < len) ∧ K (.ptr r (off + n.toNat) 0)
  | _, _ => False
def arrW (n sz : Nat) (p : PV) (q : PV) (K : PV → Prop) : Prop :=
  match p, q with
  | .ptr r i j, .int _ m => (0 ≤ m ∧ m < n) ∧ K (.ptr r i (j + m.toNat * sz))
  | .rptr p j, .int _ m => (0 ≤ m ∧ m < n) ∧ K (.rptr p (j + m.toNat * sz))
  | _, _ => False
def lenW (rows : Nat → Option Row) (d : TD) (p : PV) (K : PV → Prop) : Prop :=
  match d, p with
  | .str, .str l => K (.int .i64 l.length)
  | .slice _, .ints _ l => K (.int .i64 l.length)
  | .slice _, .list _ l => K (.int .i64 l.length)
  | .slice _, .nil => K (.int .i64 0)
  | .slice _, .sl r _ n _ => (rows r).isSome = true ∧ K (.int .i64 n)
  | _, _ => False
def setL (l : List PV) (off : Nat) : List PV → List PV
  | [] => l
  | c :: cs => setL (l.set off c) (off + 1) cs
def known : PV → Bool
  | .undef => false
  | .tup _ => false
  | _ => true
def fillW (fs : List (Nat × Nat × Bool)) (l : List PV) (K : List PV → Prop) : List (Nat × PV) → Prop
  | [] => K l
  | (i, p) :: rest => match fs[i]? with
    | some (off, sz, _) => known p = true ∧ (cellsOf p).length = sz ∧ off + sz ≤ l.length ∧ fillW fs (setL l off (cellsOf p)) K rest
    | none => False
def fieldAddrW (off : Nat) (p : PV) (K : PV → Prop) : Prop :=
  match p with
  | .ptr r i j => K (.ptr r i (j + off))
  | .rptr q j => K (.rptr q (j + off))
  | _ => False
def indexW (d : TD) (p q : PV) (K : PV → Prop) : Prop :=
  match d, p, q with
  | .str, .str l, .int _ n => (0 ≤ n ∧ n < l.length) ∧ K (.int .u8 (l.getD n.toNat 0))
  | _, _, _ => False
def extractW (i : Nat) (p : PV) (K : PV → Prop) : Prop :=
  match p with
  | .tup l => i < l.length ∧ K (l.getD i .undef)
  | _ => False
def nilCheckW (p : PV) (K : PV → Prop) : Prop :=
  match p with
  | .ptr r i j => K (.ptr r i j)
  | .rptr q j => K (.rptr q j)
  | _ => False
def ifaceW (t : TypeId) (d : TD) (p : PV) (K : PV → Prop) : Prop :=
  match d, p with
  | .struct [], .agg [] => K (.con (.iface t (.agg #[])))
  | _, _ => False
def qw (tt : Tab) (rows : Nat → Option Row) (e : Operand → PV) (op : Op) (K : PV → Prop) : Prop :=
  match op with
  | .move x => K (e x)
  | .assign x => K (e x)
  | .pick c a b => match e c with
    | .bool t => K (bif t then e a else e b)
    | _ => False
  | .load t x => match tt t with
    | some ti => isOther ti.desc = false ∧ loadW rows (isStruct ti.desc) ti.size (e x) K
    | none => False
  | .nilCheck x => nilCheckW (e x) K
  | .binOp op t x y _ => binT tt op t (e x) (e y) K
  | .unOp op _ x => unW op (e x) K
  | .convert src dst x => convW tt rows src dst (e x) K
  | .slice t x lo hi mx => match tt t with
    | some ti => sliceW rows ti.desc (elemSize tt ti.desc) (e x) (lo.map e) (hi.map e) (mx.map e) K
    | none => False
  | .fieldAddr s x f => match tt s with
    | some ti => match ti.desc with
      | .struct fs => match fs[f]? with
        | some (off, sz, _) => sz ≠ 0 ∧ fieldAddrW off (e x) K
        | none => False
      | _ => False
    | none => False
  | .field s x f => match tt s with
    | some ti => match ti.desc with
      | .struct fs => match fs[f]?, e x with
        | some (off, sz, ag), .agg l => sz ≠ 0 ∧ partW ag sz l off K
        | _, _ => False
      | _ => False
    | none => False
  | .indexAddr t x i => match tt t with
    | some ti => match ti.desc with
      | .slice el => match tt el with
        | some te => idxW rows te.size (e x) (e i) K
        | none => False
      | .arr n el _ => match tt el with
        | some te => arrW n te.size (e x) (e i) K
        | none => False
      | _ => False
    | none => False
  | .index t x i => match tt t with
    | some ti => indexW ti.desc (e x) (e i) K
    | none => False
  | .extract x i => extractW i (e x) K
  | .build t parts => match tt t with
    | some ti => match ti.desc, toPV ti.z with
      | .struct fs, .agg zl => fs.all (fun f => f.2.1 != 0) = true ∧ fillW fs zl (fun l => K (.agg l)) (parts.toList.map fun (i, x) => (i, e x))
      | .arr _ _ (f :: fs), .agg zl => (f :: fs).all (fun f => f.2.1 != 0) = true ∧ fillW (f :: fs) zl (fun l => K (.agg l)) (parts.toList.map fun (i, x) => (i, e x))
      | _, _ => False
    | none => False
  | .call c => match c.callee, c.args.toList, c.argTypes.toList with
    | .builtin .len, [x], [t] => match tt t with
      | some ti => lenW rows ti.desc (e x) K
      | none => False
    | .builtin .max, [x, y], _ => match e x, e y with
      | .int k a, .int _ b => K (.int k (if b > a then b else a))
      | _, _ => False
    | .builtin .min, [x, y], _ => match e x, e y with
      | .int k a, .int _ b => K (.int k (if b < a then b else a))
      | _, _ => False
    | _, _, _ => False
  | .makeInterface t x => match tt t with
    | some ti => ifaceW t ti.desc (e x) K
    | none => False
  | _ => False
section
variable {P : Program} {w : World} {ow : Nat → Prop} {loc : Locs} {n : Nat}
def Yld (P : Program) (w : World) (ow : Nat → Prop) (loc : Locs) (n : Nat) (s : Sem Value) (K : PV → Prop) : Prop :=
  ∃ q, K q ∧ ∃ cv, s.run P w = .ok cv w ∧ RV w ow loc q cv ∧ Refs n q
theorem rv_cells {p : PV} {v : Value} (h : RV w ow loc p v) (hk : known p = true) :
    (cellsOf p).length = v.cells.size ∧ ∀ i, i < (cellsOf p).length → RV w ow loc ((cellsOf p).getD i .undef) (v.cells.getD i undef) ∧ (v.cells.getD i undef).oneCell' = true := by
  have one : ∀ (p : PV) (v : Value), RV w ow loc p v → cellsOf p = [p] → v.cells = #[v] → v.oneCell' = true →
      (cellsOf p).length = v.cells.size ∧ ∀ i, i < (cellsOf p).length → RV w ow loc ((cellsOf p).getD i .undef) (v.cells.getD i undef) ∧ (v.cells.getD i undef).oneCell' = true := by
    intro p v h e1 e2 e3
    rw [e1, e2]
    refine ⟨rfl, fun i hi => ?_⟩
    have : i = 0 := by simpa using hi
    subst this
    exact ⟨h, e3⟩
  cases h with
  | data p v hd =>
    cases hd with
    | undef => simp [known] at hk
    | agg l vs hl h1 hd =>
      refine ⟨hl, fun i hi => ⟨.data _ _ (hd i hi), h1 _ ?_⟩⟩
      have hi' : i < vs.size := by simpa [cellsOf, hl] using hi
      show vs.getD i undef ∈ _
      simp [Array.getD, hi']
    | tup => simp [known] at hk
    | int k n => exact one _ _ (.data _ _ (.int k n)) rfl rfl rfl
    | bool b => exact one _ _ (.data _ _ (.bool b)) rfl rfl rfl
    | str s l e => exact one _ _ (.data _ _ (.str s l e)) rfl rfl rfl
    | nil => exact one _ _ (.data _ _ .nil) rfl rfl rfl
    | nilptr => exact one _ _ (.data _ _ .nilptr) rfl rfl rfl
    | con v h => exact one _ _ (.data _ _ (.con v h)) rfl (by cases v <;> first | rfl | (simp [Value.oneCell'] at h)) h
    | intsNil k => exact one _ _ (.data _ _ (.intsNil k)) rfl rfl rfl
    | listNil k => exact one _ _ (.data _ _ (.listNil k)) rfl rfl rfl
    | intsE k a c => exact one _ _ (.data _ _ (.intsE k a c)) rfl rfl rfl
    | listE k a c => exact one _ _ (.data _ _ (.listE k a c)) rfl rfl rfl
    | ints k l n b o cap hn hc ho hm => exact one _ _ (.data _ _ (.ints k l n b o cap hn hc ho hm)) rfl rfl rfl
    | list sz l n b o cap us hn hc ho hsz hz hm h1 hd => exact one _ _ (.data _ _ (.list sz l n b o cap us hn hc ho hsz hz hm h1 hd)) rfl rfl rfl
  | dang r off len full a m c h => exact one _ _ (.dang r off len full a m c h) rfl rfl rfl
  | dangp r i j a h => exact one _ _ (.dangp r i j a h) rfl rfl rfl
  | slnil r full h => exact one _ _ (.slnil r full h) rfl rfl rfl
  | sl r off len full L a c h hlc hc hf ha => exact one _ _ (.sl r off len full L a c h hlc hc hf ha) rfl rfl rfl
  | ptr r i j L h => exact one _ _ (.ptr r i j L h) rfl rfl rfl
  | rptr q j b o us ho hm h1 hd h0 => exact one _ _ (.rptr q j b o us ho hm h1 hd h0) rfl rfl rfl
  | agg l vs hl h1 hd =>
    refine ⟨hl, fun i hi => ⟨hd i hi, h1 _ ?_⟩⟩
    have hi' : i < vs.size := by simpa [cellsOf, hl] using hi
    show vs.getD i undef ∈ _
    simp [Array.getD, hi']
  | tup => simp [known] at hk
theorem rv_int {k : IntKind} {m : Int} {v : Value} (h : RV w ow loc (.int k m) v) : v = .int k m := by
  cases h with | data _ _ h => cases h; rfl
theorem rv_con {u v : Value} (h : RV w ow loc (.con u) v) : v = u := by
  cases h with | data _ _ h => cases h; rfl
theorem rv_bool {b : Bool} {v : Value} (h : RV w ow loc (.bool b) v) : v = .bool b := by
  cases h with | data _ _ h => cases h; rfl
theorem rv_str {l : List Int} {v : Value} (h : RV w ow loc (.str l) v) : ∃ s, v = .string s ∧ bytesI s = l := by
  cases h with | data _ _ h => cases h with | str s l e => exact ⟨s, rfl, e⟩
theorem rv_nil {v : Value} (h : RV w ow loc .nil v) : v = .slice none 0 0 := by
  cases h with | data _ _ h => cases h; rfl
theorem Yld.pure {K : PV → Prop} {q : PV} {cv : Value} {s : Sem Value} (hk : K q) (hs : s.run P w = .ok cv w) (hv : RD w ow q cv) (hr : Refs n q) : Yld P w ow loc n s K :=
  ⟨q, hk, cv, hs, .data _ _ hv, hr⟩
theorem rv_tup {l : List PV} {v : Value} (h : RV w ow loc (.tup l) v) : ∃ vs, v = .tuple vs ∧ l.length = vs.size ∧ ∀ i, i < l.length → RV w ow loc (l.getD i .undef) (vs.getD i undef) := by
  cases h with
  | data _ _ h => cases h with | tup l vs hl hd => exact ⟨vs, rfl, hl, fun i hi => .data _ _ (hd i hi)⟩
  | tup l vs hl hd => exact ⟨vs, rfl, hl, hd⟩
theorem rv_agg {l : List PV} {v : Value} (h : RV w ow loc (.agg l) v) : ∃ vs, v = .agg vs ∧ l.length = vs.size ∧ (∀ u ∈ vs.toList, u.oneCell' = true) ∧ ∀ i, i < l.length → RV w ow loc (l.getD i .undef) (vs.getD i undef) := by
  cases h with
  | data _ _ h => cases h with | agg l vs hl h1 hd => exact ⟨vs, rfl, hl, h1, fun i hi => .data _ _ (hd i hi)⟩
  | agg l vs hl h1 hd => exact ⟨vs, rfl, hl, h1, hd⟩
theorem extract_sound {p : PV} {v : Value} {i : Nat} {K : PV → Prop} (hv : RV w ow loc p v) (hr : Refs n p)
    (h : extractW i p K) : Yld P w ow loc n (Instr.extract v i) K := by
  cases p <;> try exact h.elim
  rename_i l
  obtain ⟨hi, hk⟩ := h
  obtain ⟨vs, rfl, hl, hd⟩ := rv_tup hv
  have hi' : i < vs.size := hl ▸ hi
  refine ⟨_, hk, vs.getD i undef, ?_, hd i hi, ?_⟩
  · simp [Instr.extract, hi', Array.getD]
  · cases hr with | tup _ h => exact h i hi
theorem bytesI_inj {a b : ByteArray} (h : bytesI a = bytesI b) : a = b := by
  unfold bytesI at h
  have hi : ∀ x y : UInt8, ((x.toNat : Int) = (y.toNat : Int)) → x = y := fun x y e => UInt8.toNat_inj.1 (by omega)
  have : a.data.toList = b.data.toList := by
    generalize a.data.toList = l at h ⊢
    generalize b.data.toList = m at h ⊢
    induction l generalizing m with
    | nil => cases m <;> simp_all
    | cons x l ih =>
      cases m with
      | nil => simp at h
      | cons y m => simp only [List.map_cons, List.cons.injEq] at h ⊢; exact ⟨hi _ _ h.1, ih m h.2⟩
  cases a; cases b; simp_all
theorem toList_data (s : ByteArray) : s.toList = s.data.toList := by
  first | exact ByteArray.toList_eq s | simp [ByteArray.toList_data]
theorem eq_str (a b : ByteArray) : (a.toList == b.toList) = decide (bytesI a = bytesI b) := by
  rw [Bool.eq_iff_iff]
  simp only [beq_iff_eq, decide_eq_true_eq]
  constructor
  · intro h; rw [toList_data, toList_data] at h; unfold bytesI; rw [h]
  · intro h; rw [bytesI_inj h]
theorem less_str (a b : List UInt8) : Op.bytesLess a b = strLess (a.map fun x => (x.toNat : Int)) (b.map fun x => (x.toNat : Int)) := by
  induction a generalizing b with
  | nil => cases b <;> rfl
  | cons x a ih =>
    cases b with
    | nil => rfl
    | cons y b =>
      simp only [Op.bytesLess, List.map_cons, strLess, ih]
      have h1 : (x < y) ↔ ((x.toNat : Int) < (y.toNat : Int)) := by rw [UInt8.lt_iff_toNat_lt]; omega
      have h2 : (x == y) = decide ((x.toNat : Int) = (y.toNat : Int)) := by
        rw [Bool.eq_iff_iff]; simp only [beq_iff_eq, decide_eq_true_eq]
        exact ⟨fun h => by rw [h], fun h => UInt8.toNat_inj.1 (by omega)⟩
      rw [h2]
      congr 1
      simp [h1]
theorem less_bytes (a b : ByteArray) : Op.bytesLess a.toList b.toList = strLess (bytesI a) (bytesI b) := by
  rw [toList_data, toList_data]; exact less_str _ _
theorem bytesI_append (a b : ByteArray) : bytesI (a ++ b) = bytesI a ++ bytesI b := by
  unfold bytesI
  rw [← List.map_append, ← Array.toList_append, ByteArray.data_append]
theorem bin_sound {op : BinOp} {t : TypeId} {x y : Operand} {p q : PV} {v u : Value} {K : PV → Prop} (hp : RV w ow loc p v) (hq : RV w ow loc q u) (h : binW op p q K) :
    Yld P w ow loc n (do eqGuard op t x y v u; binOp op t v u) K := by
  have key : (∃ k a k' b, p = .int k a ∧ q = .int k' b) ∨ (∃ a b, p = .str a ∧ q = .str b) := by
    cases op <;> simp only [binW] at h <;> split at h <;> first | exact h.elim | exact .inl ⟨_, _, _, _, rfl, rfl⟩ | exact .inr ⟨_, _, rfl, rfl⟩
  rcases key with ⟨k, a, k', b, rfl, rfl⟩ | ⟨a, b, rfl, rfl⟩
  · obtain rfl := rv_int hp
    obtain rfl := rv_int hq
    have hg : (eqGuard op t x y (.int k a) (.int k' b)).run P w = .ok () w := by cases op <;> simp [eqGuard]
    cases op <;> simp only [binW] at h
    case shl =>
      refine .pure h.2 ?_ (.int _ _) (.int _ _)
      simp [hg, binOp, Op.shift, Int.not_lt.2 h.1]
    case shr =>
      refine .pure h.2 ?_ (.int _ _) (.int _ _)
      simp [hg, binOp, Op.shift, Int.not_lt.2 h.1]
    case quo =>
      obtain ⟨rfl, hb, h⟩ := h
      refine .pure h ?_ (.int _ _) (.int _ _)
      simp [hg, binOp, Op.intDiv, hb]
    case rem =>
      obtain ⟨rfl, hb, h⟩ := h
      refine .pure h ?_ (.int _ _) (.int _ _)
      simp [hg, binOp, Op.intDiv, hb]
    case and | or | xor | andNot =>
      obtain ⟨rfl, h⟩ := h
      refine .pure h ?_ (.int _ _) (.int _ _)
      simp [hg, binOp, Op.intBits, ibits]
    case add | sub | mul =>
      obtain ⟨rfl, h⟩ := h
      refine .pure h ?_ (.int _ _) (.int _ _)
      simp [hg, binOp, Op.intArith]
    all_goals
      obtain ⟨rfl, h⟩ := h
      refine .pure h ?_ (.bool _) (.bool _)
      simp [hg, binOp, Op.intCmp, bne]
      try (first | rfl | (rw [Bool.eq_iff_iff]; simp))
  · obtain ⟨s, rfl, rfl⟩ := rv_str hp
    obtain ⟨s', rfl, rfl⟩ := rv_str hq
    have hg : (eqGuard op t x y (.string s) (.string s')).run P w = .ok () w := by cases op <;> simp [eqGuard]
    cases op <;> simp only [binW] at h <;> try exact h.elim
    case add =>
      refine .pure h.2 ?_ (.str _ _ (bytesI_append s s')) (.str _)
      have hs : s.size + s'.size ≤ 9223372036854775807 := by rw [← bytesI_length, ← bytesI_length]; exact h.1
      simp [hg, binOp, run_string_add_sum w s s' hs]
    all_goals
      refine .pure h ?_ (.bool _) (.bool _)
      simp [hg, binOp, Op.stringOp, eq_str, less_bytes]
      try rfl
theorem run_equal_bool {t : TypeId} {a b : Bool} (ht : P.underlying t = some .bool) : (Op.equal t (.bool a) (.bool b)).run P w = .ok (a == b) w := by
  have e : Op.equal t (.bool a) (.bool b) = Op.equalIn (9999 + 1) t (.bool a) (.bool b) := rfl
  rw [e, Op.equalIn]
  simp [run_underlying ht]
theorem bool_sound {op : BinOp} {t : TypeId} {x y : Operand} {a b : Bool} {v u : Value} {K : PV → Prop} (hp : RV w ow loc (.bool a) v) (hq : RV w ow loc (.bool b) u)
    (h : match op with | .eql => P.underlying t = some .bool ∧ K (.bool (a == b)) | .neq => P.underlying t = some .bool ∧ K (.bool (!(a == b))) | _ => False) :
    Yld P w ow loc n (do eqGuard op t x y v u; binOp op t v u) K := by
  obtain rfl := rv_bool hp
  obtain rfl := rv_bool hq
  cases op <;> simp only at h
  case eql =>
    refine .pure h.2 ?_ (.bool _) (.bool _)
    have hb : binOp .eql t (.bool a) (.bool b) = (do pure (.bool (← Op.equal t (.bool a) (.bool b))) : Sem Value) := rfl
    rw [hb]
    simp [eqGuard, run_equal_bool h.1]
  case neq =>
    refine .pure h.2 ?_ (.bool _) (.bool _)
    have hb : binOp .neq t (.bool a) (.bool b) = (do pure (.bool (!(← Op.equal t (.bool a) (.bool b)))) : Sem Value) := rfl
    rw [hb]
    simp [eqGuard, run_equal_bool h.1]
theorem ek_isAgg {t : TypeId} {e : EK} (h : ekOf P t = some e) (w : World) : (isAgg t).run P w = .ok false w := by
  unfold ekOf at h
  split at h
  · rename_i hu; simp [isAgg, run_underlying hu]
  · rename_i hu; simp [isAgg, run_underlying hu]
  · rename_i hu; simp [isAgg, run_underlying hu]
  · cases h
theorem eqFields_run {xs ys : Array Value} {l m : List PV} (hl : l.length = xs.size) (hm : m.length = ys.size)
    (hx : ∀ i, i < l.length → RV w ow loc (l.getD i .undef) (xs.getD i undef)) (hy : ∀ i, i < m.length → RV w ow loc (m.getD i .undef) (ys.getD i undef)) :
    ∀ (fs : List Field) (i : Nat) (ks : List EK) (K : Bool → Prop), (∀ (j : Nat) (f : Field), fs[j]? = some f → (f.name != "_") = true ∧ f.offset = i + j) → fs.map (fun f => ekOf P f.type) = ks.map some → eqW ks (l.drop i) (m.drop i) K →
      ∃ r, K r ∧ (Op.eqFields 9999 xs ys fs).run P w = .ok r w := by
  intro fs
  induction fs with
  | nil =>
    intro i ks K hf hk h
    cases ks with
    | cons e ks => simp at hk
    | nil =>
      rw [eqW_nil] at h
      split at h
      · exact ⟨true, h, rfl⟩
      · exact h.elim
  | cons f fs ih =>
    intro i ks K hf hk h
    cases ks with
    | nil => simp at hk
    | cons e ks =>
      rw [List.map_cons, List.map_cons, List.cons.injEq] at hk
      obtain ⟨hke, hk⟩ := hk
      obtain ⟨hn, ho⟩ := hf 0 f rfl
      rw [Nat.add_zero] at ho
      rw [eqW_cons] at h
      split at h
      · rename_i x l' y m' hl' hm'
        have hil : i < l.length := Nat.lt_of_not_le fun hle => by rw [List.drop_eq_nil_of_le hle] at hl'; cases hl'
        have him : i < m.length := Nat.lt_of_not_le fun hle => by rw [List.drop_eq_nil_of_le hle] at hm'; cases hm'
        rw [List.drop_eq_getElem_cons hil, List.cons.injEq] at hl'
        rw [List.drop_eq_getElem_cons him, List.cons.injEq] at hm'
        obtain ⟨ex, el⟩ := hl'
        obtain ⟨ey, em⟩ := hm'
        have hxi := hx i hil
        have hyi := hy i him
        rw [List.getD_eq_getElem?_getD, List.getElem?_eq_getElem hil, Option.getD_some, ex] at hxi
        rw [List.getD_eq_getElem?_getD, List.getElem?_eq_getElem him, Option.getD_some, ey] at hyi
        have hix : i < xs.size := by omega
        have hiy : i < ys.size := by omega
        have gx : xs.getD i undef = xs[i] := by simp [Array.getD, hix]
        have gy : ys.getD i undef = ys[i] := by simp [Array.getD, hiy]
        rw [gx] at hxi
        rw [gy] at hyi
        have px : (part f.type xs f.offset).run P w = .ok xs[i] w := by simp [part, ek_isAgg hke, ho, hix]
        have py : (part f.type ys f.offset).run P w = .ok ys[i] w := by simp [part, ek_isAgg hke, ho, hiy]
        have hn' : f.name ≠ "_" := by simpa using hn
        have rest : ∀ (r0 : Bool) (K' : Bool → Prop), (∀ r, K' r → K (r0 && r)) → (Op.equalIn 9999 f.type xs[i] ys[i]).run P w = .ok r0 w → eqW ks l' m' K' → ∃ r, K r ∧ (Op.eqFields 9999 xs ys (f :: fs)).run P w = .ok r w := by
          intro r0 K' hK hr h
          rw [← el, ← em] at h
          obtain ⟨r, h1, h2⟩ := ih (i + 1) ks K' (fun j g hj => by obtain ⟨a, b⟩ := hf (j + 1) g hj; exact ⟨a, by omega⟩) hk h
          refine ⟨r0 && r, hK r h1, ?_⟩
          simp only [Op.eqFields, if_pos hn', Sem.run_bind, px, py, Result.andThen_ok, hr]
          cases r0
          · simp
          · simpa using h2
        unfold ekOf at hke
        split at h
        · rename_i a b
          have u1 := rv_bool hxi
          have u2 := rv_bool hyi
          have ht : P.underlying f.type = some .bool := by split at hke <;> first | assumption | cases hke
          exact rest (a == b) _ (fun r hr => hr) (by rw [u1, u2]; exact run_equalIn_bool w 9998 f.type a b ht) h
        · rename_i k a k' b
          obtain ⟨rfl, h⟩ := h
          have u1 := rv_int hxi
          have u2 := rv_int hyi
          obtain ⟨k2, ht⟩ : ∃ k2, P.underlying f.type = some (.int k2) := by split at hke <;> first | exact ⟨_, by assumption⟩ | cases hke
          refine rest (decide (a = b)) _ (fun r hr => hr) ?_ h
          rw [u1, u2]
          refine (run_equalIn_int w 9998 f.type k k2 a b ht).trans ?_
          rfl
        · rename_i a b
          obtain ⟨sa, u1, ha⟩ := rv_str hxi
          obtain ⟨sb, u2, hb⟩ := rv_str hyi
          have ht : P.underlying f.type = some .string := by split at hke <;> first | assumption | cases hke
          refine rest (decide (a = b)) _ (fun r hr => hr) ?_ h
          rw [u1, u2]
          refine (run_equalIn_string w 9998 f.type sa sb ht).trans ?_
          rw [eq_str, ha, hb]
        · exact h.elim
      · exact h.elim
theorem eqItems_run {e : TypeId} {k : EK} (hke : ekOf P e = some k) {xs ys : Array Value} {l m : List PV} (hl : l.length = xs.size) (hm : m.length = ys.size)
    (hx : ∀ i, i < l.length → RV w ow loc (l.getD i .undef) (xs.getD i undef)) (hy : ∀ i, i < m.length → RV w ow loc (m.getD i .undef) (ys.getD i undef)) :
    ∀ (c i : Nat) (K : Bool → Prop), eqW (List.replicate c k) (l.drop i) (m.drop i) K → ∃ r, K r ∧ (Op.eqItems 9999 e 1 xs ys (List.range' i c)).run P w = .ok r w := by
  intro c
  induction c with
  | zero =>
    intro i K h
    rw [List.replicate_zero, eqW_nil] at h
    split at h
    · exact ⟨true, h, rfl⟩
    · exact h.elim
  | succ c ih =>
    intro i K h
    rw [List.replicate_succ, eqW_cons] at h
    split at h
    · rename_i x l' y m' hl' hm'
      have hil : i < l.length := Nat.lt_of_not_le fun hle => by rw [List.drop_eq_nil_of_le hle] at hl'; cases hl'
      have him : i < m.length := Nat.lt_of_not_le fun hle => by rw [List.drop_eq_nil_of_le hle] at hm'; cases hm'
      rw [List.drop_eq_getElem_cons hil, List.cons.injEq] at hl'
      rw [List.drop_eq_getElem_cons him, List.cons.injEq] at hm'
      obtain ⟨ex, el⟩ := hl'
      obtain ⟨ey, em⟩ := hm'
      have hxi := hx i hil
      have hyi := hy i him
      rw [List.getD_eq_getElem?_getD, List.getElem?_eq_getElem hil, Option.getD_some, ex] at hxi
      rw [List.getD_eq_getElem?_getD, List.getElem?_eq_getElem him, Option.getD_some, ey] at hyi
      have hix : i < xs.size := by omega
      have hiy : i < ys.size := by omega
      have gx : xs.getD i undef = xs[i] := by simp [Array.getD, hix]
      have gy : ys.getD i undef = ys[i] := by simp [Array.getD, hiy]
      rw [gx] at hxi
      rw [gy] at hyi
      have px : (part e xs (i * 1)).run P w = .ok xs[i] w := by simp [part, ek_isAgg hke, hix]
      have py : (part e ys (i * 1)).run P w = .ok ys[i] w := by simp [part, ek_isAgg hke, hiy]
      have rest : ∀ (r0 : Bool) (K' : Bool → Prop), (∀ r, K' r → K (r0 && r)) → (Op.equalIn 9999 e xs[i] ys[i]).run P w = .ok r0 w → eqW (List.replicate c k) l' m' K' → ∃ r, K r ∧ (Op.eqItems 9999 e 1 xs ys (List.range' i (c + 1))).run P w = .ok r w := by
        intro r0 K' hK hr h
        rw [← el, ← em] at h
        obtain ⟨r, h1, h2⟩ := ih (i + 1) K' h
        refine ⟨r0 && r, hK r h1, ?_⟩
        rw [List.range'_succ]
        simp only [Op.eqItems, Sem.run_bind, px, py, Result.andThen_ok, hr]
        cases r0
        · simp
        · simpa using h2
      unfold ekOf at hke
      split at h
      · rename_i a b
        have u1 := rv_bool hxi
        have u2 := rv_bool hyi
        have ht : P.underlying e = some .bool := by split at hke <;> first | assumption | cases hke
        exact rest (a == b) _ (fun r hr => hr) (by rw [u1, u2]; exact run_equalIn_bool w 9998 e a b ht) h
      · rename_i kk a k' b
        obtain ⟨rfl, h⟩ := h
        have u1 := rv_int hxi
        have u2 := rv_int hyi
        obtain ⟨k2, ht⟩ : ∃ k2, P.underlying e = some (.int k2) := by split at hke <;> first | exact ⟨_, by assumption⟩ | cases hke
        refine rest (decide (a = b)) _ (fun r hr => hr) ?_ h
        rw [u1, u2]
        refine (run_equalIn_int w 9998 e kk k2 a b ht).trans ?_
        rfl
      · rename_i a b
        obtain ⟨sa, u1, ha⟩ := rv_str hxi
        obtain ⟨sb, u2, hb⟩ := rv_str hyi
        have ht : P.underlying e = some .string := by split at hke <;> first | assumption | cases hke
        refine rest (decide (a = b)) _ (fun r hr => hr) ?_ h
        rw [u1, u2]
        refine (run_equalIn_string w 9998 e sa sb ht).trans ?_
        rw [eq_str, ha, hb]
      · exact h.elim
    · exact h.elim
theorem eqsOf_spec {t : TypeId} (h : someE (eqsOf P t) = true) : (∃ (n : Nat) (e : TypeId) (k : EK) (i : TypeInfo), P.underlying t = some (.array n e) ∧ P.eqGuardType P.depth t = false ∧ P.cellsOf e = 1 ∧ ekOf P e = some k ∧ P.info? e = some i ∧ eqsOf P t = List.replicate n k) ∨ P.underlying t = some (.struct (P.fieldsOf t)) ∧ P.stoodInHeld t = false ∧ P.eqGuardType P.depth t = false ∧
    (∀ (j : Nat) (f : Field), (P.fieldsOf t).toList[j]? = some f → (f.name != "_") = true ∧ f.offset = 0 + j) ∧ (P.fieldsOf t).toList.map (fun f => ekOf P f.type) = (eqsOf P t).map some := by
  unfold eqsOf at h ⊢
  split at h
  · rename_i fs hu
    split at h
    · rename_i hc
      simp only [Bool.and_eq_true, Bool.not_eq_true'] at hc
      obtain ⟨h1, h2, h3⟩ := hc
      have hall : ∀ (j : Nat) (f : Field), (P.fieldsOf t).toList[j]? = some f → (f.name != "_") = true ∧ f.offset = j ∧ (ekOf P f.type).isSome = true := fun j f hj => by
        have hmem : (f, j) ∈ (P.fieldsOf t).toList.zipIdx := by
          rw [List.mem_zipIdx_iff_getElem?]
          exact hj
        have := List.all_eq_true.1 h3 _ hmem
        simp only [Bool.and_eq_true, beq_iff_eq] at this
        exact ⟨this.1, this.2.1, this.2.2⟩
      refine .inr ⟨by rw [Program.fieldsOf, hu], h1, h2, fun j f hj => ⟨(hall j f hj).1, by rw [(hall j f hj).2.1]; omega⟩, ?_⟩
      have hs : ∀ f ∈ (P.fieldsOf t).toList, (ekOf P f.type).isSome = true := fun f hf => by
        obtain ⟨j, hj⟩ := List.getElem?_of_mem hf
        exact (hall j f hj).2.2
      generalize (P.fieldsOf t).toList = l at hs
      clear hall h3
      induction l with
      | nil => rfl
      | cons f l ih =>
        have hf := hs f (by simp)
        cases he : ekOf P f.type with
        | none => rw [he] at hf; cases hf
        | some e =>
          rw [List.map_cons, List.filterMap_cons, he, ih fun g hg => hs g (by simp [hg])]
          rfl
    · cases h
  · rename_i n e hu
    split at h
    · rename_i hc
      simp only [Bool.and_eq_true, Bool.not_eq_true', beq_iff_eq] at hc
      cases hk : ekOf P e with
      | none => rw [hk] at h; cases h
      | some k =>
        have hi : ∃ i, P.info? e = some i := by
          cases hi : P.info? e with
          | none => unfold ekOf Program.underlying at hk; rw [hi] at hk; cases hk
          | some i => exact ⟨i, rfl⟩
        obtain ⟨i, hi⟩ := hi
        exact .inl ⟨n, e, k, i, hu, hc.1, hc.2, hk, hi, rfl⟩
    · cases h
  · cases h
theorem agg_sound {op : BinOp} {t : TypeId} {x y : Operand} {l m : List PV} {v u : Value} {K : PV → Prop} (hp : RV w ow loc (.agg l) v) (hq : RV w ow loc (.agg m) u) (he : someE (eqsOf P t) = true)
    (h : match op with | .eql => eqW (eqsOf P t) l m fun r => K (.bool r) | .neq => eqW (eqsOf P t) l m fun r => K (.bool (!r)) | _ => False) :
    Yld P w ow loc n (do eqGuard op t x y v u; binOp op t v u) K := by
  obtain ⟨xs, rfl, hl, _, hx⟩ := rv_agg hp
  obtain ⟨ys, rfl, hm, _, hy⟩ := rv_agg hq
  have both : P.eqGuardType P.depth t = false ∧ ∀ K' : Bool → Prop, eqW (eqsOf P t) l m K' → ∃ r, K' r ∧ (Op.equalIn 10000 t (.agg xs) (.agg ys)).run P w = .ok r w := by
    rcases eqsOf_spec he with ⟨n, e, k, i, hu, hg, hc, hk, hi, hE⟩ | ⟨hu, hst, hg, hf, hk⟩
    · refine ⟨hg, fun K' h => ?_⟩
      rw [hE] at h
      obtain ⟨r, h1, h2⟩ := eqItems_run hk hl hm hx hy n 0 K' (by rw [List.drop_zero, List.drop_zero]; exact h)
      refine ⟨r, h1, (run_equalIn_array w 9999 xs ys hu hi).trans ?_⟩
      rw [hc, List.range_eq_range']
      exact h2
    · refine ⟨hg, fun K' h => ?_⟩
      obtain ⟨r, h1, h2⟩ := eqFields_run hl hm hx hy _ 0 _ K' hf hk (by rw [List.drop_zero, List.drop_zero]; exact h)
      exact ⟨r, h1, (run_equalIn_agg w 9999 t xs ys hu hst).trans h2⟩
  obtain ⟨hg, hrun⟩ := both
  cases op <;> simp only at h
  case eql =>
    obtain ⟨r, h1, h2⟩ := hrun _ h
    refine .pure h1 ?_ (.bool _) (.bool _)
    simp only [Sem.run_bind, run_eqGuard_agg w _ t x y xs ys hg, Result.andThen_ok, run_eql_struct, h2]
  case neq =>
    obtain ⟨r, h1, h2⟩ := hrun _ h
    refine .pure h1 ?_ (.bool _) (.bool _)
    simp only [Sem.run_bind, run_eqGuard_agg w _ t x y xs ys hg, Result.andThen_ok, run_neq_struct, h2]
end
section
variable {P : Program} {w : World} {ow : Nat → Prop} {loc : Locs} {n : Nat} {tt : Tab} {rows : Nat → Option Row}
theorem un_sound {op : UnOp} {p : PV} {v : Value} {K : PV → Prop} (hp : RV w ow loc p v) (h : unW op p K) : Yld P w ow loc n (Op.unary op v) K := by
  cases op <;> simp only [unW] at h <;> (try exact h.elim) <;> split at h <;> try exact h.elim
  · obtain rfl := rv_int hp
    exact .pure h (by simp [Op.unary, Op.intArith]) (.int _ _) (.int _ _)
  · obtain rfl := rv_int hp
    refine .pure h ?_ (.int _ _) (.int _ _)
    simp [Op.unary, Op.intBits, ibits]
  · obtain rfl := rv_bool hp
    exact .pure h (by simp [Op.unary]) (.bool _) (.bool _)
theorem rv_ints {k : IntKind} {l : List Int} {v : Value} (h : RV w ow loc (.ints k l) v) :
    ∃ a cap, v = .slice a l.length cap ∧ l.length ≤ cap ∧ (a = none → l = [] ∧ cap = 0) ∧
      (l ≠ [] → ∃ b o, a = some ⟨b, o, none⟩ ∧ ¬ ow b ∧ ∀ i, i < l.length → w.cell? ⟨b, o + i, none⟩ = some (.int k (l.getD i 0))) := by
  cases h with
  | data _ _ h =>
    cases h with
    | intsNil => exact ⟨none, 0, rfl, Nat.le_refl _, fun _ => ⟨rfl, rfl⟩, fun h => absurd rfl h⟩
    | intsE _ a cap => exact ⟨some a, cap, rfl, Nat.zero_le _, (fun h => by cases h), fun h => absurd rfl h⟩
    | ints _ _ m b o cap hn hc ho hm => subst hn; exact ⟨_, cap, rfl, hc, (fun h => by cases h), fun _ => ⟨b, o, rfl, ho, hm⟩⟩
theorem rv_list {sz : Nat} {l : List PV} {v : Value} (h : RV w ow loc (.list sz l) v) :
    ∃ a cap, v = .slice a l.length cap ∧ l.length ≤ cap ∧ (a = none → l = [] ∧ cap = 0) ∧
      (l ≠ [] → 0 < sz ∧ ∃ (b o : Nat) (us : Nat → Nat → Value), a = some ⟨b, o, none⟩ ∧ ¬ ow b ∧ (∀ i, i < l.length → (cellsOf (l.getD i .undef)).length = sz) ∧
        (∀ i j, i < l.length → j < sz → w.cell? ⟨b, o + (i * sz + j), none⟩ = some (us i j)) ∧ (∀ i j, i < l.length → j < sz → (us i j).oneCell' = true) ∧
        ∀ i j, i < l.length → j < sz → RD w ow ((cellsOf (l.getD i .undef)).getD j .undef) (us i j)) := by
  cases h with
  | data _ _ h =>
    cases h with
    | listNil => exact ⟨none, 0, rfl, Nat.le_refl _, fun _ => ⟨rfl, rfl⟩, fun h => absurd rfl h⟩
    | listE _ a cap => exact ⟨some a, cap, rfl, Nat.zero_le _, (fun h => by cases h), fun h => absurd rfl h⟩
    | list _ _ m b o cap us hn hc ho hsz hz hm h1 hd => subst hn; exact ⟨_, cap, rfl, hc, (fun h => by cases h), fun _ => ⟨hsz, b, o, us, rfl, ho, hz, hm, h1, hd⟩⟩
theorem rv_sl {r off len : Nat} {full : Bool} {v : Value} (h : RV w ow loc (.sl r off len full) v) : ∃ a m c, v = .slice a m c ∧ (loc r ≠ none → m = len) := by
  cases h with
  | data _ _ h => cases h
  | dang _ _ _ _ a m c h => exact ⟨a, m, c, rfl, fun h' => absurd h h'⟩
  | slnil _ _ h => exact ⟨none, 0, 0, rfl, fun _ => rfl⟩
  | sl _ _ _ _ L a c h => exact ⟨some a, len, c, rfl, fun _ => rfl⟩
theorem len_sound {t ty : TypeId} {ti : TI} (ht : TIOk P t ti) {p : PV} {v : Value} {K : PV → Prop} (hrow : ∀ r row, rows r = some row → loc r ≠ none) (hp : RV w ow loc p v) (h : lenW rows ti.desc p K) :
    Yld P w ow loc n (Builtin.len_ #[t] ty #[v]) K := by
  unfold lenW at h
  split at h
  · rename_i hd; obtain ⟨s, rfl, rfl⟩ := rv_str hp
    refine .pure h ?_ (.int _ _) (.int _ _)
    simp [Builtin.len_, run_underlying (ht.under_str hd), goInt, bytesI_length]
  · rename_i hd; obtain ⟨a, cap, rfl, _⟩ := rv_ints hp
    refine .pure h ?_ (.int _ _) (.int _ _)
    simp [Builtin.len_, run_underlying (ht.under_slice hd), goInt]
  · rename_i hd; obtain ⟨a, cap, rfl, _⟩ := rv_list hp
    refine .pure h ?_ (.int _ _) (.int _ _)
    simp [Builtin.len_, run_underlying (ht.under_slice hd), goInt]
  · rename_i hd; obtain rfl := rv_nil hp
    refine .pure h ?_ (.int _ _) (.int _ _)
    simp [Builtin.len_, run_underlying (ht.under_slice hd), goInt]
  · rename_i hd; obtain ⟨a, m, c, rfl, hm⟩ := rv_sl hp
    obtain ⟨row, hr⟩ := Option.isSome_iff_exists.1 h.1
    obtain rfl := hm (hrow _ _ hr)
    refine .pure h.2 ?_ (.int _ _) (.int _ _)
    simp [Builtin.len_, run_underlying (ht.under_slice hd), goInt]
  · exact h.elim
theorem cell_off (b o j : Nat) : (⟨b, o, none⟩ : Addr).add j = ⟨b, o + j, none⟩ := Addr.add_lit b o j
theorem load_cells {t : TypeId} {ti : TI} (ht : TIOk P t ti) (ho : isOther ti.desc = false) (b o : Nat) {ps : List PV} (us : Nat → Value) {K : PV → Prop} (agg : Bool) (hag : isStruct ti.desc = agg)
    (hm : ∀ i, i < ps.length → w.cell? ⟨b, o + i, none⟩ = some (us i)) (h1 : ∀ i, i < ps.length → (us i).oneCell' = true)
    (hv : ∀ i, i < ps.length → RV w ow loc (ps.getD i .undef) (us i)) (hr : ∀ i, i < ps.length → Refs n (ps.getD i .undef)) (j : Nat)
    (h : partW agg ti.size ps j K) :
    Yld P w ow loc n (Instr.loadAt t (.pointer (some ⟨b, o + j, none⟩))) K := by
  obtain ⟨i, hi, hz, hs, hb⟩ := ht.info
  cases agg with
  | false =>
    obtain ⟨hj, hk⟩ := h
    refine ⟨_, hk, us j, ?_, hv j hj, hr j hj⟩
    simp [Instr.loadAt, Instr.sureAddr, loadVar, ht.run_agg ho, hag, hm j hj]
  | true =>
    obtain ⟨hj, hk⟩ := h
    have hl : (loadCells ⟨b, o + j, none⟩ ti.size).run P w = .ok ((List.range ti.size).map fun k => us (j + k)).toArray w :=
      run_loadCells w _ _ _ fun k hk => by rw [cell_off, Nat.add_assoc]; exact hm _ (by omega)
    have hlen : ((ps.drop j).take ti.size).length = ti.size := by simp; omega
    have hget : ∀ k, k < ti.size → ((ps.drop j).take ti.size).getD k .undef = ps.getD (j + k) .undef := fun k hk => by
      simp [List.getD, hk]
    have hval : ∀ k, k < ti.size → (((List.range ti.size).map fun k => us (j + k)).toArray).getD k undef = us (j + k) := fun k hk => by
      simp [Array.getD, hk]
    refine ⟨_, hk, .agg ((List.range ti.size).map fun k => us (j + k)).toArray, ?_, .agg _ _ (by simp; omega) ?_ ?_, .agg _ ?_⟩
    · simp [Instr.loadAt, Instr.sureAddr, loadVar, ht.run_agg ho, hag, sizeOf, typeInfo, hi, hs, hl]
    · intro u hu
      simp at hu
      obtain ⟨k, hk, rfl⟩ := hu
      exact h1 _ (by omega)
    · intro k hk
      rw [hlen] at hk
      rw [hget k hk, hval k hk]
      exact hv _ (by omega)
    · intro k hk
      rw [hlen] at hk
      rw [hget k hk]
      exact hr _ (by omega)
theorem rd_refs {p : PV} {v : Value} (h : RD w ow p v) : Refs n p := by
  induction h with
  | agg l vs hl h1 hd ih => exact .agg l ih
  | tup l vs hl hd ih => exact .tup l ih
  | _ => constructor
structure RowsOk (w : World) (ow : Nat → Prop) (loc : Locs) (n : Nat) (rows : Nat → Option Row) : Prop where
  at_ : ∀ r row, rows r = some row → ∃ L, loc r = some L ∧ RowAt w ow loc L row
  refs : ∀ r l, rows r = some (.var l) → ∀ j, j < l.length → Refs n (l.getD j .undef)
theorem cell_of_row' {b : Nat} {cur : Array Value} {e : TypeId} {fr : Nat × Nat} (h : w.heap[b]? = some (.cells cur e fr)) (j : Nat) : w.cell? ⟨b, j, none⟩ = cur[j]? := cell_of_row w b j cur e fr h
theorem load_sound {t : TypeId} {ti : TI} (ht : TIOk P t ti) (ho : isOther ti.desc = false) (hrows : RowsOk w ow loc n rows) {p : PV} {v : Value} {K : PV → Prop} (hp : RV w ow loc p v)
    (h : loadW rows (isStruct ti.desc) ti.size p K) : Yld P w ow loc n (Instr.loadAt t v) K := by
  unfold loadW at h
  split at h
  · rename_i q j
    cases hp with
    | data _ _ hd => cases hd
    | rptr _ _ b o us hob hm h1 hd h0 =>
      exact load_cells ht ho b o us _ rfl hm h1 (fun i hi => .data _ _ (hd i hi)) (fun i hi => rd_refs (hd i hi)) j h
  · rename_i r i j
    cases hrw : rows r with
    | none => rw [hrw] at h; exact h.elim
    | some row =>
      rw [hrw] at h
      obtain ⟨L, hL, hat⟩ := hrows.at_ r row hrw
      cases hp with
      | data _ _ hd => cases hd
      | dangp _ _ _ a hl => rw [hl] at hL; cases hL
      | ptr _ _ _ L' hl' =>
        rw [hL] at hl'
        injection hl' with hl'
        subst hl'
        obtain ⟨cur, el, fr, hb, hsz, hfr, hin⟩ := hat
        cases row with
        | ints k l =>
          revert h
          cases hag : isStruct ti.desc with
          | true => exact fun h => h.elim
          | false =>
            rintro ⟨⟨hi, rfl⟩, hk⟩
            obtain ⟨hs1, hlc, hc⟩ := hin
            refine load_cells (ps := [.int k (l.getD i 0)]) ht ho L'.b (L'.o + i * L'.sz) (fun _ => .int k (l.getD i 0)) false hag ?_ (fun _ _ => rfl) ?_ ?_ 0 ⟨by simp, hk⟩
            · intro m hm
              have : m = 0 := by simpa using hm
              subst this
              rw [cell_of_row' hb, hs1, Nat.mul_one, Nat.add_zero]; exact hc i hi
            · intro m hm
              have : m = 0 := by simpa using hm
              subst this
              exact .data _ _ (.int _ _)
            · intro m hm
              have : m = 0 := by simpa using hm
              subst this
              exact .int _ _
        | list sz l =>
          obtain ⟨hs1, hpos, hlc, hc⟩ := hin
          obtain ⟨hi, hrest⟩ := h
          obtain ⟨hz, hcc⟩ := hc i hi
          refine load_cells ht ho L'.b (L'.o + i * L'.sz) (fun m => cur.getD (L'.o + (i * sz + m)) undef) _ rfl ?_ ?_ ?_ ?_ j hrest
          all_goals
            intro m hm
            obtain ⟨u, hu, hu1, hu2⟩ := hcc m (by omega)
            have hg : cur.getD (L'.o + (i * sz + m)) undef = u := by
              rw [Array.getD_eq_getD_getElem?, hu]; rfl
          · rw [cell_of_row' hb, hs1, Nat.add_assoc, hu, hg]
          · rw [hg]; exact hu1
          · rw [hg]; exact .data _ _ hu2
          · exact rd_refs hu2
        | var l =>
          obtain ⟨hs1, hcap, hc⟩ := hin
          obtain ⟨rfl, hrest⟩ := h
          rw [Nat.zero_mul, Nat.add_zero]
          refine load_cells ht ho L'.b L'.o (fun m => cur.getD (L'.o + m) undef) _ rfl ?_ ?_ ?_ (hrows.refs r l hrw) j hrest
          all_goals
            intro m hm
            obtain ⟨u, hu, hu1, hu2⟩ := hc m hm
            have hg : cur.getD (L'.o + m) undef = u := by
              rw [Array.getD_eq_getD_getElem?, hu]; rfl
          · rw [cell_of_row' hb, hu, hg]
          · rw [hg]; exact hu1
          · rw [hg]; exact hu2
  · exact h.elim
end
section
variable {P : Program} {w : World} {ow : Nat → Prop} {loc : Locs} {n : Nat} {tt : Tab} {rows : Nat → Option Row}
theorem RowsOk.ne (h : RowsOk w ow loc n rows) {r : Nat} {row : Row} (hr : rows r = some row) : loc r ≠ none := by
  obtain ⟨L, hL, _⟩ := h.at_ r row hr
  rw [hL]; exact fun h => by cases h
theorem index_sound {t : TypeId} {ti : TI} (ht : TIOk P t ti) {p q : PV} {v u : Value} {K : PV → Prop} (hp : RV w ow loc p v) (hq : RV w ow loc q u)
    (h : indexW ti.desc p q K) :
    Yld P w ow loc n (Instr.index t v u) K := by
  unfold indexW at h
  split at h
  · rename_i l k m hd
    obtain ⟨s, rfl, rfl⟩ := rv_str hp
    obtain rfl := rv_int hq
    obtain ⟨⟨h0, h1⟩, hk⟩ := h
    rw [bytesI_length] at h1
    have hlt : m.toNat < s.size := by omega
    refine .pure hk ?_ (.int _ _) (.int _ _)
    have e : (bytesI s).getD m.toNat 0 = ((s[m.toNat]'hlt).toNat : Int) := by
      unfold bytesI
      have : m.toNat < s.data.toList.length := by simpa using hlt
      simp only [List.getD, List.getElem?_map, List.getElem?_eq_getElem this]
      rfl
    rw [e]
    simp [Instr.index, asIntOf, run_underlying (ht.under_str hd), h0, hlt]
  · exact h.elim
theorem arr_sound {t el : TypeId} {ti te : TI} {m : Nat} {fs : List (Nat × Nat × Bool)} (ht : TIOk P t ti) (hd : ti.desc = .arr m el fs) (hte : TIOk P el te) {p q : PV} {v u : Value} {K : PV → Prop}
    (hp : RV w ow loc p v) (hrp : Refs n p) (hq : RV w ow loc q u) (h : arrW m te.size p q K) : Yld P w ow loc n (Instr.indexAt t v u) K := by
  obtain ⟨i, hi, hz, hs, hb⟩ := hte.info
  have hu := (ht.under_arr hd).1
  unfold arrW at h
  split at h
  · rename_i r a j k x
    obtain rfl := rv_int hq
    obtain ⟨⟨h0, h1⟩, hk⟩ := h
    cases hp with
    | data _ _ hd => cases hd
    | dangp _ _ _ a hl =>
      refine ⟨_, hk, .pointer (some (a.add (x.toNat * te.size))), ?_, .dangp _ _ _ _ hl, ?_⟩
      · simp [Instr.indexAt, Instr.sureAddr, asIntOf, run_underlying hu, h0, h1, sizeOf, typeInfo, hi, hs]
      · cases hrp with | ptr _ _ _ hr => exact .ptr _ _ _ hr
    | ptr _ _ _ L hl =>
      refine ⟨_, hk, .pointer (some ⟨L.b, L.o + a * L.sz + (j + x.toNat * te.size), none⟩), ?_, .ptr _ _ _ L hl, ?_⟩
      · simp [Instr.indexAt, Instr.sureAddr, asIntOf, run_underlying hu, h0, h1, sizeOf, typeInfo, hi, hs, cell_off, Nat.add_assoc]
      · cases hrp with | ptr _ _ _ hr => exact .ptr _ _ _ hr
  · rename_i r j k x
    obtain rfl := rv_int hq
    obtain ⟨⟨h0, h1⟩, hk⟩ := h
    cases hp with
    | data _ _ hd => cases hd
    | rptr _ _ b o us hob hm h1' hd h0' =>
      refine ⟨_, hk, .pointer (some ⟨b, o + (j + x.toNat * te.size), none⟩), ?_, .rptr _ _ b o us hob hm h1' hd h0', .rptr _ _⟩
      simp [Instr.indexAt, Instr.sureAddr, asIntOf, run_underlying hu, h0, h1, sizeOf, typeInfo, hi, hs, cell_off, Nat.add_assoc]
  · exact h.elim
theorem idx_sound {t el : TypeId} {ti te : TI} (ht : TIOk P t ti) (hd : ti.desc = .slice el) (hte : TIOk P el te) (hrows : RowsOk w ow loc n rows) {p q : PV} {v u : Value} {K : PV → Prop}
    (hp : RV w ow loc p v) (hrp : Refs n p) (hq : RV w ow loc q u) (h : idxW rows te.size p q K) : Yld P w ow loc n (Instr.indexAt t v u) K := by
  obtain ⟨i, hi, hz, hs, hb⟩ := hte.info
  unfold idxW at h
  split at h
  · rename_i k l k' m
    obtain rfl := rv_int hq
    obtain ⟨hsz, ⟨h0, h1⟩, hk⟩ := h
    obtain ⟨a, cap, rfl, hc, hn, hl⟩ := rv_ints hp
    obtain ⟨b, o, rfl, hob, hm⟩ := hl (by intro e; rw [e] at h1; simp at h1; omega)
    refine ⟨_, hk, .pointer (some ⟨b, o + m.toNat, none⟩), ?_, ?_, .rptr _ _⟩
    · simp [Instr.indexAt, asIntOf, run_underlying (ht.under_slice hd), h0, h1, sizeOf, typeInfo, hi, hs, hsz, cell_off]
    · refine .rptr _ 0 b (o + m.toNat) (fun _ => .int k (l.getD m.toNat 0)) hob ?_ (fun _ _ => rfl) ?_ (by simp [cellsOf])
      · intro j hj
        have : j = 0 := by simpa [cellsOf] using hj
        subst this
        exact hm _ (by omega)
      · intro j hj
        have : j = 0 := by simpa [cellsOf] using hj
        subst this
        exact .int _ _
  · rename_i sz l k' m
    obtain rfl := rv_int hq
    obtain ⟨hsz, ⟨h0, h1⟩, hk⟩ := h
    obtain ⟨a, cap, rfl, hc, hn, hl⟩ := rv_list hp
    obtain ⟨hpos, b, o, us, rfl, hob, hzz, hm, h1c, hdd⟩ := hl (by intro e; rw [e] at h1; simp at h1; omega)
    refine ⟨_, hk, .pointer (some ⟨b, o + m.toNat * sz, none⟩), ?_, ?_, .rptr _ _⟩
    · simp [Instr.indexAt, asIntOf, run_underlying (ht.under_slice hd), h0, h1, sizeOf, typeInfo, hi, hs, hsz, cell_off]
    · have hlt : m.toNat < l.length := by omega
      refine .rptr _ 0 b (o + m.toNat * sz) (us m.toNat) hob ?_ ?_ ?_ (by rw [hzz _ hlt]; exact hpos)
      · intro j hj
        rw [hzz _ hlt] at hj
        rw [Nat.add_assoc]; exact hm _ _ hlt hj
      · intro j hj
        rw [hzz _ hlt] at hj
        exact h1c _ _ hlt hj
      · intro j hj
        rw [hzz _ hlt] at hj
        exact hdd _ _ hlt hj
  · rename_i r off len full k' m
    obtain rfl := rv_int hq
    obtain ⟨hpos, hsz, ⟨h0, h1⟩, hk⟩ := h
    cases hrw : rows r with
    | none => rw [hrw] at hsz; simp [rowSz] at hsz; omega
    | some row =>
      rw [hrw] at hsz
      have hne := hrows.ne hrw
      obtain ⟨L', hL', hat⟩ := hrows.at_ r row hrw
      cases hp with
      | data _ _ hd => cases hd
      | dang _ _ _ _ a m c hl => exact absurd hl hne
      | slnil => simp at h1; omega
      | sl _ _ _ _ L a c hl hlc hc hf ha =>
        rw [hL'] at hl
        injection hl with hl
        subst hl
        have hc0 : c ≠ 0 := by omega
        obtain rfl := ha.resolve_left hc0
        have hLsz : L.sz = te.size := by
          obtain ⟨cur, e, fr, _, _, _, hin⟩ := hat
          cases row <;> simp only [rowSz] at hsz <;> rw [hsz] <;> exact hin.1
        refine ⟨_, hk, .pointer (some ⟨L.b, L.o + off * L.sz + m.toNat * te.size, none⟩), ?_, ?_, ?_⟩
        · simp [Instr.indexAt, asIntOf, run_underlying (ht.under_slice hd), h0, h1, sizeOf, typeInfo, hi, hs, cell_off]
        · have := RV.ptr (w := w) (ow := ow) (loc := loc) r (off + m.toNat) 0 L hL'
          rw [← hLsz]
          rwa [Nat.add_zero, Nat.add_mul, ← Nat.add_assoc] at this
        · cases hrp with | sl _ _ _ _ h => exact .ptr _ _ _ h
  · exact h.elim
inductive OI : Option PV → Option Value → Int → Int → Prop
  | none (d : Int) : OI none none d d
  | some (k : IntKind) (x d : Int) : OI (some (.int k x)) (some (.int k x)) d x
def OV (w : World) (ow : Nat → Prop) (loc : Locs) (p : Option PV) (v : Option Value) : Prop :=
  (p = none ∧ v = none) ∨ ∃ q u, p = some q ∧ v = some u ∧ RV w ow loc q u
theorem optI_elim {p : Option PV} {v : Option Value} {d : Int} {K : Int → Prop} (hv : OV w ow loc p v) (h : optI p d K) : ∃ x, OI p v d x ∧ K x := by
  rcases hv with ⟨rfl, rfl⟩ | ⟨q, u, rfl, rfl, hu⟩
  · exact ⟨d, .none d, h⟩
  · cases q <;> try exact h.elim
    obtain rfl := rv_int hu
    exact ⟨_, .some _ _ d, h⟩
theorem bounds_none {len cap : Nat} {lo hi : Option PV} {vlo vhi : Option Value} {a b : Int} (ha : OI lo vlo 0 a) (hb : OI hi vhi len b) (isSlice : Bool) (h0 : 0 ≤ a) (h1 : a ≤ b) (h2 : b ≤ cap) :
    (Instr.sliceBounds isSlice len cap vlo vhi none).run P w = .ok (a.toNat, b.toNat, cap) w := by
  have h0b : 0 ≤ b := by omega
  have e1 : a ≤ max b 0 := by omega
  cases ha <;> cases hb <;> simp [Instr.sliceBounds, Instr.sliceBound, asIntOf, *]
theorem bounds_max {len cap : Nat} {lo hi : Option PV} {vlo vhi : Option Value} {a b m : Int} {k : IntKind} (ha : OI lo vlo 0 a) (hb : OI hi vhi len b) (hs : hi.isSome = true) (isSlice : Bool) (h0 : 0 ≤ a) (h1 : a ≤ b) (h2 : b ≤ m) (h3 : m ≤ cap) :
    (Instr.sliceBounds isSlice len cap vlo vhi (some (.int k m))).run P w = .ok (a.toNat, b.toNat, m.toNat) w := by
  have h0b : 0 ≤ b := by omega
  have h0m : 0 ≤ m := by omega
  have e1 : a ≤ max b 0 := by omega
  have e2 : b ≤ max m 0 := by omega
  cases hb with
  | none => simp at hs
  | some => cases ha <;> simp [Instr.sliceBounds, Instr.sliceBound, asIntOf, *]
theorem cutL_eq {α : Type} {l : List α} {lo hi : Option PV} {vlo vhi : Option Value} {a b : Int} (ha : OI lo vlo 0 a) (hb : OI hi vhi l.length b) : cutL l lo hi = (l.take b.toNat).drop a.toNat := by
  cases ha <;> cases hb <;> simp [cutL]
theorem getD_cut {α : Type} (l : List α) (a b i : Nat) (d : α) (hi : a + i < b) : ((l.take b).drop a).getD i d = l.getD (a + i) d := by
  simp [List.getD, hi]
theorem bytesI_extract (s : ByteArray) (a b : Nat) : bytesI (s.extract a b) = ((bytesI s).take b).drop a := by
  unfold bytesI
  rw [← List.map_take, ← List.map_drop]
  congr 1
  rw [ByteArray.data_extract, Array.toList_extract]
  first | rfl | (rw [List.extract_eq_take_drop, List.drop_take])
theorem slice_sound {t : TypeId} {ti : TI} (hT : TabOk P tt) (ht : TIOk P t ti) (hrows : RowsOk w ow loc n rows) {p : PV} {v : Value} {lo hi mx : Option PV} {vlo vhi vmx : Option Value} {K : PV → Prop}
    (hp : RV w ow loc p v) (hrp : Refs n p) (hlo : OV w ow loc lo vlo) (hhi : OV w ow loc hi vhi) (hmx : OV w ow loc mx vmx) (h : sliceW rows ti.desc (elemSize tt ti.desc) p lo hi mx K) :
    Yld P w ow loc n (Instr.sliceAt t v vlo vhi vmx) K := by
  have elem : ∀ e, ti.desc = .slice e → 0 < elemSize tt ti.desc → ∃ i, P.info? e = some i ∧ i.size = elemSize tt ti.desc := by
    intro e he h0
    rw [he] at h0 ⊢
    cases hte : tt e with
    | none => simp [elemSize, hte] at h0
    | some te =>
      obtain ⟨i, hi, _, hs, _⟩ := (hT e te hte).info
      exact ⟨i, hi, by simp [elemSize, hte, hs]⟩
  cases hd : ti.desc <;> cases p <;> rw [hd] at h <;> try exact h.elim
  case str.str l =>
    obtain ⟨s, rfl, rfl⟩ := rv_str hp
    obtain ⟨hm, h⟩ := h
    rcases hmx with ⟨rfl, rfl⟩ | ⟨q, u, rfl, rfl, hu⟩
    · obtain ⟨a, ha, h⟩ := optI_elim hlo h
      obtain ⟨b, hb, h⟩ := optI_elim hhi h
      obtain ⟨⟨h0, h1, h2⟩, hk⟩ := h
      rw [cutL_eq ha hb] at hk
      rw [bytesI_length] at hb h2
      refine .pure hk ?_ (.str _ _ (bytesI_extract s _ _)) (.str _)
      simp [Instr.sliceAt, Instr.slice, run_underlying (ht.under_str hd), bounds_none ha hb false h0 h1 h2]
    · simp at hm
  case slice.ints e k l =>
    obtain ⟨hes, h⟩ := h
    rw [← hd] at hes
    obtain ⟨i, hinf, his⟩ := elem e hd (by omega)
    obtain ⟨A, cap, rfl, hlc, hnil, hl⟩ := rv_ints hp
    obtain ⟨a, ha, h⟩ := optI_elim hlo h
    obtain ⟨b, hb, h⟩ := optI_elim hhi h
    have main : ∀ c : Nat, (Instr.sliceBounds true l.length cap vlo vhi vmx).run P w = .ok (a.toNat, b.toNat, c) w → c ≤ cap → 0 ≤ a → a ≤ b → b ≤ c → b ≤ l.length → K (.ints k (cutL l lo hi)) → Yld P w ow loc n (Instr.sliceAt t (.slice A l.length cap) vlo vhi vmx) K := by
      intro c hrun hcc h0 h1 h2 h3 hk
      rw [cutL_eq ha hb] at hk
      have hlen : ((l.take b.toNat).drop a.toNat).length = b.toNat - a.toNat := by simp; omega
      refine ⟨_, hk, .slice (if c = a.toNat then A else A.map (·.add (a.toNat * i.size))) (b.toNat - a.toNat) (c - a.toNat), ?_, .data _ _ ?_, .ints _ _⟩
      · simp [Instr.sliceAt, Instr.slice, run_underlying (ht.under_slice hd), hrun, sizeOf, typeInfo, hinf]
      · have hbc : b.toNat ≤ c := by omega
        by_cases hz : b.toNat - a.toNat = 0
        · have : (l.take b.toNat).drop a.toNat = [] := List.eq_nil_of_length_eq_zero (hlen.trans hz)
          rw [this, hz]
          cases A with
          | none =>
            obtain ⟨rfl, rfl⟩ := hnil rfl
            have hc0 : c - a.toNat = 0 := by omega
            rw [hc0]
            split <;> exact .intsNil k
          | some A => split <;> exact .intsE k _ _
        · obtain ⟨bb, o, rfl, hob, hm⟩ := hl (by rintro rfl; simp at h3; omega)
          rw [if_neg (show ¬ c = a.toNat by omega)]
          simp only [Option.map_some, cell_off]
          refine .ints k _ _ bb _ _ hlen.symm (Nat.sub_le_sub_right hbc _) hob ?_
          intro j hj
          rw [hlen] at hj
          rw [getD_cut _ _ _ _ _ (by omega), his, hes, Nat.mul_one, Nat.add_assoc]
          exact hm _ (by omega)
    rcases hmx with ⟨rfl, rfl⟩ | ⟨q, u, rfl, rfl, hu⟩
    · obtain ⟨⟨h0, h1, h2⟩, hk⟩ := h
      exact main cap (bounds_none ha hb true h0 h1 (by omega)) (Nat.le_refl _) h0 h1 (by omega) h2 hk
    · cases q <;> try exact h.elim
      obtain rfl := rv_int hu
      obtain ⟨hs, ⟨h0, h1, h2, h3⟩, hk⟩ := h
      exact main _ (bounds_max ha hb hs true h0 h1 h2 (by omega)) (by omega) h0 h1 (by omega) (by omega) hk
  case slice.list e sz l =>
    obtain ⟨hpos0, hes, h⟩ := h
    rw [← hd] at hes
    obtain ⟨A, cap, rfl, hlc, hnil, hl⟩ := rv_list hp
    obtain ⟨a, ha, h⟩ := optI_elim hlo h
    obtain ⟨b, hb, h⟩ := optI_elim hhi h
    have main : ∀ c : Nat, (Instr.sliceBounds true l.length cap vlo vhi vmx).run P w = .ok (a.toNat, b.toNat, c) w → c ≤ cap → 0 ≤ a → a ≤ b → b ≤ c → b ≤ l.length → K (.list sz (cutL l lo hi)) → Yld P w ow loc n (Instr.sliceAt t (.slice A l.length cap) vlo vhi vmx) K := by
      intro c hrun hcc h0 h1 h2 h3 hk
      rw [cutL_eq ha hb] at hk
      have hlen : ((l.take b.toNat).drop a.toNat).length = b.toNat - a.toNat := by simp; omega
      obtain ⟨i, hinf, his⟩ := elem e hd (by omega)
      refine ⟨_, hk, .slice (if c = a.toNat then A else A.map (·.add (a.toNat * i.size))) (b.toNat - a.toNat) (c - a.toNat), ?_, .data _ _ ?_, .list _ _⟩
      · simp [Instr.sliceAt, Instr.slice, run_underlying (ht.under_slice hd), hrun, sizeOf, typeInfo, hinf]
      · have hbc : b.toNat ≤ c := by omega
        by_cases hz : b.toNat - a.toNat = 0
        · have : (l.take b.toNat).drop a.toNat = [] := List.eq_nil_of_length_eq_zero (hlen.trans hz)
          rw [this, hz]
          cases A with
          | none =>
            obtain ⟨rfl, rfl⟩ := hnil rfl
            have hc0 : c - a.toNat = 0 := by omega
            rw [hc0]
            split <;> exact .listNil sz
          | some A => split <;> exact .listE sz _ _
        · obtain ⟨hpos, bb, o, us, rfl, hob, hzz, hm, h1c, hdd⟩ := hl (by rintro rfl; simp at h3; omega)
          rw [if_neg (show ¬ c = a.toNat by omega)]
          simp only [Option.map_some, cell_off]
          refine .list sz _ _ bb _ _ (fun x y => us (a.toNat + x) y) hlen.symm (Nat.sub_le_sub_right hbc _) hob hpos ?_ ?_ ?_ ?_
          · intro j hj
            rw [hlen] at hj
            rw [getD_cut _ _ _ _ _ (by omega)]
            exact hzz _ (by omega)
          · intro x y hx hy
            rw [hlen] at hx
            have := hm (a.toNat + x) y (by omega) hy
            rw [his, hes, show o + a.toNat * sz + (x * sz + y) = o + ((a.toNat + x) * sz + y) by rw [Nat.add_mul]; omega]
            exact this
          · intro x y hx hy
            rw [hlen] at hx
            exact h1c _ _ (by omega) hy
          · intro x y hx hy
            rw [hlen] at hx
            rw [getD_cut _ _ _ _ _ (by omega)]
            exact hdd _ _ (by omega) hy
    rcases hmx with ⟨rfl, rfl⟩ | ⟨q, u, rfl, rfl, hu⟩
    · obtain ⟨⟨h0, h1, h2⟩, hk⟩ := h
      exact main cap (bounds_none ha hb true h0 h1 (by omega)) (Nat.le_refl _) h0 h1 (by omega) h2 hk
    · cases q <;> try exact h.elim
      obtain rfl := rv_int hu
      obtain ⟨hs, ⟨h0, h1, h2, h3⟩, hk⟩ := h
      exact main _ (bounds_max ha hb hs true h0 h1 h2 (by omega)) (by omega) h0 h1 (by omega) (by omega) hk
  case slice.nil e =>
    obtain rfl := rv_nil hp
    obtain ⟨hpos, h⟩ := h
    rw [← hd] at hpos
    obtain ⟨i, hinf, his⟩ := elem e hd hpos
    obtain ⟨a, ha, h⟩ := optI_elim hlo h
    obtain ⟨b, hb, h⟩ := optI_elim hhi h
    have main : (Instr.sliceBounds true 0 0 vlo vhi vmx).run P w = .ok (0, 0, 0) w → K .nil → Yld P w ow loc n (Instr.sliceAt t (.slice none 0 0) vlo vhi vmx) K := by
      intro hrun hk
      refine .pure hk ?_ .nil .nil
      simp [Instr.sliceAt, Instr.slice, run_underlying (ht.under_slice hd), hrun, sizeOf, typeInfo, hinf]
    rcases hmx with ⟨rfl, rfl⟩ | ⟨q, u, rfl, rfl, hu⟩
    · obtain ⟨⟨h0, h1, h2⟩, hk⟩ := h
      refine main ?_ hk
      have := bounds_none (P := P) (w := w) (len := 0) (cap := 0) ha hb true h0 h1 h2
      rwa [show a.toNat = 0 by omega, show b.toNat = 0 by omega] at this
    · cases q <;> try exact h.elim
      obtain rfl := rv_int hu
      obtain ⟨hs, ⟨h0, h1, h2, h3⟩, hk⟩ := h
      refine main ((bounds_max ha hb hs true h0 h1 h2 h3).trans ?_) hk
      simp; omega
  case slice.sl e r off len full =>
    obtain ⟨hpos, hes, h⟩ := h
    rw [← hd] at hpos hes
    obtain ⟨i, hinf, his⟩ := elem e hd hpos
    cases hrw : rows r with
    | none => rw [hrw] at hes; simp [rowSz] at hes; omega
    | some row =>
      rw [hrw] at hes h
      have hne := hrows.ne hrw
      obtain ⟨L', hL', hat⟩ := hrows.at_ r row hrw
      have hr0 : r < n := by cases hrp with | sl _ _ _ _ h => exact h
      obtain ⟨a, ha, h⟩ := optI_elim hlo h
      obtain ⟨b, hb, h⟩ := optI_elim hhi h
      have hbase : ∃ A cap, v = .slice A len cap ∧ len ≤ cap ∧ (A = none → cap = 0 ∧ L' = none) ∧ (∀ L, L' = some L → off + cap ≤ L.cap ∧ (full = true → off + cap = L.cap) ∧ (cap = 0 ∨ A = some ⟨L.b, L.o + off * L.sz, none⟩)) ∧ (∀ L, L' = some L → A ≠ none) ∧ (L' = none → A = none ∧ off = 0 ∧ len = 0) := by
        cases hp with
        | data _ _ hd => cases hd
        | dang _ _ _ _ _ _ _ hl => exact absurd hl hne
        | slnil _ _ hl =>
          rw [hL'] at hl; injection hl with hl; subst hl
          exact ⟨none, 0, rfl, Nat.le_refl _, fun _ => ⟨rfl, rfl⟩, fun L h => (by cases h), fun L h => (by cases h), fun _ => ⟨rfl, rfl, rfl⟩⟩
        | sl _ _ _ _ L A c hl hlc hc hf hA =>
          rw [hL'] at hl; injection hl with hl; subst hl
          refine ⟨some A, c, rfl, hlc, fun h => (by cases h), fun L2 h => ?_, fun L2 h => (by simp), fun h => (by cases h)⟩
          injection h with h; subst h
          exact ⟨hc, hf, hA.imp id (fun e => by rw [e])⟩
      obtain ⟨A, cap, rfl, hlc, hA0, hA, hA1, hA2⟩ := hbase
      have main : ∀ (c : Nat) (fl : Bool), (Instr.sliceBounds true len cap vlo vhi vmx).run P w = .ok (a.toNat, b.toNat, c) w → 0 ≤ a → a ≤ b → b ≤ c → c ≤ cap → (fl = true → full = true ∧ c = cap) → K (.sl r (off + a.toNat) (b - a).toNat fl) →
          Yld P w ow loc n (Instr.sliceAt t (.slice A len cap) vlo vhi vmx) K := by
        intro c fl hrun h0 h1 h2 h3 hfl hk
        refine ⟨_, hk, .slice (if c = a.toNat then A else A.map (·.add (a.toNat * i.size))) (b.toNat - a.toNat) (c - a.toNat), ?_, ?_, .sl _ _ _ _ hr0⟩
        · simp [Instr.sliceAt, Instr.slice, run_underlying (ht.under_slice hd), hrun, sizeOf, typeInfo, hinf]
        · rw [show (b - a).toNat = b.toNat - a.toNat by omega]
          cases L' with
          | none =>
            obtain ⟨rfl, rfl, rfl⟩ := hA2 rfl
            have hcap := (hA0 rfl).1
            rw [show b.toNat - a.toNat = 0 by omega, show c - a.toNat = 0 by omega, show 0 + a.toNat = 0 by omega]
            split <;> exact .slnil r fl hL'
          | some L =>
            obtain ⟨hcc, hff, hAA⟩ := hA L rfl
            have hLsz : L.sz = i.size := by
              rw [his, hes]
              obtain ⟨cur, e, fr, _, _, _, hin⟩ := hat
              cases row <;> exact hin.1
            cases A with
            | none => exact absurd rfl (hA1 L rfl)
            | some A0 =>
              have fin : ∀ A', (c - a.toNat = 0 ∨ A' = ⟨L.b, L.o + (off + a.toNat) * L.sz, none⟩) → RV w ow loc (.sl r (off + a.toNat) (b.toNat - a.toNat) fl) (.slice (some A') (b.toNat - a.toNat) (c - a.toNat)) := fun A' hA' =>
                .sl r _ _ fl L A' _ hL' (by omega) (by omega) (fun hf => by have := hfl hf; have := hff this.1; omega) hA'
              by_cases hca : c = a.toNat
              · rw [if_pos hca]; exact fin A0 (.inl (by omega))
              · rw [if_neg hca]
                have hcap : cap ≠ 0 := by omega
                have hA0' := hAA.resolve_left hcap
                injection hA0' with hA0'
                subst hA0'
                simp only [Option.map_some, cell_off]
                refine fin _ (.inr ?_)
                rw [← hLsz, Nat.add_mul, Nat.add_assoc]
      rcases hmx with ⟨rfl, rfl⟩ | ⟨q, u, rfl, rfl, hu⟩
      · obtain ⟨⟨h0, h1, h2⟩, hk⟩ := h
        have hbc : b ≤ cap := by
          rcases h2 with h2 | ⟨hf, h2⟩
          · omega
          · cases L' with
            | none =>
              obtain ⟨rfl, rfl, rfl⟩ := hA2 rfl
              cases row <;> simp [RowAt] at hat <;> subst hat <;> simp [rowLen] at h2 <;> omega
            | some L =>
              have h3 := (hA L rfl).2.1 hf
              have : rowLen (some row) ≤ L.cap := by
                obtain ⟨cur, e, fr, _, _, _, hin⟩ := hat
                cases row with
                | ints k l => exact hin.2.1
                | list sz l => exact hin.2.2.1
                | var l => simp only [rowLen]; exact Nat.le_of_eq hin.2.1.symm
              omega
        exact main cap full (bounds_none ha hb true h0 h1 hbc) h0 h1 hbc (Nat.le_refl _) (fun h => ⟨h, rfl⟩) hk
      · cases q <;> try exact h.elim
        obtain rfl := rv_int hu
        obtain ⟨hs, ⟨h0, h1, h2, h3⟩, hk⟩ := h
        exact main _ false (bounds_max ha hb hs true h0 h1 h2 (by omega)) h0 h1 (by omega) (by omega) (fun h => by cases h) hk
end
end Go.PV
set_option linter.unusedVariables false
set_option linter.unusedSimpArgs false
namespace Go.PV
open Go Go.RowKit
section
variable {P : Program} {w : World} {ow : Nat → Prop} {loc : Locs} {n : Nat} {tt : Tab} {rows : Nat → Option Row}
theorem refs_ptr {r i j : Nat} (h : Refs n (.ptr r i j)) : r < n := by cases h; assumption
theorem refs_sl {r off len : Nat} {full : Bool} (h : Refs n (.sl r off len full)) : r < n := by cases h; assumption
theorem refs_agg {l : List PV} (h : Refs n (.agg l)) : ∀ i, i < l.length → Refs n (l.getD i .undef) := by cases h; assumption
theorem refs_tup {l : List PV} (h : Refs n (.tup l)) : ∀ i, i < l.length → Refs n (l.getD i .undef) := by cases h; assumption
theorem refs_cells {p : PV} (hk : known p = true) (h : Refs n p) : ∀ i, i < (cellsOf p).length → Refs n ((cellsOf p).getD i .undef) := by
  cases p with
  | agg l => exact refs_agg h
  | tup => simp [known] at hk
  | undef => simp [known] at hk
  | _ =>
    all_goals
      intro j hj
      have : j = 0 := by simpa [cellsOf] using hj
      subst this
      exact h
theorem sizeT_info {t : TypeId} (h : sizeT P t ≠ 0) : (∃ d, P.underlying t = some d) ∧ ∃ i, P.info? t = some i ∧ i.size = sizeT P t := by
  unfold sizeT at h ⊢
  cases hu : P.underlying t with
  | none => rw [hu] at h; simp at h
  | some d =>
    rw [hu] at h
    simp only [Option.isSome_some, cond_true] at h ⊢
    refine ⟨⟨d, rfl⟩, ?_⟩
    unfold Program.cellsOf at h ⊢
    cases hi : P.info? t with
    | none => rw [hi] at h; simp at h
    | some i => exact ⟨i, rfl, by simp⟩
theorem field_of {t : TypeId} {ti : TI} (ht : TIOk P t ti) {fs : List (Nat × Nat × Bool)} (hd : ti.desc = .struct fs) {f off sz : Nat} {ag : Bool} (hf : fs[f]? = some (off, sz, ag)) :
    ∃ fields fl, P.underlying t = some (.struct fields) ∧ fields[f]? = some fl ∧ fl.offset = off ∧ sizeT P fl.type = sz ∧ isAggT P fl.type = ag := by
  obtain ⟨fields, hu, he⟩ := ht.under_struct hd
  subst he
  rw [List.getElem?_map] at hf
  cases hfl : fields.toList[f]? with
  | none => rw [hfl] at hf; simp at hf
  | some fl =>
    rw [hfl] at hf
    simp only [Option.map_some, Option.some.injEq, Prod.mk.injEq] at hf
    exact ⟨fields, fl, hu, by rwa [Array.getElem?_toList] at hfl, hf.1, hf.2.1, hf.2.2⟩
theorem fieldAddr_sound {s : TypeId} {ti : TI} (ht : TIOk P s ti) {fs : List (Nat × Nat × Bool)} (hd : ti.desc = .struct fs) {f off sz : Nat} {ag : Bool} (hf : fs[f]? = some (off, sz, ag)) (hsz : sz ≠ 0)
    {p : PV} {v : Value} {K : PV → Prop} (hp : RV w ow loc p v) (hr : Refs n p) (h : fieldAddrW off p K) :
    Yld P w ow loc n (Instr.fieldAt s v f) K := by
  obtain ⟨fields, fl, hu, hfl, ho, hs, _⟩ := field_of ht hd hf
  obtain ⟨_, i, hi, his⟩ := sizeT_info (P := P) (t := fl.type) (by rw [hs]; exact hsz)
  have run : ∀ a : Addr, (Instr.fieldAt s (.pointer (some a)) f).run P w = .ok (.pointer (some (a.add off))) w := fun a => by
    have hne : ¬ sizeT P fl.type = 0 := by rw [hs]; exact hsz
    simp [Instr.fieldAt, run_underlying hu, hfl, Instr.sureAddr, fieldPlace, sizeOf, typeInfo, hi, his, hne, ho]
  cases p <;> try exact h.elim
  · rename_i r i' j
    cases hp with
    | data _ _ hd => cases hd
    | dangp _ _ _ a hl =>
      refine ⟨_, h, _, run a, ?_, ?_⟩
      · exact .dangp _ _ _ _ hl
      · exact .ptr _ _ _ (refs_ptr hr)
    | ptr _ _ _ L hl =>
      refine ⟨_, h, _, run _, ?_, ?_⟩
      · rw [cell_off, Nat.add_assoc]; exact .ptr _ _ _ L hl
      · exact .ptr _ _ _ (refs_ptr hr)
  · rename_i q j
    cases hp with
    | data _ _ hd => cases hd
    | rptr _ _ b o us hob hm h1 hdd h0 =>
      refine ⟨_, h, _, run _, ?_, .rptr _ _⟩
      rw [cell_off, Nat.add_assoc]; exact .rptr q (j + off) b o us hob hm h1 hdd h0
theorem run_isAggT {t : TypeId} {d : TypeDesc} (hu : P.underlying t = some d) : (isAgg t).run P w = .ok (isAggT P t) w := by
  cases d <;> simp [isAgg, run_underlying hu, isAggT, hu]
theorem part_agg {l : List PV} {vs : Array Value} (hl : l.length = vs.size) (h1 : ∀ u ∈ vs.toList, u.oneCell' = true) (hd : ∀ i, i < l.length → RV w ow loc (l.getD i .undef) (vs.getD i undef)) {off sz : Nat} (hle : off + sz ≤ l.length) :
    RV w ow loc (.agg ((l.drop off).take sz)) (.agg (vs.extract off (off + sz))) := by
  have hlen : ((l.drop off).take sz).length = sz := by simp; omega
  refine .agg _ _ ?_ ?_ ?_
  · rw [hlen, Array.size_extract]; omega
  · intro u hu
    refine h1 u ?_
    rw [Array.toList_extract, List.extract_eq_take_drop] at hu
    exact List.mem_of_mem_drop (List.mem_of_mem_take hu)
  · intro i hi
    rw [hlen] at hi
    have e1 : ((l.drop off).take sz).getD i .undef = l.getD (off + i) .undef := by simp [List.getD, hi]
    have e2 : (vs.extract off (off + sz)).getD i undef = vs.getD (off + i) undef := by
      rw [Array.getD_eq_getD_getElem?, Array.getD_eq_getD_getElem?, Array.getElem?_extract, if_pos (by omega)]
    rw [e1, e2]; exact hd _ (by omega)
theorem field_sound {s : TypeId} {ti : TI} (ht : TIOk P s ti) {fs : List (Nat × Nat × Bool)} (hd : ti.desc = .struct fs) {f off sz : Nat} {ag : Bool} (hf : fs[f]? = some (off, sz, ag)) (hsz : sz ≠ 0)
    {l : List PV} {v : Value} {K : PV → Prop} (hp : RV w ow loc (.agg l) v) (hr : Refs n (.agg l)) (h : partW ag sz l off K) : Yld P w ow loc n (Instr.field s v f) K := by
  obtain ⟨fields, fl, hu, hfl, ho, hs, ha⟩ := field_of ht hd hf
  obtain ⟨⟨d, hdu⟩, i, hi, his⟩ := sizeT_info (P := P) (t := fl.type) (by rw [hs]; exact hsz)
  obtain ⟨vs, rfl, hl, h1, hv⟩ := rv_agg hp
  have hrl : ∀ i, i < l.length → Refs n (l.getD i .undef) := by cases hr with | agg _ h => exact h
  cases ag with
  | true =>
    obtain ⟨hle, hk⟩ := h
    refine ⟨_, hk, _, ?_, part_agg hl h1 hv hle, .agg _ fun i hi => ?_⟩
    · simp [Instr.field, run_underlying hu, hfl, asAgg, part, run_isAggT hdu, ha, ho, sizeOf, typeInfo, hi, his, hs]
    · have hlen : ((l.drop off).take sz).length = sz := by simp; omega
      rw [hlen] at hi
      have e1 : ((l.drop off).take sz).getD i .undef = l.getD (off + i) .undef := by simp [List.getD, hi]
      rw [e1]; exact hrl _ (by omega)
  | false =>
    obtain ⟨hlt, hk⟩ := h
    have hlt' : off < vs.size := hl ▸ hlt
    refine ⟨_, hk, vs.getD off undef, ?_, hv _ hlt, hrl _ hlt⟩
    simp [Instr.field, run_underlying hu, hfl, asAgg, part, run_isAggT hdu, ha, ho, hlt', Array.getD]
-- structs built
theorem run_mapM_list {α β : Type} (f : α → Sem β) (g : α → β) : ∀ (l : List α), (∀ x ∈ l, (f x).run P w = .ok (g x) w) → (l.mapM f).run P w = .ok (l.map g) w
  | [], _ => by simp
  | x :: l, h => by
    have := run_mapM_list f g l fun y hy => h y (by simp [hy])
    simp [List.mapM_cons, h x (by simp), this]
theorem setL_length (l : List PV) (off : Nat) (cs : List PV) : (setL l off cs).length = l.length := by
  induction cs generalizing l off with
  | nil => rfl
  | cons c cs ih => simp [setL, ih]
theorem fill_cells {l : List PV} {vs : Array Value} (hl : l.length = vs.size) (h1 : ∀ i, i < vs.size → (vs.getD i undef).oneCell' = true) (hd : ∀ i, i < l.length → RV w ow loc (l.getD i .undef) (vs.getD i undef)) (hr : ∀ i, i < l.length → Refs n (l.getD i .undef)) :
    ∀ (cs : List PV) (us : List Value) (k off : Nat), cs.length = us.length → off + k + cs.length ≤ l.length → (∀ i, i < cs.length → RV w ow loc (cs.getD i .undef) (us.getD i undef) ∧ (us.getD i undef).oneCell' = true ∧ Refs n (cs.getD i .undef)) →
      ∃ vs', (us.zipIdx k).foldl (fun (a : Array Value) (x : Value × Nat) => a.setIfInBounds (off + x.2) x.1) vs = vs' ∧ (setL l (off + k) cs).length = vs'.size ∧ (∀ i, i < vs'.size → (vs'.getD i undef).oneCell' = true) ∧
        (∀ i, i < l.length → RV w ow loc ((setL l (off + k) cs).getD i .undef) (vs'.getD i undef)) ∧ ∀ i, i < l.length → Refs n ((setL l (off + k) cs).getD i .undef) := by
  intro cs
  induction cs generalizing l vs with
  | nil =>
    intro us k off hlen _ _
    have : us = [] := List.eq_nil_of_length_eq_zero hlen.symm
    subst this
    exact ⟨vs, rfl, hl, h1, hd, hr⟩
  | cons c cs ih =>
    intro us k off hlen hle hc
    cases us with
    | nil => simp at hlen
    | cons u us =>
      have hc0 := hc 0 (by simp)
      simp only [List.getD_cons_zero] at hc0
      have hlt : off + k < l.length := by simp at hle; omega
      have hget : ∀ i, (l.set (off + k) c).getD i .undef = if off + k = i then c else l.getD i .undef := fun i => by
        simp only [List.getD, List.getElem?_set]
        by_cases hi : off + k = i
        · subst hi; simp [hlt]
        · simp [hi]
      have hgetv : ∀ i, (vs.setIfInBounds (off + k) u).getD i undef = if off + k = i then u else vs.getD i undef := fun i => by
        simp only [Array.getD_eq_getD_getElem?, Array.getElem?_setIfInBounds]
        by_cases hi : off + k = i
        · subst hi; simp [← hl, hlt]
        · simp [hi]
      obtain ⟨vs', e, h⟩ := ih (l := l.set (off + k) c) (vs := vs.setIfInBounds (off + k) u) (by simp [hl])
        (fun i hi => by rw [hgetv]; split; exact hc0.2.1; exact h1 i (by simpa using hi))
        (fun i hi => by rw [hget, hgetv]; split; exact hc0.1; exact hd i (by simpa using hi))
        (fun i hi => by rw [hget]; split; exact hc0.2.2; exact hr i (by simpa using hi))
        us (k + 1) off (by simpa using hlen) (by simp at hle ⊢; omega) (fun i hi => by have := hc (i + 1) (by simpa using hi); simpa using this)
      refine ⟨vs', ?_, ?_⟩
      · simpa [List.zipIdx_cons] using e
      · rw [List.length_set] at h
        exact h
theorem fill_sound {place : Nat → Option (Nat × Nat)} {fs : List (Nat × Nat × Bool)} (hpl : ∀ i off sz ag, fs[i]? = some (off, sz, ag) → place i = some (off, sz)) :
    ∀ (parts : List (Nat × PV)) (vals : List (Nat × Value)) (l : List PV) (vs : Array Value) (K : List PV → Prop),
      parts.length = vals.length → (∀ i, i < parts.length → (parts.getD i (0, .undef)).1 = (vals.getD i (0, undef)).1 ∧ RV w ow loc (parts.getD i (0, .undef)).2 (vals.getD i (0, undef)).2 ∧ Refs n (parts.getD i (0, .undef)).2) →
      l.length = vs.size → (∀ i, i < vs.size → (vs.getD i undef).oneCell' = true) → (∀ i, i < l.length → RV w ow loc (l.getD i .undef) (vs.getD i undef)) → (∀ i, i < l.length → Refs n (l.getD i .undef)) → fillW fs l K parts →
      ∃ l' vs', K l' ∧ Instr.fill place vs vals = some vs' ∧ l'.length = vs'.size ∧ (∀ i, i < vs'.size → (vs'.getD i undef).oneCell' = true) ∧ (∀ i, i < l'.length → RV w ow loc (l'.getD i .undef) (vs'.getD i undef)) ∧ ∀ i, i < l'.length → Refs n (l'.getD i .undef) := by
  intro parts
  induction parts with
  | nil =>
    intro vals l vs K hlen _ hl h1 hd hr h
    have : vals = [] := List.eq_nil_of_length_eq_zero hlen.symm
    subst this
    exact ⟨l, vs, h, rfl, hl, h1, hd, hr⟩
  | cons x parts ih =>
    intro vals l vs K hlen hv hl h1 hd hr h
    cases vals with
    | nil => simp at hlen
    | cons y vals =>
      obtain ⟨i, p⟩ := x
      obtain ⟨i', v⟩ := y
      have h0 := hv 0 (by simp)
      simp only [List.getD_cons_zero] at h0
      obtain ⟨rfl, hpv, hpr⟩ := h0
      simp only [fillW] at h
      cases hf : fs[i]? with
      | none => rw [hf] at h; exact h.elim
      | some y =>
        obtain ⟨off, sz, ag⟩ := y
        rw [hf] at h
        obtain ⟨hk, hsz, hle, h⟩ := h
        obtain ⟨hcl, hcc⟩ := rv_cells hpv hk
        have hrc := refs_cells hk hpr
        obtain ⟨vs', e, e1, e2, e3, e4⟩ := fill_cells (n := n) hl h1 hd hr (cellsOf p) v.cells.toList 0 off (by simpa using hcl) (by omega) (fun j hj => by
          have := hcc j hj
          refine ⟨?_, ?_, hrc j hj⟩
          · have e : v.cells.toList.getD j undef = v.cells.getD j undef := by rw [Array.getD_eq_getD_getElem?, ← Array.getElem?_toList]; rfl
            rw [e]; exact this.1
          · have e : v.cells.toList.getD j undef = v.cells.getD j undef := by rw [Array.getD_eq_getD_getElem?, ← Array.getElem?_toList]; rfl
            rw [e]; exact this.2)
        have hlen' := setL_length l (off + 0) (cellsOf p)
        obtain ⟨l', vs'', hK, hfill, rest⟩ := ih vals (setL l (off + 0) (cellsOf p)) vs' K (by simpa using hlen) (fun j hj => by have := hv (j + 1) (by simpa using hj); simpa using this) e1 e2
          (fun j hj => e3 j (by omega)) (fun j hj => e4 j (by omega)) h
        refine ⟨l', vs'', hK, ?_, rest⟩
        have e' : v.cells.zipIdx.foldl (fun cs (x : Value × Nat) => cs.setIfInBounds (off + x.2) x.1) vs = vs' := by
          rw [← Array.foldl_toList]
          simpa using e
        have hc1 : ¬ (v.cells.size ≠ sz) := by simp; omega
        have hc2 : ¬ (vs.size < off + v.cells.size) := by omega
        simp only [Instr.fill, hpl i off sz ag hf]
        have hcond : (decide (v.cells.size ≠ sz) || decide (off + v.cells.size > vs.size)) = false := by simp; omega
        simp only [hcond, Bool.false_eq_true, if_false]
        rw [← hfill]
        congr 1
theorem build_sound {t : TypeId} {ti : TI} (ht : TIOk P t ti) {fs : List (Nat × Nat × Bool)} (hd : ti.desc = .struct fs) {zl : List PV} (hz : toPV ti.z = .agg zl) (hall : fs.all (fun f => f.2.1 != 0) = true)
    {parts : List (Nat × PV)} {vals : Array (Nat × Value)} {K : PV → Prop} (hlen : parts.length = vals.toList.length)
    (hv : ∀ i, i < parts.length → (parts.getD i (0, .undef)).1 = (vals.toList.getD i (0, undef)).1 ∧ RV w ow loc (parts.getD i (0, .undef)).2 (vals.toList.getD i (0, undef)).2 ∧ Refs n (parts.getD i (0, .undef)).2)
    (h : fillW fs zl (fun l => K (.agg l)) parts) : Yld P w ow loc n (Instr.build t vals) K := by
  obtain ⟨fields, hu, he⟩ := ht.under_struct hd
  obtain ⟨i, hi, hzz, hs, hb⟩ := ht.info
  have hzv : RV w ow loc (toPV ti.z) ti.z := .data _ _ (toPV_ok w ow _)
  rw [hz] at hzv
  obtain ⟨vs, hze, hl, h1, hdv⟩ := rv_agg hzv
  have hzr : ∀ i, i < zl.length → Refs n (zl.getD i .undef) := by
    have := toPV_refs n ti.z
    rw [hz] at this
    cases this with | agg _ h => exact h
  have hplaces : (fields.mapM (fun (f : Field) => (Prod.mk f.offset <$> sizeOf f.type : Sem (Nat × Nat)))).run P w = .ok (fields.map fun f => (f.offset, sizeT P f.type)) w := by
    have hl' := run_mapM_list (P := P) (w := w) (fun f : Field => (Prod.mk f.offset <$> sizeOf f.type : Sem (Nat × Nat))) (fun f => (f.offset, sizeT P f.type)) fields.toList (fun f hf => by
      have hne : sizeT P f.type ≠ 0 := by
        rw [← he, List.all_map, List.all_eq_true] at hall
        simpa using hall f hf
      obtain ⟨_, i, hi, his⟩ := sizeT_info hne
      simp [sizeOf, typeInfo, hi, his])
    rw [Array.mapM_eq_mapM_toList]
    simp only [Sem.run_map, hl', Result.andThen_ok]
    congr 1
    exact Array.ext' (by simp)
  obtain ⟨l', vs', hK, hfill, hl2, h12, hd2, hr2⟩ := fill_sound (w := w) (ow := ow) (loc := loc) (n := n) (place := fun x => Option.map (fun f : Field => (f.offset, sizeT P f.type)) fields[x]?) (fs := fs) (fun j off sz ag hf => by
      rw [← he, List.getElem?_map] at hf
      cases hfl : fields.toList[j]? with
      | none => rw [hfl] at hf; simp at hf
      | some fl =>
        rw [hfl] at hf
        simp only [Option.map_some, Option.some.injEq, Prod.mk.injEq] at hf
        rw [Array.getElem?_toList] at hfl
        simp [hfl, hf.1, hf.2.1]) parts vals.toList zl vs _ hlen hv hl
    (fun j hj => h1 _ (by simp [Array.getD, hj])) hdv hzr h
  refine ⟨_, hK, .agg vs', ?_, .agg _ _ hl2 ?_ hd2, .agg _ hr2⟩
  · simp [Instr.build, zeroValue, typeInfo, hi, hzz, hze, Value.cells, run_underlying hu, hplaces, hfill]
  · intro u hu
    obtain ⟨j, hj, rfl⟩ := List.getElem_of_mem hu
    have := h12 j (by simpa using hj)
    simp only [Array.length_toList] at hj
    simpa [Array.getD, hj] using this
theorem build_arr {t : TypeId} {ti : TI} (ht : TIOk P t ti) {m : Nat} {el : TypeId} {f0 : Nat × Nat × Bool} {fs : List (Nat × Nat × Bool)} (hd : ti.desc = .arr m el (f0 :: fs)) {zl : List PV} (hz : toPV ti.z = .agg zl) (hall : (f0 :: fs).all (fun f => f.2.1 != 0) = true)
    {parts : List (Nat × PV)} {vals : Array (Nat × Value)} {K : PV → Prop} (hlen : parts.length = vals.toList.length)
    (hv : ∀ i, i < parts.length → (parts.getD i (0, .undef)).1 = (vals.toList.getD i (0, undef)).1 ∧ RV w ow loc (parts.getD i (0, .undef)).2 (vals.toList.getD i (0, undef)).2 ∧ Refs n (parts.getD i (0, .undef)).2)
    (h : fillW (f0 :: fs) zl (fun l => K (.agg l)) parts) : Yld P w ow loc n (Instr.build t vals) K := by
  obtain ⟨hu, he⟩ := ht.under_arr hd
  obtain ⟨i, hi, hzz, hs, hb⟩ := ht.info
  have hzv : RV w ow loc (toPV ti.z) ti.z := .data _ _ (toPV_ok w ow _)
  rw [hz] at hzv
  obtain ⟨vs, hze, hl, h1, hdv⟩ := rv_agg hzv
  have hzr : ∀ i, i < zl.length → Refs n (zl.getD i .undef) := by
    have := toPV_refs n ti.z
    rw [hz] at this
    cases this with | agg _ h => exact h
  have hne : sizeT P el ≠ 0 := by
    cases m with
    | zero => cases he
    | succ m =>
      rw [← he, List.all_map, List.all_eq_true] at hall
      have := hall 0 (List.mem_range.2 (Nat.succ_pos m))
      simpa using this
  obtain ⟨_, i2, hi2, his2⟩ := sizeT_info hne
  obtain ⟨l', vs', hK, hfill, hl2, h12, hd2, hr2⟩ := fill_sound (w := w) (ow := ow) (loc := loc) (n := n) (place := fun x => some (x * sizeT P el, sizeT P el)) (fs := f0 :: fs) (fun j off sz ag hf => by
      rw [← he, List.getElem?_map] at hf
      cases hfl : (List.range m)[j]? with
      | none => rw [hfl] at hf; simp at hf
      | some x =>
        rw [hfl] at hf
        simp only [Option.map_some, Option.some.injEq, Prod.mk.injEq] at hf
        obtain ⟨hlt, e⟩ := List.getElem?_eq_some_iff.1 hfl
        rw [List.getElem_range] at e
        subst e
        rw [hf.1, hf.2.1]) parts vals.toList zl vs _ hlen hv hl
    (fun j hj => h1 _ (by simp [Array.getD, hj])) hdv hzr h
  refine ⟨_, hK, .agg vs', ?_, .agg _ _ hl2 ?_ hd2, .agg _ hr2⟩
  · simp [Instr.build, zeroValue, typeInfo, hi, hzz, hze, Value.cells, run_underlying hu, sizeOf, hi2, his2, hfill]
  · intro u hu
    obtain ⟨j, hj, rfl⟩ := List.getElem_of_mem hu
    have := h12 j (by simpa using hj)
    simp only [Array.length_toList] at hj
    simpa [Array.getD, hj] using this
-- conversions
theorem bytesI_strOf (l : List Int) : bytesI (strOfNums l) = l.map byteOf := by
  unfold bytesI strOfNums byteOf
  simp only [List.map_map]
  apply List.map_congr_left
  intro n _
  simp
theorem conv_bytes {src dst e : TypeId} (hs : P.underlying src = some (.slice e)) (he : P.underlying e = some (.int .u8)) (hd : P.underlying dst = some .string) (a : Option Addr) (b o cap : Nat) (l : List Int)
    (hm : ∀ i, i < l.length → w.cell? ⟨b, o + i, none⟩ = some (.int .u8 (l.getD i 0))) (ha : l ≠ [] → a = some ⟨b, o, none⟩) (hn : a = none → cap = 0) :
    (convert src dst (.slice a l.length cap)).run P w = .ok (.string (strOfNums l)) w := by
  cases l with
  | nil =>
    cases a with
    | none =>
      obtain rfl := hn rfl
      exact run_convert_bytes_nil w src e hs he 0 0 dst hd
    | some a =>
      rw [run_convert_bytes_string w src dst e _ _ cap hs he hd]
      exact run_bytesToString w a 0 cap [] (by simp [loadCells, loadCellsFrom])
  | cons x l =>
    obtain rfl := ha (by simp)
    exact run_convert_bytes_arg w src e hs he b o _ cap (x :: l) rfl hm dst hd
theorem strOf_sound {src dst e : TypeId} (hs : P.underlying src = some (.slice e)) (he : P.underlying e = some (.int .u8)) (hd : P.underlying dst = some .string) (hrows : RowsOk w ow loc n rows) {p : PV} {v : Value} {K : PV → Prop}
    (hp : RV w ow loc p v) (h : strOf rows p K) : Yld P w ow loc n (convert src dst v) K := by
  unfold strOf at h
  split at h
  · rename_i k l
    obtain ⟨rfl, hk⟩ := h
    obtain ⟨a, cap, rfl, hc, hn, hl⟩ := rv_ints hp
    refine .pure hk ?_ (.str _ _ (bytesI_strOf l)) (.str _)
    by_cases hne : l = []
    · subst hne
      exact conv_bytes (w := w) hs he hd a 0 0 cap [] (fun i hi => by simp at hi) (fun h => absurd rfl h) (fun h => (hn h).2)
    · obtain ⟨b, o, rfl, _, hm⟩ := hl hne
      exact conv_bytes hs he hd _ b o cap l hm (fun _ => rfl) (fun h => by cases h)
  · obtain rfl := rv_nil hp
    refine .pure h ?_ (.str _ _ (bytesI_strOf [])) (.str _)
    exact conv_bytes (w := w) hs he hd none 0 0 0 [] (fun i hi => by simp at hi) (fun h => absurd rfl h) (fun _ => rfl)
  · rename_i r off len full
    cases hrw : rows r with
    | none => rw [hrw] at h; exact h.elim
    | some row =>
      rw [hrw] at h
      cases row with
      | list => exact h.elim
      | var => exact h.elim
      | ints k l =>
        obtain ⟨rfl, hle, hk⟩ := h
        obtain ⟨L', hL', hat⟩ := hrows.at_ r _ hrw
        have hlen : ((l.drop off).take len).length = len := by simp; omega
        refine .pure hk ?_ (.str _ _ (bytesI_strOf _)) (.str _)
        cases hp with
        | data _ _ hd => cases hd
        | dang _ _ _ _ a m c hl => exact absurd hl (hrows.ne hrw)
        | slnil _ _ hl =>
          rw [hL'] at hl; injection hl with hl; subst hl
          have : l = [] := hat
          subst this
          exact conv_bytes (w := w) hs he hd none 0 0 0 [] (fun i hi => by simp at hi) (fun h => absurd rfl h) (fun _ => rfl)
        | sl _ _ _ _ L a c hl hlc hc hf ha =>
          rw [hL'] at hl; injection hl with hl; subst hl
          obtain ⟨cur, el, fr, hb, hsz, hfr, hs1, hlc', hcell⟩ := hat
          have := conv_bytes (w := w) hs he hd (some a) L.b (L.o + off * L.sz) c ((l.drop off).take len) ?_ ?_ (fun h => by cases h)
          · rwa [hlen] at this
          · intro i hi
            rw [hlen] at hi
            rw [cell_of_row' hb, hs1, Nat.mul_one, Nat.add_assoc, hcell _ (by omega)]
            simp [List.getD, hi]
          · intro hne
            rw [ha.resolve_left (by rintro rfl; exact hne (by rw [← List.length_eq_zero_iff, hlen]; omega))]
  · exact h.elim
theorem conv_sound (hT : TabOk P tt) (hrows : RowsOk w ow loc n rows) {src dst : TypeId} {p : PV} {v : Value} {K : PV → Prop} (hp : RV w ow loc p v) (h : convW tt rows src dst p K) :
    Yld P w ow loc n (convert src dst v) K := by
  unfold convW at h
  cases hs : tt src with
  | none => rw [hs] at h; exact h.elim
  | some s =>
    cases hdd : tt dst with
    | none => rw [hs, hdd] at h; exact h.elim
    | some d =>
      rw [hs, hdd] at h
      simp only at h
      obtain ⟨sd, hsu, hsd⟩ := (hT _ _ hs).ex
      have hstr : d.desc = .str → (match s.desc with
          | .slice e => match tt e with
            | some te => match te.desc with
              | .int .u8 => strOf rows p K
              | _ => False
            | none => False
          | _ => False) → Yld P w ow loc n (convert src dst v) K := by
        intro hd h
        split at h
        · rename_i e he
          cases hte : tt e with
          | none => rw [hte] at h; exact h.elim
          | some te =>
            rw [hte] at h
            simp only at h
            split at h
            · rename_i hu8
              exact strOf_sound ((hT _ _ hs).under_slice he) ((hT _ _ hte).under_int hu8) ((hT _ _ hdd).under_str hd) hrows hp h
            · exact h.elim
        · exact h.elim
      cases hd : d.desc <;> rw [hd] at h <;> try exact h.elim
      case int k' =>
        cases p <;> try exact h.elim
        rename_i k m
        obtain rfl := rv_int hp
        refine .pure h ?_ (.int _ _) (.int _ _)
        simp [convert, run_underlying hsu, run_underlying ((hT _ _ hdd).under_int hd), Conv.intToInt]
      case str =>
        cases p <;> try exact hstr hd h
        rename_i l
        obtain ⟨x, rfl, rfl⟩ := rv_str hp
        refine .pure h.2 ?_ (.str _ _ rfl) (.str _)
        have hns := h.1
        rw [← hsd] at hns
        cases sd <;> simp [convert, run_underlying hsu, run_underlying ((hT _ _ hdd).under_str hd)]
end
section
variable {P : Program} {w : World} {ow : Nat → Prop} {loc : Locs} {n : Nat} {tt : Tab} {rows : Nat → Option Row} {a : Act} {get : Nat → PV}
theorem ev_ok (hv : ∀ t, RV w ow loc (get t) (a.tmps.getD t undef)) (x : Operand) : RV w ow loc (ev get x) (a.eval x) := by
  cases x with
  | tmp t => exact hv t
  | const v => exact .data _ _ (toPV_ok w ow v)
  | global g => exact .data _ _ (.undef _)
  | func f => exact .data _ _ (.undef _)
theorem ev_refs (hr : ∀ t, Refs n (get t)) (x : Operand) : Refs n (ev get x) := by
  cases x with
  | tmp t => exact hr t
  | const v => exact toPV_refs n v
  | global g => exact .undef
  | func f => exact .undef
theorem ov_ok (hv : ∀ t, RV w ow loc (get t) (a.tmps.getD t undef)) (x : Option Operand) : OV w ow loc (x.map (ev get)) (x.map a.eval) := by
  cases x with
  | none => exact .inl ⟨rfl, rfl⟩
  | some x => exact .inr ⟨_, _, rfl, rfl, ev_ok hv x⟩
def Gives (P : Program) (w : World) (ow : Nat → Prop) (loc : Locs) (n : Nat) (a : Act) (o : Oper) (K : PV → Prop) : Prop :=
  ∃ q, K q ∧ ∃ cv, (execOp a.eval o).run P w = .ok (.value cv) w ∧ RV w ow loc q cv ∧ Refs n q
theorem gives_of {o : Oper} {K : PV → Prop} {s : Sem Value} (hy : Yld P w ow loc n s K) (he : execOp a.eval o = (do pure (.value (← s)))) : Gives P w ow loc n a o K := by
  obtain ⟨q, hk, cv, hrun, hv, hr⟩ := hy
  exact ⟨q, hk, cv, by rw [he]; simp [hrun], hv, hr⟩
theorem nil_sound {o : Oper} {x : Operand} {p : PV} {K : PV → Prop} (hop : o.op = .nilCheck x) (hp : RV w ow loc p (a.eval x)) (hr : Refs n p) (h : nilCheckW p K) : Gives P w ow loc n a o K := by
  cases p <;> try exact h.elim
  all_goals
    refine ⟨_, h, a.eval x, ?_, hp, hr⟩
    have key : ∃ b, a.eval x = .pointer (some b) := by
      generalize a.eval x = v at hp
      cases hp with
      | data _ _ hd => cases hd
      | _ => exact ⟨_, rfl⟩
    obtain ⟨b, hb⟩ := key
    simp [execOp, hop, hb]
theorem qw_sound (hT : TabOk P tt) (hrows : RowsOk w ow loc n rows) (hv : ∀ t, RV w ow loc (get t) (a.tmps.getD t undef)) (hr : ∀ t, Refs n (get t)) {o : Oper} {K : PV → Prop}
    (h : qw tt rows (ev get) o.op K) : Gives P w ow loc n a o K := by
  have V := fun x => ev_ok (w := w) (ow := ow) (loc := loc) hv x
  have R := fun x => ev_refs (n := n) hr x
  have O := fun x => ov_ok (w := w) (ow := ow) (loc := loc) hv x
  cases hop : o.op <;> rw [hop] at h <;> try exact h.elim
  case move x => exact ⟨_, h, a.eval x, by simp [execOp, hop], V x, R x⟩
  case assign x => exact ⟨_, h, a.eval x, by simp [execOp, hop], V x, R x⟩
  case pick c x y =>
    simp only [qw] at h
    have hc := V c
    split at h
    · rename_i t ht
      rw [ht] at hc
      have hc' := rv_bool hc
      cases t
      · exact ⟨_, h, a.eval y, by simp [execOp, hop, hc', asBool], V y, R y⟩
      · exact ⟨_, h, a.eval x, by simp [execOp, hop, hc', asBool], V x, R x⟩
    · exact h.elim
  case load t x =>
    simp only [qw] at h
    split at h
    · rename_i ti ht
      exact gives_of (load_sound (hT _ _ ht) h.1 hrows (V x) h.2) (by simp [execOp, hop])
    · exact h.elim
  case nilCheck x => exact nil_sound hop (V x) (R x) h
  case binOp op t x y t' =>
    simp only [qw, binT] at h
    split at h
    · rename_i a ha
      split at h
      · rename_i b hb
        have hx := V x
        have hy := V y
        have ea : ev get x = .bool a := by
          cases hp : ev get x <;> rw [hp] at ha <;> simp only [asB] at ha <;> first | (cases ha; rfl) | cases ha
        have eb : ev get y = .bool b := by
          cases hp : ev get y <;> rw [hp] at hb <;> simp only [asB] at hb <;> first | (cases hb; rfl) | cases hb
        rw [ea] at hx
        rw [eb] at hy
        have ub : boolT tt t = true → P.underlying t = some .bool := fun hbt => by
          unfold boolT at hbt
          split at hbt
          · rename_i ti hti
            split at hbt
            · rename_i hd
              exact (hT _ _ hti).under_bool hd
            · cases hbt
          · cases hbt
        refine gives_of (bool_sound (t := t) (x := x) (y := y) (op := op) hx hy ?_) (by simp [execOp, hop])
        split at h
        · exact ⟨ub h.1, h.2⟩
        · exact ⟨ub h.1, h.2⟩
        · exact h.elim
      · exact h.elim
    · split at h
      · rename_i la hla
        split at h
        · rename_i lb hlb
          have hx := V x
          have hy := V y
          have ea : ev get x = .agg la := by
            cases hp : ev get x <;> rw [hp] at hla <;> simp only [asA] at hla <;> first | (cases hla; rfl) | cases hla
          have eb : ev get y = .agg lb := by
            cases hp : ev get y <;> rw [hp] at hlb <;> simp only [asA] at hlb <;> first | (cases hlb; rfl) | cases hlb
          rw [ea] at hx
          rw [eb] at hy
          have ub : someE (eqsT tt t) = true → eqsOf P t = eqsT tt t := fun hs => by
            unfold eqsT at hs ⊢
            cases hti : tt t with
            | none => rw [hti] at hs; cases hs
            | some ti => exact (hT _ _ hti).e
          split at h
          · have e := ub h.1
            rw [← e] at h
            exact gives_of (agg_sound (t := t) (x := x) (y := y) (op := .eql) hx hy h.1 h.2) (by simp [execOp, hop])
          · have e := ub h.1
            rw [← e] at h
            exact gives_of (agg_sound (t := t) (x := x) (y := y) (op := .neq) hx hy h.1 h.2) (by simp [execOp, hop])
          · exact h.elim
        · exact h.elim
      · exact gives_of (bin_sound (t := t) (x := x) (y := y) (V x) (V y) h) (by simp [execOp, hop])
  case unOp op t x => exact gives_of (un_sound (V x) h) (by simp [execOp, hop])
  case convert src dst x => exact gives_of (conv_sound hT hrows (V x) h) (by simp [execOp, hop])
  case slice t x lo hi mx =>
    simp only [qw] at h
    split at h
    · rename_i ti ht
      exact gives_of (slice_sound hT (hT _ _ ht) hrows (V x) (R x) (O lo) (O hi) (O mx) h) (by simp [execOp, hop])
    · exact h.elim
  case fieldAddr s x f =>
    simp only [qw] at h
    split at h
    · rename_i ti ht
      split at h
      · rename_i fs hd
        split at h
        · rename_i off sz ag hf
          exact gives_of (fieldAddr_sound (hT _ _ ht) hd hf h.1 (V x) (R x) h.2) (by simp [execOp, hop])
        · exact h.elim
      · exact h.elim
    · exact h.elim
  case field s x f =>
    simp only [qw] at h
    split at h
    · rename_i ti ht
      split at h
      · rename_i fs hd
        split at h
        · rename_i off sz ag l hf hl
          have hx := V x
          have hrx := R x
          rw [hl] at hx hrx
          exact gives_of (field_sound (hT _ _ ht) hd hf h.1 hx hrx h.2) (by simp [execOp, hop])
        · exact h.elim
      · exact h.elim
    · exact h.elim
  case indexAddr t x i =>
    simp only [qw] at h
    split at h
    · rename_i ti ht
      split at h
      · rename_i el hd
        split at h
        · rename_i te hte
          exact gives_of (idx_sound (hT _ _ ht) hd (hT _ _ hte) hrows (V x) (R x) (V i) h) (by simp [execOp, hop])
        · exact h.elim
      · rename_i m el fs hd
        split at h
        · rename_i te hte
          exact gives_of (arr_sound (hT _ _ ht) hd (hT _ _ hte) (V x) (R x) (V i) h) (by simp [execOp, hop])
        · exact h.elim
      · exact h.elim
    · exact h.elim
  case index t x i =>
    simp only [qw] at h
    split at h
    · rename_i ti ht
      exact gives_of (index_sound (hT _ _ ht) (V x) (V i) h) (by simp [execOp, hop])
    · exact h.elim
  case extract x i => exact gives_of (extract_sound (V x) (R x) h) (by simp [execOp, hop])
  case build t parts =>
    simp only [qw] at h
    split at h
    · rename_i ti ht
      split at h
      · rename_i fs zl hd hz
        refine gives_of (build_sound (hT _ _ ht) hd hz h.1 (parts := parts.toList.map fun (i, x) => (i, ev get x)) (vals := parts.map fun (i, x) => (i, a.eval x)) (by simp) ?_ h.2) (by simp [execOp, hop])
        intro i hi
        have hi' : i < parts.size := by simpa using hi
        have e1 : (parts.toList.map fun (i, x) => (i, ev get x)).getD i (0, .undef) = (parts[i].1, ev get parts[i].2) := by simp [List.getD, hi']
        have e2 : (parts.map fun (i, x) => (i, a.eval x)).toList.getD i (0, undef) = (parts[i].1, a.eval parts[i].2) := by simp [List.getD, hi']
        rw [e1, e2]
        exact ⟨rfl, V _, R _⟩
      · rename_i m el f0 fs zl hd hz
        refine gives_of (build_arr (hT _ _ ht) hd hz h.1 (parts := parts.toList.map fun (i, x) => (i, ev get x)) (vals := parts.map fun (i, x) => (i, a.eval x)) (by simp) ?_ h.2) (by simp [execOp, hop])
        intro i hi
        have hi' : i < parts.size := by simpa using hi
        have e1 : (parts.toList.map fun (i, x) => (i, ev get x)).getD i (0, .undef) = (parts[i].1, ev get parts[i].2) := by simp [List.getD, hi']
        have e2 : (parts.map fun (i, x) => (i, a.eval x)).toList.getD i (0, undef) = (parts[i].1, a.eval parts[i].2) := by simp [List.getD, hi']
        rw [e1, e2]
        exact ⟨rfl, V _, R _⟩
      · exact h.elim
    · exact h.elim
  case makeInterface t x =>
    simp only [qw] at h
    split at h
    · rename_i ti ht
      unfold ifaceW at h
      split at h
      · rename_i hd hx
        have hv := V x
        rw [hx] at hv
        obtain ⟨vs, he, hl, _, _⟩ := rv_agg hv
        obtain rfl : vs = #[] := Array.size_eq_zero_iff.1 hl.symm
        obtain ⟨fields, hu, _⟩ := (hT _ _ ht).under_struct hd
        exact gives_of (s := Instr.makeInterface t (a.eval x)) ⟨_, h, .iface t (.agg #[]), by simp [Instr.makeInterface, run_underlying hu, he], .data _ _ (.con _ rfl), .con _⟩ (by simp [execOp, hop])
      · exact h.elim
    · exact h.elim
  case call c =>
    obtain ⟨callee, args, argTypes⟩ := c
    simp only [qw] at h
    split at h
    · rename_i x t ha hat
      obtain rfl : args = #[x] := Array.ext' ha
      obtain rfl : argTypes = #[t] := Array.ext' hat
      split at h
      · rename_i ti ht
        refine gives_of (len_sound (ty := o.type) (hT _ _ ht) (fun r row hr => hrows.ne hr) (V x) h) ?_
        simp [execOp, hop, resolve, invoke, builtin]
      · exact h.elim
    · rename_i x y ha
      obtain rfl : args = #[x, y] := Array.ext' ha
      split at h
      · rename_i k m k' m' hx hy
        have h1 := V x
        have h2 := V y
        rw [hx] at h1
        rw [hy] at h2
        refine gives_of (s := Builtin.max_ argTypes o.type #[a.eval x, a.eval y]) (.pure h ?_ (.int _ _) (.int _ _)) (by simp [execOp, hop, resolve, invoke, builtin])
        rw [rv_int h1, rv_int h2]
        simp [Builtin.max_, Builtin.max2]
      · exact h.elim
    · rename_i x y ha
      obtain rfl : args = #[x, y] := Array.ext' ha
      split at h
      · rename_i k m k' m' hx hy
        have h1 := V x
        have h2 := V y
        rw [hx] at h1
        rw [hy] at h2
        refine gives_of (s := Builtin.min_ argTypes o.type #[a.eval x, a.eval y]) (.pure h ?_ (.int _ _) (.int _ _)) (by simp [execOp, hop, resolve, invoke, builtin])
        rw [rv_int h1, rv_int h2]
        simp [Builtin.min_, Builtin.min2]
      · exact h.elim
    · exact h.elim
end
structure Chg (w w' : World) (b : Nat) : Prop where
  os : w'.os = w.os
  tape : w'.tape = w.tape
  output : w'.output = w.output
  size : w.heap.size ≤ w'.heap.size
  block : ∀ k, k < w.heap.size → k ≠ b → w'.heap[k]? = w.heap[k]?
section
variable {P : Program} {w : World}
theorem Chg.of_setRow (w : World) (b : Nat) (cs : Array Value) : Chg w (w.setRow b cs) b :=
  ⟨rfl, rfl, rfl, by simp, fun k _ h => setRow_other w b k cs h⟩
theorem Chg.of_alloc (w : World) (o : Obj) (b : Nat) : Chg w (w.alloc o) b :=
  ⟨rfl, rfl, rfl, by simp, fun k h _ => heap_alloc_old w o k h⟩
theorem Chg.of_drew_alloc (w : World) (o : Obj) (b : Nat) : Chg w (w.drew.alloc o) b :=
  ⟨rfl, rfl, rfl, by simp, fun k h _ => heap_alloc_old w.drew o k h⟩
theorem frozen_row {b : Nat} {cur : Array Value} {e : TypeId} {fr : Nat × Nat} (hb : w.heap[b]? = some (.cells cur e fr)) (hf : unfrozen fr cur.size) {j : Nat} (hj : j < cur.size) : w.frozen? ⟨b, j, none⟩ = false := by
  have := hf j hj
  simp only [World.frozen?, hb]
  simp only [Bool.and_eq_false_iff, decide_eq_false_iff_not]
  omega
theorem storeCells_ok (b o : Nat) (e : TypeId) (fr : Nat × Nat) : ∀ (vs : List Value) (i : Nat) (cur : Array Value) (w : World), w.heap[b]? = some (.cells cur e fr) → unfrozen fr cur.size → o + i + vs.length ≤ cur.size → (∀ v ∈ vs, v.oneCell' = true) →
    (storeCells ⟨b, o, none⟩ vs i).run P w = .ok () (w.setRow b (cur.toList.take (o + i) ++ vs ++ cur.toList.drop (o + i + vs.length)).toArray)
  | [], i, cur, w, hg, _, _, _ => by
    simp only [storeCells, List.append_nil, List.length_nil, Nat.add_zero, List.take_append_drop, Array.toArray_toList]
    rw [setRow_self w b cur e fr hg]
    rfl
  | v :: rest, i, cur, w, hg, hf, hl, h1 => by
    have hi : o + i < cur.size := by simp at hl; omega
    have hcell : w.cell? ⟨b, o + i, none⟩ = some cur[o + i] := by simp [World.cell?, hg, hi]
    have hfro := frozen_row hg hf hi
    have hst : (store ((⟨b, o, none⟩ : Addr).add i) v).run P w = .ok () (w.setRow b (cur.setIfInBounds (o + i) v)) := by
      rw [cell_off, run_store P w _ v _ (h1 v (by simp)), hcell]
      simp [hfro, setCell_eq_setRow w b (o + i) cur e fr v hg]
    have ih := storeCells_ok b o e fr rest (i + 1) (cur.setIfInBounds (o + i) v) (w.setRow b (cur.setIfInBounds (o + i) v)) (setRow_heap w b cur _ e fr hg) (by simpa using hf) (by simp at hl ⊢; omega) (fun x hx => h1 x (by simp [hx]))
    simp only [storeCells, Sem.run_bind, hst, Result.andThen_ok, ih, setRow_setRow]
    congr 3
    have hk : o + i + (rest.length + 1) ≤ cur.toList.length := by simp at hl ⊢; omega
    have := list_seg_step cur.toList (o + i) v rest hk
    simp only [Array.toList_setIfInBounds, List.length_cons]
    rw [← this]
    simp [Nat.add_assoc, Nat.add_comm, Nat.add_left_comm]
theorem splice_get (cur : Array Value) (o : Nat) (vs : List Value) (h : o + vs.length ≤ cur.size) (i : Nat) :
    (cur.toList.take o ++ vs ++ cur.toList.drop (o + vs.length)).toArray[i]? = if i < o then cur[i]? else if i < o + vs.length then vs[i - o]? else cur[i]? := by
  simp only [List.getElem?_toArray]
  by_cases h1 : i < o
  · rw [if_pos h1, List.append_assoc, List.getElem?_append_left (by simp; omega), List.getElem?_take, if_pos h1, Array.getElem?_toList]
  · rw [if_neg h1]
    by_cases h2 : i < o + vs.length
    · rw [if_pos h2, List.append_assoc, List.getElem?_append_right (by simp; omega), List.getElem?_append_left (by simp; omega)]
      congr 1
      simp; omega
    · rw [if_neg h2, List.getElem?_append_right (by simp; omega), List.getElem?_drop, Array.getElem?_toList]
      congr 1
      simp; omega
theorem splice_size (cur : Array Value) (o : Nat) (vs : List Value) (h : o + vs.length ≤ cur.size) : (cur.toList.take o ++ vs ++ cur.toList.drop (o + vs.length)).toArray.size = cur.size := by
  simp; omega
theorem storeAt_ok {t : TypeId} {ti : TI} (ht : TIOk P t ti) {b o : Nat} {cur : Array Value} {e : TypeId} {fr : Nat × Nat} (hb : w.heap[b]? = some (.cells cur e fr)) (hf : unfrozen fr cur.size) {v : Value}
    (hs : v.cells.size = ti.size) (h1 : ∀ u ∈ v.cells.toList, u.oneCell' = true) (hle : o + v.cells.size ≤ cur.size) :
    (Instr.storeAt t (.pointer (some ⟨b, o, none⟩)) v).run P w = .ok () (w.setRow b (cur.toList.take o ++ v.cells.toList ++ cur.toList.drop (o + v.cells.toList.length)).toArray) := by
  obtain ⟨i, hi, hz, his, hby⟩ := ht.info
  have := storeCells_ok (P := P) b o e fr v.cells.toList 0 cur w hb hf (by simpa using hle) h1
  simp only [Nat.add_zero] at this
  have hne : ¬ (v.cells.size ≠ i.size) := by rw [his]; simp [hs]
  simp [Instr.storeAt, Instr.sureAddr, storeVar, sizeOf, typeInfo, hi, hne, this, his, hs]
structure Src (P : Program) (w : World) (size : Nat) (x : Value) (m : Nat) (news : List Value) : Prop where
  len : ∀ w', (Builtin.lenOf x).run P w' = .ok m w'
  firstN : ∀ w', w'.heap = w.heap → ∀ k, k ≤ m → (Builtin.firstCells size k x).run P w' = .ok (news.take (k * size)).toArray w'
  size : news.length = m * size
  one : ∀ u ∈ news, u.oneCell' = true
theorem Src.first {size : Nat} {x : Value} {m : Nat} {news : List Value} (h : Src P w size x m news) : ∀ w', w'.heap = w.heap → (Builtin.firstCells size m x).run P w' = .ok news.toArray w' := fun w' hw => by
  have := h.firstN w' hw m (Nat.le_refl _)
  rwa [List.take_of_length_le (by rw [h.size]; exact Nat.le_refl _)] at this
theorem append_room {t u ty e : TypeId} {i : TypeInfo} {d : TypeDesc} (ht : P.underlying t = some (.slice e)) (hu : P.underlying u = some d) (hd : ∀ k, d ≠ .int k) (hi : P.info? e = some i)
    {A : Option Addr} {n c m : Nat} {x : Value} {news : List Value} (hx : Src P w i.size x m news) (hroom : n + m ≤ c) (h0 : A = none → m = 0) {b o : Nat} {cur : Array Value} {fr : Nat × Nat} {e' : TypeId}
    (hA : m ≠ 0 → A = some ⟨b, o, none⟩) (hb : m ≠ 0 → w.heap[b]? = some (.cells cur e' fr)) (hf : unfrozen fr cur.size) (hle : m ≠ 0 → o + n * i.size + news.length ≤ cur.size) :
    (Builtin.append_ #[t, u] ty #[.slice A n c, x]).run P w = .ok (.slice A (n + m) c) (if m = 0 then w else w.setRow b (cur.toList.take (o + n * i.size) ++ news ++ cur.toList.drop (o + n * i.size + news.length)).toArray) := by
  have hz : (match d with | .int _ => true | _ => false) = false := by cases d <;> first | rfl | exact absurd rfl (hd _)
  have hlen := hx.len
  have hfirst := hx.first w rfl
  by_cases hm : m = 0
  · subst hm
    have hnil : news = [] := List.eq_nil_of_length_eq_zero (by simpa using hx.size)
    subst hnil
    have hroom' : n ≤ c := by omega
    cases A with
    | none => simp [Builtin.append_, run_underlying ht, run_underlying hu, sizeOf, typeInfo, hi, hz, hlen, hroom', hfirst]
    | some a => simp [Builtin.append_, run_underlying ht, run_underlying hu, sizeOf, typeInfo, hi, hz, hlen, hroom', hfirst, storeCells]
  · have hA' := hA hm
    subst hA'
    have hst := storeCells_ok (P := P) b (o + n * i.size) e' fr news 0 cur w (hb hm) hf (by simpa using hle hm) hx.one
    simp only [Nat.add_zero] at hst
    rw [if_neg hm]
    simp [Builtin.append_, run_underlying ht, run_underlying hu, sizeOf, typeInfo, hi, hz, hlen, hroom, hfirst, cell_off, hst]
theorem append_grow {t u ty e : TypeId} {i : TypeInfo} {z : Value} {d : TypeDesc} (ht : P.underlying t = some (.slice e)) (hu : P.underlying u = some d) (hd : ∀ k, d ≠ .int k) (hi : P.info? e = some i) (hzz : i.zero = some z)
    {A : Option Addr} {n c m : Nat} {x : Value} {news olds : List Value} (hx : Src P w i.size x m news) (hlo : olds.length = n * i.size)
    (hold : ∀ w', w'.heap = w.heap → (Builtin.firstCells i.size n (.slice A n c)).run P w' = .ok olds.toArray w')
    (hg : c < n + m) (h63 : n + m ≤ 9223372036854775807) (hfit : (n + m) * i.bytes ≤ 140737488355328) :
    (Builtin.append_ #[t, u] ty #[.slice A n c, x]).run P w =
      .ok (.slice (some ⟨w.heap.size, 0, none⟩) (n + m) (grownCap w (n + m) c e))
        (w.drew.alloc (.cells (olds.toArray ++ news.toArray ++ Builtin.zeroCells z.cells (grownCap w (n + m) c e - (n + m))) e)) := by
  have hz : (match d with | .int _ => true | _ => false) = false := by cases d <;> first | rfl | exact absurd rfl (hd _)
  have hn : ¬ (n + m ≤ c) := by omega
  have h63' : ¬ (9223372036854775807 < ((n : Int) + (m : Int))) := by omega
  have h48 := growslice_fits (bytes := i.bytes) hg hfit
  have h48' : ¬ (281474976710656 < Builtin.nextslicecap (n + m) c * i.bytes) := by omega
  have hfirst := hx.first w.drew rfl
  have hlen := hx.len
  have hold' := hold w.drew rfl
  simp [Builtin.append_, run_underlying ht, run_underlying hu, sizeOf, typeInfo, zeroValue, hi, hzz, hz, hlen, hn, h63', h48', Question.forced, hfirst, hold', newRow, grownCap]
  congr 2
  apply Array.ext'
  simp [List.append_assoc]
end
def setRow : List (Nat × Row) → Nat → Row → List (Nat × Row)
  | [], r, row => [(r, row)]
  | (k, x) :: rest, r, row => bif k == r then (k, row) :: rest else (k, x) :: setRow rest r row
theorem getRow_setRow (rows : List (Nat × Row)) (r : Nat) (row : Row) (r' : Nat) : getRow (setRow rows r row) r' = if r = r' then some row else getRow rows r' := by
  induction rows with
  | nil =>
    simp only [setRow, getRow]
    by_cases h : r = r'
    · simp [h]
    · simp [h, beq_eq_false_iff_ne.2 h]
  | cons x rest ih =>
    obtain ⟨k, x⟩ := x
    simp only [setRow]
    by_cases hk : k = r
    · subst hk
      simp only [beq_self_eq_true, cond_true, getRow]
      by_cases h : k = r'
      · simp [h]
      · simp [h, beq_eq_false_iff_ne.2 h]
    · simp only [beq_eq_false_iff_ne.2 hk, cond_false, getRow, ih]
      by_cases h : k = r'
      · subst h; simp [Ne.symm hk]
      · simp [beq_eq_false_iff_ne.2 h]
def Heap.set (H : Heap) (r : Nat) (row : Row) : Heap := { H with rows := setRow H.rows r row }
def Heap.newT (H : Heap) (e : TypeId) (row : Row) : Heap := { nx := H.nx + 1, rows := setRow H.rows H.nx row, g := H.g, ty := (H.nx, e) :: H.ty }
def Heap.new (H : Heap) (row : Row) : Heap := { nx := H.nx + 1, rows := setRow H.rows H.nx row, g := H.g, ty := H.ty }
theorem Heap.get_set (H : Heap) (r : Nat) (row : Row) (r' : Nat) : (H.set r row).get r' = if r = r' then some row else H.get r' := getRow_setRow _ _ _ _
theorem Heap.get_new (H : Heap) (row : Row) (r' : Nat) : (H.new row).get r' = if H.nx = r' then some row else H.get r' := getRow_setRow _ _ _ _
section
variable {P : Program} {w w' : World} {ow ow' : Nat → Prop} {loc loc' : Locs} {n : Nat} {E : Entry P} {H : Heap}
theorem Stable.of_chg {b : Nat} (hc : Chg w w' b) (ho : ow b) : Stable ow w w' :=
  Stable.of_blocks fun k hk hn => hc.block k hk (by rintro rfl; exact hn ho)
theorem Stable.of_chg_new {b : Nat} (hc : Chg w w' b) (hb : w.heap.size ≤ b) (ow : Nat → Prop) : Stable ow w w' :=
  Stable.of_blocks fun k hk hn => hc.block k hk (by omega)
theorem RowIn.mono (hs : Stable ow w w') (hb : ∀ b, b < w.heap.size → ow' b → ow b) (hl : ∀ r, r < n → loc' r = loc r ∨ loc' r = none) {L : RowLoc} {cur : Array Value} {row : Row}
    (hr : ∀ l, row = .var l → ∀ j, j < l.length → Refs n (l.getD j .undef)) (h : RowIn w ow loc L cur row) : RowIn w' ow' loc' L cur row := by
  cases row with
  | ints k l => exact h
  | list sz l => exact ⟨h.1, h.2.1, h.2.2.1, fun i hi => ⟨(h.2.2.2 i hi).1, fun j hj => by obtain ⟨u, h1, h2, h3⟩ := (h.2.2.2 i hi).2 j hj; exact ⟨u, h1, h2, h3.mono hs hb⟩⟩⟩
  | var l => exact ⟨h.1, h.2.1, fun j hj => by obtain ⟨u, h1, h2, h3⟩ := h.2.2 j hj; exact ⟨u, h1, h2, h3.newLoc hs hb hl (hr l rfl j hj)⟩⟩
theorem RowAt.mono (hs : Stable ow w w') (hb : ∀ b, b < w.heap.size → ow' b → ow b) (hl : ∀ r, r < n → loc' r = loc r ∨ loc' r = none) {L : Option RowLoc} {row : Row}
    (hr : ∀ l, row = .var l → ∀ j, j < l.length → Refs n (l.getD j .undef)) (hk : ∀ M, L = some M → w'.heap[M.b]? = w.heap[M.b]?) (h : RowAt w ow loc L row) : RowAt w' ow' loc' L row := by
  cases L with
  | none => cases row <;> exact h
  | some L =>
    obtain ⟨cur, e, fr, h1, h2, h3, h4⟩ := h
    exact ⟨cur, e, fr, (hk L rfl).trans h1, h2, h3, h4.mono hs hb hl hr⟩
theorem HS.rowsOk (h : HS E H ow loc w) : RowsOk w ow loc H.nx H.get := ⟨h.rows, h.refs⟩
theorem HS.ne {r r' : Nat} {L L' : RowLoc} (h : HS E H ow loc w) (hr : loc r = some (some L)) (hr' : loc r' = some (some L')) (hne : r ≠ r') : L.b ≠ L'.b := fun e => hne (h.inj r r' L L' hr hr' e)
theorem tyKept {b : Nat} {cur cur' : Array Value} {e : TypeId} {fr fr' : Nat × Nat} (h1 : w.heap[b]? = some (.cells cur e fr)) (h2 : w'.heap[b]? = some (.cells cur' e fr')) :
    ∀ c t f, w.heap[b]? = some (.cells c t f) → ∃ c' f', w'.heap[b]? = some (.cells c' t f') := fun c t f h => by
  rw [h1] at h
  injection h with h
  injection h with _ h _
  subst h
  exact ⟨cur', fr', h2⟩
theorem HS.upd (h : HS E H ow loc w) {r : Nat} {L : RowLoc} {row : Row} (hL : loc r = some (some L)) (hc : Chg w w' L.b) (hsz : w'.heap.size = w.heap.size) (hat : RowAt w' ow loc (some L) row)
    (hrf : ∀ l, row = .var l → ∀ j, j < l.length → Refs H.nx (l.getD j .undef))
    (hty : ∀ cur t fr, w.heap[L.b]? = some (.cells cur t fr) → ∃ cur' fr', w'.heap[L.b]? = some (.cells cur' t fr')) : HS E (H.set r row) ow loc w' := by
  obtain ⟨ho, hlt, hold⟩ := h.live r L hL
  have hs := Stable.of_chg hc ho
  refine ⟨?_, ?_, h.inj, ?_, ?_, hc.os.trans h.os, hc.tape.trans h.tape, hc.output.trans h.output, h.nx, fun b hb => by have := h.owlt b hb; omega, h.forb, h.alt, h.apart, ?_, h.gh.mono hs (fun _ _ h => h) (LocLe.refl _), fun r' t ht => ⟨(h.ty r' t ht).1, fun L' hL' => ?_⟩⟩
  rotate_right
  · obtain ⟨cur, fr, hc0, ho0⟩ := (h.ty r' t ht).2 L' hL'
    by_cases e : L'.b = L.b
    · rw [e] at hc0 ⊢
      obtain ⟨cur', fr', hc1⟩ := hty _ _ _ hc0
      exact ⟨cur', fr', hc1, ho0⟩
    · exact ⟨cur, fr, (hc.block _ (h.live r' L' hL').2.1 e).trans hc0, ho0⟩
  · intro r' row' hr'
    rw [Heap.get_set] at hr'
    split at hr'
    · rename_i e; subst e; injection hr' with hr'; subst hr'
      exact ⟨_, hL, hat⟩
    · rename_i hne
      obtain ⟨L', hL', hat'⟩ := h.rows r' row' hr'
      refine ⟨L', hL', hat'.mono (n := H.nx) hs (fun _ _ h => h) (fun _ _ => .inl rfl) (fun l e => h.refs r' l (by rw [hr', e])) fun M hM => ?_⟩
      subst hM
      exact hc.block _ (h.live r' M hL').2.1 (h.ne hL' hL (Ne.symm hne))
  · intro r' L' hL'
    have := h.live r' L' hL'
    exact ⟨this.1, by omega, this.2.2⟩
  · intro b hb hS
    rw [hc.block b (by have := h.size; omega) ?_]
    · exact h.old b hb hS
    · rintro rfl; rcases hold with h1 | h1
      · omega
      · exact hS h1
  · have := h.size; omega
  · intro r' l hr' j hj
    rw [Heap.get_set] at hr'
    split at hr'
    · injection hr' with hr'; exact hrf l hr' j hj
    · exact h.refs r' l hr' j hj
theorem HS.typed (h : HS E H ow loc w) {r : Nat} {t : TypeId} (hr : r < H.nx) (hc : ∀ L, loc r = some (some L) → ∃ cur fr, w.heap[L.b]? = some (.cells cur t fr) ∧ L.o = 0) : HS E ⟨H.nx, H.rows, H.g, (r, t) :: H.ty⟩ ow loc w :=
  ⟨h.rows, h.live, h.inj, h.old, h.size, h.os, h.tape, h.output, h.nx, h.owlt, h.forb, h.alt, h.apart, h.refs, h.gh, fun r' t' ht => by
    simp only [getT] at ht
    cases hk : r == r' with
    | true =>
      have : r = r' := by simpa using hk
      subst this
      rw [hk] at ht
      simp only [cond_true, Option.some.injEq] at ht
      subst ht
      exact ⟨hr, hc⟩
    | false => rw [hk] at ht; exact h.ty r' t' ht⟩
theorem FS.same {get : Nat → PV} {a : Act} (h : FS w ow loc n get a) (hs : Stable ow w w') : FS w' ow loc n get a :=
  ⟨fun t => (h.vals t).mono hs (fun _ _ h => h) (LocLe.refl loc), h.refs, h.defers⟩
def locNew (loc : Locs) (n : Nat) (L : Option RowLoc) : Locs := fun r => if r = n then some L else loc r
theorem HS.new (h : HS E H ow loc w) {L : RowLoc} {row : Row} (hc : Chg w w' L.b) (hb : w.heap.size ≤ L.b) (hb' : L.b < w'.heap.size)
    (hat : RowAt w' (fun b => ow b ∨ b = L.b) (locNew loc H.nx (some L)) (some L) row) (hrf : ∀ l, row = .var l → ∀ j, j < l.length → Refs (H.nx + 1) (l.getD j .undef)) :
    HS E (H.new row) (fun b => ow b ∨ b = L.b) (locNew loc H.nx (some L)) w' := by
  have hs : Stable ow w w' := Stable.of_chg_new hc hb ow
  have hbb : ∀ b, b < w.heap.size → (ow b ∨ b = L.b) → ow b := fun b hlt h => h.elim id (fun e => by omega)
  have hlo : ∀ r, r < H.nx → locNew loc H.nx (some L) r = loc r ∨ locNew loc H.nx (some L) r = none := fun r hr => .inl (by simp [locNew, Nat.ne_of_lt hr])
  have hlive : ∀ r L', loc r = some (some L') → r < H.nx := fun r L' hr => by
    rcases Nat.lt_or_ge r H.nx with h1 | h1
    · exact h1
    · rw [h.nx r h1] at hr; cases hr
  refine ⟨?_, ?_, ?_, ?_, ?_, hc.os.trans h.os, hc.tape.trans h.tape, hc.output.trans h.output, ?_, fun b hb => hb.elim (fun h1 => by have := h.owlt b h1; have := hc.size; omega) (fun e => by omega), fun b hA => .inl (h.forb b hA), h.alt, ?_, ?_, h.gh.newLoc hs hbb hlo (Nat.le_succ _), fun r' t ht => ⟨Nat.lt_succ_of_lt (h.ty r' t ht).1, fun L' hL' => ?_⟩⟩
  rotate_right
  · obtain ⟨hlt, hc1⟩ := h.ty r' t ht
    have hL2 : loc r' = some (some L') := by
      have e : locNew loc H.nx (some L) r' = loc r' := by simp [locNew, Nat.ne_of_lt hlt]
      rw [← e]; exact hL'
    obtain ⟨cur, fr, hc0, ho0⟩ := hc1 L' hL2
    have hl := (h.live r' L' hL2).2.1
    exact ⟨cur, fr, (hc.block _ hl (by omega)).trans hc0, ho0⟩
  · intro r row' hr
    rw [Heap.get_new] at hr
    split at hr
    · rename_i e; subst e; injection hr with hr; subst hr
      exact ⟨some L, by simp [locNew], hat⟩
    · rename_i hne
      obtain ⟨L', hL', hat'⟩ := h.rows r row' hr
      refine ⟨L', by simp [locNew, Ne.symm hne, hL'], hat'.mono (n := H.nx) hs hbb hlo (fun l e => h.refs r l (by rw [hr, e])) fun M hM => ?_⟩
      subst hM
      have := (h.live r M hL').2.1
      exact hc.block _ this (by omega)
  · intro r L' hr
    unfold locNew at hr
    split at hr
    · injection hr with hr; injection hr with hr; subst hr
      exact ⟨.inr rfl, hb', .inl (by have := h.size; omega)⟩
    · have := h.live r L' hr
      exact ⟨.inl this.1, by have := hc.size; omega, this.2.2⟩
  · intro r r' L1 L2 h1 h2 e
    unfold locNew at h1 h2
    split at h1 <;> split at h2
    · omega
    · injection h1 with h1; injection h1 with h1; subst h1
      have := (h.live r' L2 h2).2.1
      omega
    · injection h2 with h2; injection h2 with h2; subst h2
      have := (h.live r L1 h1).2.1
      omega
    · exact h.inj r r' L1 L2 h1 h2 e
  · intro b hb0 hS
    rw [hc.block b (by have := h.size; omega) (by have := h.size; omega)]
    exact h.old b hb0 hS
  · have := h.size; have := hc.size; omega
  · intro r hr
    have hr' : H.nx + 1 ≤ r := hr
    simp only [locNew]
    rw [if_neg (by omega)]
    exact h.nx r (by omega)
  · intro r L' hr
    unfold locNew at hr
    split at hr
    · injection hr with hr; injection hr with hr; subst hr
      intro hA
      have := h.alt _ hA
      have := h.size
      omega
    · exact h.apart r L' hr
  · intro r l hr j hj
    rw [Heap.get_new] at hr
    split at hr
    · injection hr with hr; exact hrf l hr j hj
    · exact (h.refs r l hr j hj).mono (by show H.nx ≤ H.nx + 1; omega)
theorem FS.new {get : Nat → PV} {a : Act} (h : FS w ow loc n get a) {L : Option RowLoc} (hs : Stable ow w w') (hb : ∀ b, b < w.heap.size → ow' b → ow b) : FS w' ow' (locNew loc n L) (n + 1) get a :=
  ⟨fun t => (h.vals t).newLoc hs hb (fun r hr => .inl (by simp [locNew, Nat.ne_of_lt hr])) (h.refs t), fun t => (h.refs t).mono (by omega), h.defers⟩
end
section
variable {P : Program} {w w' : World} {ow ow' : Nat → Prop} {loc loc' : Locs} {n nt : Nat} {E : Entry P} {H : Heap} {F : Frame} {a : Act} {tt : Tab}
theorem Frame.get_put (F : Frame) (d : Nat) (p : PV) (t : Nat) : (F.put (some d) p).get t = if d = t then p else F.get t := by
  simp only [Frame.put, Frame.get]
  by_cases h : d = t
  · simp [h]
  · simp [h, beq_eq_false_iff_ne.2 h]
def dstOk (nt : Nat) (d : Option Nat) : Bool :=
  match d with
  | some d => decide (d < nt)
  | none => true
theorem FS.put (h : FS w ow loc n F.get a) {d : Option Nat} (hd : dstOk a.tmps.size d = true) {p : PV} {v : Value} (hv : RV w ow loc p v) (hr : Refs n p) :
    FS w ow loc n (F.put d p).get (a.put d v) ∧ (a.put d v).tmps.size = a.tmps.size := by
  cases d with
  | none => exact ⟨h, rfl⟩
  | some d =>
    have hd' : d < a.tmps.size := by simpa [dstOk] using hd
    refine ⟨⟨fun t => ?_, fun t => ?_, h.defers⟩, by simp [Act.put]⟩
    · rw [Frame.get_put]
      have e : (a.put (some d) v).tmps.getD t undef = if d = t then v else a.tmps.getD t undef := by
        simp only [Act.put, Array.getD_eq_getD_getElem?, Array.getElem?_setIfInBounds]
        by_cases ht : d = t
        · subst ht; simp [hd']
        · simp [ht]
      rw [e]
      split
      · exact hv
      · exact h.vals t
    · rw [Frame.get_put]
      split
      · exact hr
      · exact h.refs t
def dataB0 : PV → Bool
  | .sl .. | .ptr .. | .rptr .. | .agg _ | .tup _ => false
  | _ => true
def dataB : PV → Bool
  | .agg l => l.all dataB0
  | p => dataB0 p
theorem rd_of0 {p : PV} {v : Value} (h : RV w ow loc p v) (hd : dataB0 p = true) : RD w ow p v := by
  cases h with
  | data _ _ h => exact h
  | _ => simp [dataB0] at hd
theorem rd_of {p : PV} {v : Value} (h : RV w ow loc p v) (hd : dataB p = true) : RD w ow p v := by
  cases p with
  | agg l =>
    obtain ⟨vs, rfl, hl, h1, hv⟩ := rv_agg h
    refine .agg l vs hl h1 fun i hi => rd_of0 (hv i hi) ?_
    simp only [dataB, List.all_eq_true] at hd
    refine hd _ ?_
    rw [List.getD_eq_getElem?_getD, List.getElem?_eq_getElem hi]; exact List.getElem_mem hi
  | _ => exact rd_of0 h hd
theorem rd_of0' {p : PV} {v : Value} (h : RD w ow p v) (hk : known p = true) (i : Nat) (hi : i < (cellsOf p).length) : RD w ow ((cellsOf p).getD i .undef) (v.cells.getD i undef) := by
  cases h with
  | agg l vs hl h1 hd => exact hd i hi
  | undef => simp [known] at hk
  | tup => simp [known] at hk
  | int k n => have : i = 0 := by simpa [cellsOf] using hi
               subst this; exact .int k n
  | bool b => have : i = 0 := by simpa [cellsOf] using hi
              subst this; exact .bool b
  | str s l e => have : i = 0 := by simpa [cellsOf] using hi
                 subst this; exact .str s l e
  | nil => have : i = 0 := by simpa [cellsOf] using hi
           subst this; exact .nil
  | nilptr => have : i = 0 := by simpa [cellsOf] using hi
              subst this; exact .nilptr
  | con v h => have : i = 0 := by simpa [cellsOf] using hi
               subst this
               have e : v.cells = #[v] := by cases v <;> first | rfl | (simp [Value.oneCell'] at h)
               rw [e]; exact .con v h
  | intsNil k => have : i = 0 := by simpa [cellsOf] using hi
                 subst this; exact .intsNil k
  | listNil k => have : i = 0 := by simpa [cellsOf] using hi
                 subst this; exact .listNil k
  | intsE k a c => have : i = 0 := by simpa [cellsOf] using hi
                   subst this; exact .intsE k a c
  | listE k a c => have : i = 0 := by simpa [cellsOf] using hi
                   subst this; exact .listE k a c
  | ints k l m b o cap h1 h2 h3 h4 => have : i = 0 := by simpa [cellsOf] using hi
                                      subst this; exact .ints k l m b o cap h1 h2 h3 h4
  | list sz l m b o cap us h1 h2 h3 h4 h5 h6 h7 h8 => have : i = 0 := by simpa [cellsOf] using hi
                                                      subst this; exact .list sz l m b o cap us h1 h2 h3 h4 h5 h6 h7 h8
def storeW (tt : Tab) (t : TypeId) (p q : PV) (H : Heap) (K : Heap → Prop) : Prop :=
  match tt t, p with
  | some ti, .ptr r i j => known q = true ∧ (cellsOf q).length = ti.size ∧
    (match H.get r with
    | some (.ints k l) => match q with
      | .int k' m => k = k' ∧ j = 0 ∧ i < l.length ∧ K (H.set r (.ints k (l.set i m)))
      | _ => False
    | some (.list sz l) => i < l.length ∧ dataB q = true ∧ (match j == 0 && (cellsOf q).length == sz with
      | true => K (H.set r (.list sz (l.set i q)))
      | false => j + (cellsOf q).length ≤ sz ∧ K (H.set r (.list sz (l.set i (.agg (setL (cellsOf (l.getD i .undef)) j (cellsOf q)))))))
    | some (.var l) => i = 0 ∧ j + (cellsOf q).length ≤ l.length ∧ K (H.set r (.var (setL l j (cellsOf q))))
    | none => False)
  | _, _ => False
theorem getD_setL (l : List PV) (cs : List PV) : ∀ (off : Nat), off + cs.length ≤ l.length → ∀ i, (setL l off cs).getD i .undef = if off ≤ i ∧ i < off + cs.length then cs.getD (i - off) .undef else l.getD i .undef := by
  induction cs generalizing l with
  | nil => intro off _ i; rw [if_neg (by simp only [List.length_nil]; omega)]; rfl
  | cons c cs ih =>
    intro off h i
    simp only [setL]
    rw [ih _ _ (by simp at h ⊢; omega)]
    by_cases hi : i = off
    · subst hi
      rw [if_neg (by omega), if_pos (by simp)]
      have : i < l.length := by simp at h; omega
      simp [List.getD, this]
    · by_cases h2 : off + 1 ≤ i ∧ i < off + 1 + cs.length
      · rw [if_pos h2, if_pos (by simp; omega)]
        rw [show i - off = (i - (off + 1)) + 1 by omega]
        simp
      · rw [if_neg h2, if_neg (by simp; omega)]
        simp [List.getD, Ne.symm hi]
theorem store_ok (hT : TabOk P tt) (hs : HS E H ow loc w) {t : TypeId} {p q : PV} {u v : Value} (hp : RV w ow loc p u) (hrp : Refs H.nx p) (hq : RV w ow loc q v) (hrq : Refs H.nx q) {K : Heap → Prop} (h : storeW tt t p q H K) :
    ∃ H' w', K H' ∧ H'.nx = H.nx ∧ (Instr.storeAt t u v).run P w = .ok () w' ∧ HS E H' ow loc w' ∧ Stable ow w w' := by
  unfold storeW at h
  split at h
  · rename_i ti r i j hti
    have ht := hT t ti hti
    obtain ⟨hk, hlen, h⟩ := h
    obtain ⟨hcl, hcc⟩ := rv_cells hq hk
    have hrc := refs_cells hk hrq
    cases hrw : H.get r with
    | none => rw [hrw] at h; exact h.elim
    | some row =>
      rw [hrw] at h
      obtain ⟨L, hL, hat⟩ := hs.rows r row hrw
      cases hp with
      | data _ _ hd => cases hd
      | dangp _ _ _ a hl => rw [hl] at hL; cases hL
      | ptr _ _ _ L' hl' =>
        rw [hL] at hl'
        injection hl' with hl'
        subst hl'
        obtain ⟨cur, e, fr, hb, hsz, hfr, hin⟩ := hat
        have ho := (hs.live r L' hL).1
        have hone : ∀ x ∈ v.cells.toList, x.oneCell' = true := by
          intro x hx
          obtain ⟨m, hm, rfl⟩ := List.getElem_of_mem hx
          simp only [Array.length_toList] at hm
          have := (hcc m (by omega)).2
          simpa [Array.getD, hm] using this
        have hcellv : ∀ m, m < v.cells.size → v.cells.toList[m]? = some (v.cells.getD m undef) := fun m hm => by
          rw [Array.getElem?_toList, Array.getElem?_eq_getElem hm]; simp [Array.getD, hm]
        -- the place, once it is seen to lie in the block
        have main : ∀ (row' : Row), L'.o + i * L'.sz + j + v.cells.size ≤ cur.size → K (H.set r row') →
            (∀ l, row' = .var l → ∀ j, j < l.length → Refs H.nx (l.getD j .undef)) →
            (∀ cur' w', Stable ow w w' → cur'.size = cur.size → (∀ x, cur'[x]? = if x < L'.o + i * L'.sz + j then cur[x]? else if x < L'.o + i * L'.sz + j + v.cells.toList.length then v.cells.toList[x - (L'.o + i * L'.sz + j)]? else cur[x]?) → RowIn w' ow loc L' cur' row') →
            ∃ H' w', K H' ∧ H'.nx = H.nx ∧ (Instr.storeAt t (.pointer (some ⟨L'.b, L'.o + i * L'.sz + j, none⟩)) v).run P w = .ok () w' ∧ HS E H' ow loc w' ∧ Stable ow w w' := by
          intro row' hle hK hrf hrow
          have hrun := storeAt_ok ht hb hfr (v := v) (by omega) hone hle
          have hc := Chg.of_setRow w L'.b (cur.toList.take (L'.o + i * L'.sz + j) ++ v.cells.toList ++ cur.toList.drop (L'.o + i * L'.sz + j + v.cells.toList.length)).toArray
          have hst := Stable.of_chg hc ho
          have hsize := splice_size cur (L'.o + i * L'.sz + j) v.cells.toList (by simpa using hle)
          refine ⟨H.set r row', _, hK, rfl, hrun, ?_, hst⟩
          refine hs.upd hL hc (by simp) ⟨_, e, fr, setRow_heap w L'.b cur _ e fr hb, hsize.trans hsz, by rw [hsize]; exact hfr, ?_⟩ hrf (tyKept hb (setRow_heap w L'.b cur _ e fr hb))
          exact hrow _ _ hst hsize fun x => splice_get cur _ _ (by simpa using hle) x
        cases row with
        | ints k l =>
          simp only at h
          split at h
          · rename_i k' m
            obtain ⟨rfl, rfl, hi, hK⟩ := h
            obtain ⟨hs1, hlc, hc⟩ := hin
            obtain rfl := rv_int hq
            have hcs : (Value.int k m).cells = #[.int k m] := rfl
            refine main (.ints k (l.set i m)) ?_ hK (fun l e => by cases e) ?_
            · rw [hcs, hsz, hs1]
              simp only [List.size_toArray, List.length_singleton]
              omega
            · intro cur' w2 _ _ hget
              refine ⟨hs1, by simpa using hlc, fun x hx => ?_⟩
              rw [List.length_set] at hx
              rw [hget]
              rw [hs1, hcs]
              simp only [Nat.mul_one, Nat.add_zero, List.length_singleton]
              by_cases hxi : x = i
              · subst hxi
                rw [if_neg (by omega), if_pos (by omega)]
                simp [List.getD, hi]
              · have e1 : (l.set i m).getD x 0 = l.getD x 0 := by simp [List.getD, Ne.symm hxi]
                rw [e1, ← hc x hx]
                by_cases hlt : L'.o + x < L'.o + i
                · rw [if_pos hlt]
                · rw [if_neg hlt, if_neg (by omega)]
          · exact h.elim
        | list sz l =>
          simp only at h
          obtain ⟨hi, hdq, h⟩ := h
          have hrd := rd_of hq hdq
          obtain ⟨hs1, hpos, hlc, hc⟩ := hin
          have hbnd : ∀ x, x < l.length → (x + 1) * sz ≤ l.length * sz := fun x hx => Nat.mul_le_mul_right _ hx
          have hcap : l.length * sz ≤ L'.cap * sz := Nat.mul_le_mul_right _ hlc
          have hib := hbnd i hi
          rw [Nat.add_mul, Nat.one_mul] at hib
          have gen : ∀ (el : PV), (cellsOf el).length = sz → j + (cellsOf q).length ≤ sz → (∀ m, m < sz → (cellsOf el).getD m .undef = if j ≤ m ∧ m < j + (cellsOf q).length then (cellsOf q).getD (m - j) .undef else (cellsOf (l.getD i .undef)).getD m .undef) →
              K (H.set r (.list sz (l.set i el))) → ∃ H' w', K H' ∧ H'.nx = H.nx ∧ (Instr.storeAt t (.pointer (some ⟨L'.b, L'.o + i * L'.sz + j, none⟩)) v).run P w = .ok () w' ∧ HS E H' ow loc w' ∧ Stable ow w w' := by
            intro el hel hj hcells hK
            refine main _ ?_ hK (fun l e => by cases e) ?_
            · rw [hsz, hs1, ← hcl]; omega
            · intro cur' w2 hst _ hget
              refine ⟨hs1, hpos, by simpa using hlc, fun x hx => ?_⟩
              rw [List.length_set] at hx
              have hxb := hbnd x hx
              rw [Nat.add_mul, Nat.one_mul] at hxb
              by_cases hxi : x = i
              · subst hxi
                have e1 : (l.set x el).getD x .undef = el := by simp [List.getD, hi]
                rw [e1]
                refine ⟨hel, fun m hm => ?_⟩
                rw [hcells m hm, hget, hs1]
                by_cases hmj : j ≤ m ∧ m < j + (cellsOf q).length
                · rw [if_neg (by omega), if_pos (by rw [Array.length_toList, ← hcl]; omega), if_pos hmj]
                  have := hcc (m - j) (by omega)
                  refine ⟨v.cells.getD (m - j) undef, ?_, this.2, ?_⟩
                  · rw [← hcellv _ (by omega)]; congr 1; omega
                  · refine (rd_of0' hrd hk (m - j) (by omega)).mono hst (fun _ _ h => h)
                · rw [if_neg hmj]
                  obtain ⟨u0, hu, hu1, hu2⟩ := (hc x hx).2 m hm
                  refine ⟨u0, ?_, hu1, hu2.mono hst (fun _ _ h => h)⟩
                  rw [← hu]
                  by_cases hlt : m < j
                  · rw [if_pos (by omega)]
                  · rw [if_neg (by omega), if_neg (by rw [Array.length_toList, ← hcl]; omega)]
              · have e1 : (l.set i el).getD x .undef = l.getD x .undef := by simp [List.getD, Ne.symm hxi]
                rw [e1]
                refine ⟨(hc x hx).1, fun m hm => ?_⟩
                obtain ⟨u0, hu, hu1, hu2⟩ := (hc x hx).2 m hm
                refine ⟨u0, ?_, hu1, hu2.mono hst (fun _ _ h => h)⟩
                rw [hget, ← hu, hs1]
                rcases Nat.lt_or_gt_of_ne hxi with hlt | hlt
                · have : (x + 1) * sz ≤ i * sz := Nat.mul_le_mul_right _ hlt
                  rw [Nat.add_mul, Nat.one_mul] at this
                  rw [if_pos (by omega)]
                · have : (i + 1) * sz ≤ x * sz := Nat.mul_le_mul_right _ hlt
                  rw [Nat.add_mul, Nat.one_mul] at this
                  rw [if_neg (by omega), if_neg (by rw [Array.length_toList, ← hcl]; omega)]
          split at h
          · rename_i hb2
            simp only [Bool.and_eq_true, beq_iff_eq] at hb2
            refine gen q hb2.2 (by omega) (fun m hm => ?_) h
            rw [if_pos (by omega), hb2.1, Nat.sub_zero]
          · have hlen0 := (hc i hi).1
            have hce : ∀ X, cellsOf (.agg X) = X := fun _ => rfl
            refine gen _ (by rw [hce, setL_length]; exact hlen0) h.1 (fun m hm => ?_) h.2
            rw [hce]
            exact getD_setL _ _ j (by rw [hlen0]; exact h.1) m
        | var l =>
          simp only at h
          obtain ⟨rfl, hle, hK⟩ := h
          obtain ⟨hs1, hcap, hc⟩ := hin
          refine main _ ?_ hK ?_ ?_
          · rw [hsz, hcap, hs1]; omega
          · intro l2 e m hm
            injection e with e
            subst e
            rw [setL_length] at hm
            rw [getD_setL _ _ _ hle]
            split
            · exact hrc _ (by omega)
            · exact hs.refs r l hrw m hm
          · intro cur' w2 hst _ hget
            refine ⟨by rw [setL_length]; exact hs1, hcap, fun m hm => ?_⟩
            rw [setL_length] at hm
            rw [getD_setL _ _ _ hle, hget]
            simp only [Nat.zero_mul, Nat.add_zero]
            by_cases hmj : j ≤ m ∧ m < j + (cellsOf q).length
            · rw [if_neg (by omega), if_pos (by rw [Array.length_toList, ← hcl]; omega), if_pos hmj]
              have := hcc (m - j) (by omega)
              refine ⟨v.cells.getD (m - j) undef, ?_, this.2, this.1.mono hst (fun _ _ h => h) (LocLe.refl loc)⟩
              rw [← hcellv _ (by omega)]; congr 1; omega
            · rw [if_neg hmj]
              obtain ⟨u0, hu, hu1, hu2⟩ := hc m hm
              refine ⟨u0, ?_, hu1, hu2.mono hst (fun _ _ h => h) (LocLe.refl loc)⟩
              rw [← hu]
              by_cases hlt : m < j
              · rw [if_pos (by omega)]
              · rw [if_neg (by omega), if_neg (by rw [Array.length_toList, ← hcl]; omega)]
  · exact h.elim
end
section
variable {P : Program} {w w' : World} {ow ow' : Nat → Prop} {loc loc' : Locs} {n nt : Nat} {E : Entry P} {H : Heap} {F : Frame} {a : Act} {tt : Tab}
def Made (P : Program) (E : Entry P) (H : Heap) (ow : Nat → Prop) (loc : Locs) (w : World) (s : Sem Value) (K : PV → Heap → Prop) : Prop :=
  ∃ q row e, K q (H.newT e row) ∧ ∃ cv w' L, s.run P w = .ok cv w' ∧ HS E (H.newT e row) (fun b => ow b ∨ b = L.b) (locNew loc H.nx (some L)) w' ∧ Stable ow w w' ∧ w.heap.size ≤ L.b ∧
    RV w' (fun b => ow b ∨ b = L.b) (locNew loc H.nx (some L)) q cv ∧ Refs (H.nx + 1) q
theorem unfrozen_zero (n : Nat) : unfrozen (0, 0) n := fun i _ h => by omega
theorem made_of (hs : HS E H ow loc w) {s : Sem Value} {K : PV → Heap → Prop} {q : PV} {row : Row} {cv : Value} {w' : World} {cs : Array Value} {e : TypeId} {cap sz : Nat} {fr : Nat × Nat}
    (hk : K q (H.newT e row)) (hrun : s.run P w = .ok cv w') (hc : Chg w w' w.heap.size) (hsz' : w'.heap.size = w.heap.size + 1) (hb : w'.heap[w.heap.size]? = some (.cells cs e fr)) (hfr : unfrozen fr cs.size) (hsz : cs.size = cap * sz)
    (hin : RowIn w' (fun b => ow b ∨ b = w.heap.size) (locNew loc H.nx (some ⟨w.heap.size, 0, cap, sz⟩)) ⟨w.heap.size, 0, cap, sz⟩ cs row)
    (hrf : ∀ l, row = .var l → ∀ j, j < l.length → Refs (H.nx + 1) (l.getD j .undef))
    (hq : RV w' (fun b => ow b ∨ b = w.heap.size) (locNew loc H.nx (some ⟨w.heap.size, 0, cap, sz⟩)) q cv) (hr : Refs (H.nx + 1) q) : Made P E H ow loc w s K := by
  refine ⟨q, row, e, hk, cv, w', ⟨w.heap.size, 0, cap, sz⟩, hrun, ?_, Stable.of_chg_new hc (Nat.le_refl _) ow, Nat.le_refl _, hq, hr⟩
  have hs2 := hs.new hc (Nat.le_refl _) (by show w.heap.size < _; omega) ⟨cs, e, fr, hb, by simpa using hsz, hfr, hin⟩ hrf
  refine hs2.typed (r := H.nx) (t := e) (Nat.lt_succ_self _) fun L hL => ?_
  simp only [locNew, if_pos, Option.some.injEq] at hL
  subst hL
  exact ⟨cs, fr, hb, rfl⟩
theorem var_sound (hs : HS E H ow loc w) {elem : TypeId} {p : PV} {v : Value} {K : PV → Heap → Prop} (hp : RV w ow loc p v) (hr : Refs H.nx p) (hk : known p = true) (h : K (.ptr H.nx 0 0) (H.newT elem (.var (cellsOf p)))) :
    Made P E H ow loc w (do pure (.pointer (some (← newVar elem v)))) K := by
  obtain ⟨hcl, hcc⟩ := rv_cells hp hk
  have hrc := refs_cells hk hr
  have hc := Chg.of_alloc w (.cells v.cells elem) w.heap.size
  have hst : Stable ow w (w.alloc (.cells v.cells elem)) := Stable.of_chg_new hc (Nat.le_refl _) ow
  have hL : locNew loc H.nx (some ⟨w.heap.size, 0, 1, v.cells.size⟩) H.nx = some (some ⟨w.heap.size, 0, 1, v.cells.size⟩) := by simp [locNew]
  refine made_of hs (cap := 1) (sz := v.cells.size) (fr := (0, 0)) (cs := v.cells) (e := elem) h (cv := .pointer (some ⟨w.heap.size, 0, none⟩)) (w' := w.alloc (.cells v.cells elem)) ?_ hc (by simp) (heap_alloc_new w _) (unfrozen_zero _) (by simp) ?_ ?_ ?_ ?_
  · simp [newVar, newRow]
  · refine ⟨hcl.symm, rfl, fun j hj => ?_⟩
    obtain ⟨h1, h2⟩ := hcc j hj
    have hj' : j < v.cells.size := hcl ▸ hj
    refine ⟨v.cells.getD j undef, ?_, h2, ?_⟩
    · simp [Array.getD, hj']
    · exact h1.newLoc hst (fun b hb h => h.elim id (fun e => by omega)) (fun r hr => .inl (by simp [locNew, Nat.ne_of_lt hr])) (hrc j hj)
  · intro l e j hj
    injection e with e
    subst e
    exact (hrc j hj).mono (by omega)
  · have := RV.ptr (w := w.alloc (.cells v.cells elem)) (ow := fun b => ow b ∨ b = w.heap.size) H.nx 0 0 _ hL
    simpa using this
  · exact .ptr _ _ _ (by omega)
def makeW (tt : Tab) (t : TypeId) (p q : PV) (H : Heap) (K : PV → Heap → Prop) : Prop :=
  match tt t with
  | some ti => match ti.desc with
    | .slice e => match tt e, p, q with
      | some te, .int _ n, .int _ m => (0 ≤ n ∧ n ≤ m ∧ (te.bytes : Int) * m ≤ 281474976710656 ∧ m ≤ 9223372036854775807) ∧
        (match te.desc, te.z with
        | .int k, .int k' z => k = k' ∧ K (.sl H.nx 0 n.toNat true) (H.newT e (.ints k (List.replicate n.toNat z)))
        | _, _ => 0 < te.size ∧ known (toPV te.z) = true ∧ K (.sl H.nx 0 n.toNat true) (H.newT e (.list te.size (List.replicate n.toNat (toPV te.z)))))
      | _, _, _ => False
    | _ => False
  | none => False
theorem madeCells_get (z : Array Value) (n i : Nat) (h : i < n) (hz : 0 < z.size) : (madeCells z n)[i]? = some (z.getD (i % z.size) undef) := by
  have hlt : i % z.size < z.size := Nat.mod_lt _ hz
  simp [madeCells, h, Array.getD, hlt]
theorem make_sound (hT : TabOk P tt) (hs : HS E H ow loc w) {t : TypeId} {p q : PV} {u v : Value} {K : PV → Heap → Prop} (hp : RV w ow loc p u) (hq : RV w ow loc q v) (h : makeW tt t p q H K) :
    Made P E H ow loc w (Instr.makeSlice t u v) K := by
  unfold makeW at h
  cases hti : tt t with
  | none => rw [hti] at h; exact h.elim
  | some ti =>
    rw [hti] at h
    simp only at h
    split at h
    · rename_i e hd
      cases hte : tt e with
      | none => rw [hte] at h; exact h.elim
      | some te =>
        rw [hte] at h
        cases p <;> try exact h.elim
        rename_i k1 m1
        cases q <;> try exact h.elim
        rename_i k2 m2
        obtain rfl := rv_int hp
        obtain rfl := rv_int hq
        obtain ⟨⟨h0, h1, h2, h3⟩, h⟩ := h
        have ht := hT _ _ hti
        have hte' := hT _ _ hte
        obtain ⟨i, hi, hz, his, hby⟩ := hte'.info
        have hrun := run_make (P := P) w t e i te.z (ht.under_slice hd) hi hz k1 k2 m1 m2 h0 h1 (by rw [hby]; exact h2) h3
        have hc := Chg.of_alloc w (.cells (madeCells te.z.cells (m2.toNat * i.size)) e) w.heap.size
        have hst : Stable ow w (w.alloc (.cells (madeCells te.z.cells (m2.toNat * i.size)) e)) := Stable.of_chg_new hc (Nat.le_refl _) ow
        have hzs : te.z.cells.size = te.size := hte'.s
        have fin : ∀ row, RowIn (w.alloc (.cells (madeCells te.z.cells (m2.toNat * i.size)) e)) (fun b => ow b ∨ b = w.heap.size) (locNew loc H.nx (some ⟨w.heap.size, 0, m2.toNat, i.size⟩)) ⟨w.heap.size, 0, m2.toNat, i.size⟩ (madeCells te.z.cells (m2.toNat * i.size)) row →
            (∀ l, row = .var l → False) → K (.sl H.nx 0 m1.toNat true) (H.newT e row) → Made P E H ow loc w (Instr.makeSlice t (.int k1 m1) (.int k2 m2)) K := by
          intro row hin hnv hK
          have hL : locNew loc H.nx (some ⟨w.heap.size, 0, m2.toNat, i.size⟩) H.nx = some (some ⟨w.heap.size, 0, m2.toNat, i.size⟩) := by simp [locNew]
          refine made_of hs (cap := m2.toNat) (sz := i.size) (fr := (0, 0)) hK hrun hc (by simp) (heap_alloc_new w _) (unfrozen_zero _) (size_madeCells _ _) hin (fun l e => (hnv l e).elim) ?_ (.sl _ _ _ _ (by omega))
          exact .sl _ _ _ _ _ _ _ hL (by omega) (by simp) (fun _ => by simp) (.inr (by simp))
        split at h
        · rename_i k k' z hdd hzz
          obtain ⟨rfl, hK⟩ := h
          have hcz : te.z.cells = #[.int k z] := by rw [hzz]; rfl
          have hone : i.size = 1 := by rw [his, ← hzs, hcz]; rfl
          refine fin (.ints k (List.replicate m1.toNat z)) ⟨hone, by simp only [List.length_replicate]; omega, fun j hj => ?_⟩ (fun l e => by cases e) hK
          simp only [List.length_replicate] at hj
          rw [hcz, hone, Nat.mul_one, Nat.zero_add, madeCells_get _ _ _ (by omega) (by simp)]
          simp [hj, Nat.mod_one]
        · obtain ⟨hpos, hkn, hK⟩ := h
          have hzv : RV w ow loc (toPV te.z) te.z := .data _ _ (toPV_ok w ow _)
          obtain ⟨hcl, hcc⟩ := rv_cells hzv hkn
          refine fin (.list te.size (List.replicate m1.toNat (toPV te.z))) ⟨his, hpos, by simp only [List.length_replicate]; omega, fun x hx => ?_⟩ (fun l e => by cases e) hK
          simp only [List.length_replicate] at hx
          have e1 : (List.replicate m1.toNat (toPV te.z)).getD x .undef = toPV te.z := by simp [List.getD, hx]
          rw [e1]
          refine ⟨hcl.trans hzs, fun j hj => ?_⟩
          have hidx : x * te.size + j < m2.toNat * i.size := by
            rw [his]
            have : (x + 1) * te.size ≤ m2.toNat * te.size := Nat.mul_le_mul_right _ (by omega)
            rw [Nat.add_mul, Nat.one_mul] at this
            omega
          have hmod : (x * te.size + j) % te.z.cells.size = j := by
            rw [hzs, Nat.add_comm, Nat.add_mul_mod_self_right, Nat.mod_eq_of_lt hj]
          refine ⟨te.z.cells.getD j undef, ?_, ?_, ?_⟩
          · rw [Nat.zero_add, madeCells_get _ _ _ hidx (by rw [hzs]; exact hpos), hmod]
          · exact (hcc j (by rw [hcl, hzs]; exact hj)).2
          · exact (rd_of0' (toPV_ok _ _ _) hkn j (by rw [hcl, hzs]; exact hj))
    · exact h.elim
end
end Go.PV

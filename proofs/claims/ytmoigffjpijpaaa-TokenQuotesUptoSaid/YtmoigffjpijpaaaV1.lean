/- Pure values: a small program logic over the model, part 1: values, rows, and how they stand to the model's values and memory. -/
import Derived.Below
import Derived.Orders
import Derived.Laws.OwnMore
import Derived.Laws.CopyRow
import Derived.Laws.BytesArg
import Derived.Laws.Concat
import Derived.Laws.Slices
import Derived.Laws.Cells
import Derived.Laws.Entries
namespace Go.PV
open Go Go.RowKit

/-- A value as the proofs see it: slices as lists; 'sl', 'ptr': into a row that the call itself owns. -/
inductive PV where
  | undef
  | int (k : IntKind) (n : Int)
  | bool (b : Bool)
  | str (l : List Int)
  | nil
  | ints (k : IntKind) (l : List Int)
  | list (sz : Nat) (l : List PV)
  | agg (l : List PV)
  | tup (l : List PV)
  | sl (r off len : Nat) (full : Bool)
  | ptr (r i j : Nat)
  | rptr (p : PV) (j : Nat)
  | nilptr

instance : Inhabited PV := ⟨.undef⟩

def cellsOf : PV → List PV
  | .agg l => l
  | p => [p]

def bytesI (s : ByteArray) : List Int := s.data.toList.map fun b => (b.toNat : Int)

theorem bytesI_length (s : ByteArray) : (bytesI s).length = s.size := by unfold bytesI; rw [List.length_map, Array.length_toList]; rfl

/-- A value in memory or in a slot that nobody will ever write: 'ow': the blocks that somebody may write. -/
inductive RD (w : World) (ow : Nat → Prop) : PV → Value → Prop
  | undef (v : Value) : RD w ow .undef v
  | int (k : IntKind) (n : Int) : RD w ow (.int k n) (.int k n)
  | bool (b : Bool) : RD w ow (.bool b) (.bool b)
  | str (s : ByteArray) (l : List Int) (h : bytesI s = l) : RD w ow (.str l) (.string s)
  | nil : RD w ow .nil (.slice none 0 0)
  | nilptr : RD w ow .nilptr (.pointer none)
  | intsNil (k : IntKind) : RD w ow (.ints k []) (.slice none 0 0)
  | listNil (sz : Nat) : RD w ow (.list sz []) (.slice none 0 0)
  | intsE (k : IntKind) (a : Addr) (cap : Nat) : RD w ow (.ints k []) (.slice (some a) 0 cap)
  | listE (sz : Nat) (a : Addr) (cap : Nat) : RD w ow (.list sz []) (.slice (some a) 0 cap)
  | ints (k : IntKind) (l : List Int) (n b o cap : Nat) (hn : n = l.length) (hc : n ≤ cap) (ho : ¬ ow b)
      (hm : ∀ i, i < l.length → w.cell? ⟨b, o + i, none⟩ = some (.int k (l.getD i 0))) :
      RD w ow (.ints k l) (.slice (some ⟨b, o, none⟩) n cap)
  | list (sz : Nat) (l : List PV) (n b o cap : Nat) (us : Nat → Nat → Value) (hn : n = l.length) (hc : n ≤ cap) (ho : ¬ ow b) (hsz : 0 < sz)
      (hz : ∀ i, i < l.length → (cellsOf (l.getD i .undef)).length = sz)
      (hm : ∀ i j, i < l.length → j < sz → w.cell? ⟨b, o + (i * sz + j), none⟩ = some (us i j))
      (h1 : ∀ i j, i < l.length → j < sz → (us i j).oneCell' = true)
      (hd : ∀ i j, i < l.length → j < sz → RD w ow ((cellsOf (l.getD i .undef)).getD j .undef) (us i j)) :
      RD w ow (.list sz l) (.slice (some ⟨b, o, none⟩) n cap)
  | agg (l : List PV) (vs : Array Value) (hl : l.length = vs.size) (h1 : ∀ u ∈ vs.toList, u.oneCell' = true)
      (hd : ∀ i, i < l.length → RD w ow (l.getD i .undef) (vs.getD i undef)) : RD w ow (.agg l) (.agg vs)
  | tup (l : List PV) (vs : Array Value) (hl : l.length = vs.size)
      (hd : ∀ i, i < l.length → RD w ow (l.getD i .undef) (vs.getD i undef)) : RD w ow (.tup l) (.tuple vs)

/-- What nobody may write reads as before. -/
def Stable (ow : Nat → Prop) (w w' : World) : Prop :=
  ∀ (b o : Nat) (u : Value), ¬ ow b → w.cell? ⟨b, o, none⟩ = some u → w'.cell? ⟨b, o, none⟩ = some u

theorem Stable.refl (ow : Nat → Prop) (w : World) : Stable ow w w := fun _ _ _ _ h => h

theorem Stable.of_blocks {ow : Nat → Prop} {w w' : World} (h : ∀ b, b < w.heap.size → ¬ ow b → w'.heap[b]? = w.heap[b]?) : Stable ow w w' := fun b o u ho hc => by
  have hlt := World.block_lt_of_cell? w _ hc
  rw [World.cell?_of_block (w := w) (w' := w') (h b hlt ho)]; exact hc

theorem RD.mono {w w' : World} {ow ow' : Nat → Prop} (hs : Stable ow w w') (hb : ∀ b, b < w.heap.size → ow' b → ow b) {p : PV} {v : Value} (h : RD w ow p v) :
    RD w' ow' p v := by
  induction h with
  | undef v => exact .undef v
  | int k n => exact .int k n
  | bool b => exact .bool b
  | str s l h => exact .str s l h
  | nil => exact .nil
  | nilptr => exact .nilptr
  | intsNil k => exact .intsNil k
  | listNil sz => exact .listNil sz
  | intsE k a cap => exact .intsE k a cap
  | listE sz a cap => exact .listE sz a cap
  | ints k l n b o cap hn hc ho hm =>
    cases l with
    | nil => subst hn; exact .intsE k _ cap
    | cons x l =>
      have hlt := World.block_lt_of_cell? w _ (hm 0 (by simp))
      exact .ints k _ n b o cap hn hc (fun h => ho (hb b hlt h)) fun i hi => hs b _ _ ho (hm i hi)
  | list sz l n b o cap us hn hc ho hsz hz hm h1 hd ih =>
    cases l with
    | nil => subst hn; exact .listE sz _ cap
    | cons x l =>
      have hlt := World.block_lt_of_cell? w _ (hm 0 0 (by simp) hsz)
      exact .list sz _ n b o cap us hn hc (fun h => ho (hb b hlt h)) hsz hz (fun i j hi hj => hs b _ _ ho (hm i j hi hj)) h1 ih
  | agg l vs hl h1 hd ih => exact .agg l vs hl h1 ih
  | tup l vs hl hd ih => exact .tup l vs hl ih

/-- A value that leads to no memory. -/
inductive Flat : PV → Prop
  | undef : Flat .undef
  | int (k n) : Flat (.int k n)
  | bool (b) : Flat (.bool b)
  | str (l) : Flat (.str l)
  | nil : Flat .nil
  | nilptr : Flat .nilptr
  | agg (l) (h : ∀ i, i < l.length → Flat (l.getD i .undef)) : Flat (.agg l)
  | tup (l) (h : ∀ i, i < l.length → Flat (l.getD i .undef)) : Flat (.tup l)

theorem RD.flat {w w' : World} {ow ow' : Nat → Prop} {p : PV} {v : Value} (h : RD w ow p v) (hf : Flat p) : RD w' ow' p v := by
  induction h with
  | undef v => exact .undef v
  | int k n => exact .int k n
  | bool b => exact .bool b
  | str s l h => exact .str s l h
  | nil => exact .nil
  | nilptr => exact .nilptr
  | intsNil k => cases hf
  | listNil sz => cases hf
  | intsE k a cap => cases hf
  | listE sz a cap => cases hf
  | ints => cases hf
  | list => cases hf
  | agg l vs hl h1 hd ih => cases hf with | agg _ h => exact .agg l vs hl h1 fun i hi => ih i hi (h i hi)
  | tup l vs hl hd ih => cases hf with | tup _ h => exact .tup l vs hl fun i hi => ih i hi (h i hi)

def flatB0 : PV → Bool
  | .undef | .int .. | .bool _ | .str _ | .nil | .nilptr => true
  | _ => false

def flatB1 : PV → Bool
  | .agg l => l.all flatB0
  | p => flatB0 p

/-- Flat, to two levels: enough for what functions hand back. -/
def flatB : PV → Bool
  | .tup l => l.all flatB1
  | p => flatB1 p

theorem flat_of0 {p : PV} (h : flatB0 p = true) : Flat p := by
  cases p <;> first | (simp [flatB0] at h; done) | constructor

theorem flat_of1 {p : PV} (h : flatB1 p = true) : Flat p := by
  cases p with
  | agg l =>
    simp only [flatB1, List.all_eq_true] at h
    refine .agg l fun i hi => flat_of0 (h _ ?_)
    rw [List.getD_eq_getElem?_getD, List.getElem?_eq_getElem hi]; exact List.getElem_mem hi
  | _ => exact flat_of0 h

theorem flat_of {p : PV} (h : flatB p = true) : Flat p := by
  cases p with
  | tup l =>
    simp only [flatB, List.all_eq_true] at h
    refine .tup l fun i hi => flat_of1 (h _ ?_)
    rw [List.getD_eq_getElem?_getD, List.getElem?_eq_getElem hi]; exact List.getElem_mem hi
  | _ => exact flat_of1 h

/-- Where a row of the call's own lies: its block, where it begins there, its places, the cells of each. -/
structure RowLoc where
  b : Nat
  o : Nat
  cap : Nat
  sz : Nat

/-- 'none': no such row (any more); 'some none': a nil row. -/
abbrev Locs := Nat → Option (Option RowLoc)

inductive RV (w : World) (ow : Nat → Prop) (loc : Locs) : PV → Value → Prop
  | data (p : PV) (v : Value) (h : RD w ow p v) : RV w ow loc p v
  | dang (r off len : Nat) (full : Bool) (a : Option Addr) (n c : Nat) (h : loc r = none) : RV w ow loc (.sl r off len full) (.slice a n c)
  | dangp (r i j : Nat) (a : Addr) (h : loc r = none) : RV w ow loc (.ptr r i j) (.pointer (some a))
  | slnil (r : Nat) (full : Bool) (h : loc r = some none) : RV w ow loc (.sl r 0 0 full) (.slice none 0 0)
  | sl (r off len : Nat) (full : Bool) (L : RowLoc) (a : Addr) (c : Nat) (h : loc r = some (some L)) (hlc : len ≤ c) (hc : off + c ≤ L.cap)
      (hf : full = true → off + c = L.cap) (ha : c = 0 ∨ a = ⟨L.b, L.o + off * L.sz, none⟩) : RV w ow loc (.sl r off len full) (.slice (some a) len c)
  | ptr (r i j : Nat) (L : RowLoc) (h : loc r = some (some L)) : RV w ow loc (.ptr r i j) (.pointer (some ⟨L.b, L.o + i * L.sz + j, none⟩))
  | rptr (p : PV) (j b o : Nat) (us : Nat → Value) (ho : ¬ ow b) (hm : ∀ i, i < (cellsOf p).length → w.cell? ⟨b, o + i, none⟩ = some (us i))
      (h1 : ∀ i, i < (cellsOf p).length → (us i).oneCell' = true)
      (hd : ∀ i, i < (cellsOf p).length → RD w ow ((cellsOf p).getD i .undef) (us i)) (h0 : 0 < (cellsOf p).length) : RV w ow loc (.rptr p j) (.pointer (some ⟨b, o + j, none⟩))
  | agg (l : List PV) (vs : Array Value) (hl : l.length = vs.size) (h1 : ∀ u ∈ vs.toList, u.oneCell' = true)
      (hd : ∀ i, i < l.length → RV w ow loc (l.getD i .undef) (vs.getD i undef)) : RV w ow loc (.agg l) (.agg vs)
  | tup (l : List PV) (vs : Array Value) (hl : l.length = vs.size)
      (hd : ∀ i, i < l.length → RV w ow loc (l.getD i .undef) (vs.getD i undef)) : RV w ow loc (.tup l) (.tuple vs)

/-- Old rows stay where they are, or are gone. -/
def LocLe (loc loc' : Locs) : Prop := ∀ r, loc' r = loc r ∨ loc' r = none

theorem LocLe.refl (loc : Locs) : LocLe loc loc := fun _ => .inl rfl

theorem RV.mono {w w' : World} {ow ow' : Nat → Prop} {loc loc' : Locs} (hs : Stable ow w w') (hb : ∀ b, b < w.heap.size → ow' b → ow b) (hl : LocLe loc loc') {p : PV} {v : Value}
    (h : RV w ow loc p v) : RV w' ow' loc' p v := by
  induction h with
  | data p v h => exact .data p v (h.mono hs hb)
  | dang r off len full a n c h => exact .dang r off len full a n c ((hl r).elim (fun e => e.trans h) id)
  | dangp r i j a h => exact .dangp r i j a ((hl r).elim (fun e => e.trans h) id)
  | slnil r full h => exact (hl r).elim (fun e => .slnil r full (e.trans h)) fun e => .dang r 0 0 full _ _ _ e
  | sl r off len full L a c h hlc hc hf ha => exact (hl r).elim (fun e => .sl r off len full L a c (e.trans h) hlc hc hf ha) fun e => .dang r off len full _ _ _ e
  | ptr r i j L h => exact (hl r).elim (fun e => .ptr r i j L (e.trans h)) fun e => .dangp r i j _ e
  | rptr p j b o us ho hm h1 hd h0 =>
    have hlt := World.block_lt_of_cell? w _ (hm 0 h0)
    exact .rptr p j b o us (fun h => ho (hb b hlt h)) (fun i hi => hs b _ _ ho (hm i hi)) h1 (fun i hi => (hd i hi).mono hs hb) h0
  | agg l vs hl' h1 hd ih => exact .agg l vs hl' h1 ih
  | tup l vs hl' hd ih => exact .tup l vs hl' ih

/-- What the numbers of rows in a value are below. -/
inductive Refs (n : Nat) : PV → Prop
  | undef : Refs n .undef
  | int (k i) : Refs n (.int k i)
  | bool (b) : Refs n (.bool b)
  | str (l) : Refs n (.str l)
  | nil : Refs n .nil
  | nilptr : Refs n .nilptr
  | ints (k l) : Refs n (.ints k l)
  | list (sz l) : Refs n (.list sz l)
  | rptr (p j) : Refs n (.rptr p j)
  | sl (r off len full) (h : r < n) : Refs n (.sl r off len full)
  | ptr (r i j) (h : r < n) : Refs n (.ptr r i j)
  | agg (l) (h : ∀ i, i < l.length → Refs n (l.getD i .undef)) : Refs n (.agg l)
  | tup (l) (h : ∀ i, i < l.length → Refs n (l.getD i .undef)) : Refs n (.tup l)

/-- A row whose number is new does not touch what was there. -/
theorem RV.newLoc {w w' : World} {ow ow' : Nat → Prop} {loc loc' : Locs} {n : Nat} (hs : Stable ow w w') (hb : ∀ b, b < w.heap.size → ow' b → ow b) (hl : ∀ r, r < n → loc' r = loc r ∨ loc' r = none) {p : PV} {v : Value}
    (h : RV w ow loc p v) (hr : Refs n p) : RV w' ow' loc' p v := by
  induction h with
  | data p v h => exact .data p v (h.mono hs hb)
  | dang r off len full a n c h => cases hr with | sl _ _ _ _ hr => exact .dang r off len full a n c ((hl r hr).elim (fun e => e.trans h) id)
  | dangp r i j a h => cases hr with | ptr _ _ _ hr => exact .dangp r i j a ((hl r hr).elim (fun e => e.trans h) id)
  | slnil r full h => cases hr with | sl _ _ _ _ hr => exact (hl r hr).elim (fun e => .slnil r full (e.trans h)) fun e => .dang r 0 0 full _ _ _ e
  | sl r off len full L a c h hlc hc hf ha => cases hr with | sl _ _ _ _ hr => exact (hl r hr).elim (fun e => .sl r off len full L a c (e.trans h) hlc hc hf ha) fun e => .dang r off len full _ _ _ e
  | ptr r i j L h => cases hr with | ptr _ _ _ hr => exact (hl r hr).elim (fun e => .ptr r i j L (e.trans h)) fun e => .dangp r i j _ e
  | rptr p j b o us ho hm h1 hd h0 =>
    have hlt := World.block_lt_of_cell? w _ (hm 0 h0)
    exact .rptr p j b o us (fun h => ho (hb b hlt h)) (fun i hi => hs b _ _ ho (hm i hi)) h1 (fun i hi => (hd i hi).mono hs hb) h0
  | agg l vs hl' h1 hd ih => cases hr with | agg _ hr => exact .agg l vs hl' h1 fun i hi => ih i hi (hr i hi)
  | tup l vs hl' hd ih => cases hr with | tup _ hr => exact .tup l vs hl' fun i hi => ih i hi (hr i hi)

theorem Refs.mono {n m : Nat} (hnm : n ≤ m) {p : PV} (h : Refs n p) : Refs m p := by
  induction h with
  | sl r off len full h => exact .sl r off len full (by omega)
  | ptr r i j h => exact .ptr r i j (by omega)
  | agg l h ih => exact .agg l ih
  | tup l h ih => exact .tup l ih
  | _ => constructor

/-- The content of a row of the call's own. 'var': a variable in memory (a struct's cells). -/
inductive Row where
  | ints (k : IntKind) (l : List Int)
  | list (sz : Nat) (l : List PV)
  | var (l : List PV)

def unfrozen (fr : Nat × Nat) (n : Nat) : Prop := ∀ i, i < n → ¬ (fr.1 ≤ i ∧ i < fr.2)

def RowIn (w : World) (ow : Nat → Prop) (loc : Locs) (L : RowLoc) (cur : Array Value) : Row → Prop
  | .ints k l => L.sz = 1 ∧ l.length ≤ L.cap ∧ ∀ i, i < l.length → cur[L.o + i]? = some (.int k (l.getD i 0))
  | .list sz l => L.sz = sz ∧ 0 < sz ∧ l.length ≤ L.cap ∧ ∀ i, i < l.length → (cellsOf (l.getD i .undef)).length = sz ∧
      ∀ j, j < sz → ∃ u, cur[L.o + (i * sz + j)]? = some u ∧ u.oneCell' = true ∧ RD w ow ((cellsOf (l.getD i .undef)).getD j .undef) u
  | .var l => L.sz = l.length ∧ L.cap = 1 ∧ ∀ j, j < l.length → ∃ u, cur[L.o + j]? = some u ∧ u.oneCell' = true ∧ RV w ow loc (l.getD j .undef) u

def RowAt (w : World) (ow : Nat → Prop) (loc : Locs) : Option RowLoc → Row → Prop
  | none, .ints _ l => l = []
  | none, .list _ l => l = []
  | none, .var _ => False
  | some L, row => ∃ cur e fr, w.heap[L.b]? = some (.cells cur e fr) ∧ cur.size = L.o + L.cap * L.sz ∧ unfrozen fr cur.size ∧ RowIn w ow loc L cur row

def getRow : List (Nat × Row) → Nat → Option Row
  | [], _ => none
  | (k, row) :: rest, r => bif k == r then some row else getRow rest r


abbrev Frame := List (Nat × PV)

def Frame.get : Frame → Nat → PV
  | [], _ => .undef
  | (k, p) :: rest, t => bif k == t then p else Frame.get rest t

def Frame.put (F : Frame) (d : Option Nat) (p : PV) : Frame :=
  match d with
  | some d => (d, p) :: F
  | none => F

/-- The rows of the call's own; 'g': the frames of the callers, as they are known by now. -/
structure Heap where
  nx : Nat
  rows : List (Nat × Row)
  g : List Frame

def Heap.get (H : Heap) (r : Nat) : Option Row := getRow H.rows r

/-- The callers' frames. -/
def GS (w : World) (ow : Nat → Prop) (loc : Locs) (n : Nat) (g : List Frame) (gv : Nat → Nat → Value) : Prop :=
  ∀ i t, RV w ow loc ((g.getD i []).get t) (gv i t) ∧ Refs n ((g.getD i []).get t)

theorem GS.mono {w w' : World} {ow ow' : Nat → Prop} {loc loc' : Locs} {n : Nat} {g : List Frame} {gv : Nat → Nat → Value} (h : GS w ow loc n g gv) (hs : Stable ow w w') (hb : ∀ b, b < w.heap.size → ow' b → ow b) (hl : LocLe loc loc') : GS w' ow' loc' n g gv :=
  fun i t => ⟨(h i t).1.mono hs hb hl, (h i t).2⟩

theorem GS.newLoc {w w' : World} {ow ow' : Nat → Prop} {loc loc' : Locs} {n m : Nat} {g : List Frame} {gv : Nat → Nat → Value} (h : GS w ow loc n g gv) (hs : Stable ow w w') (hb : ∀ b, b < w.heap.size → ow' b → ow b) (hl : ∀ r, r < n → loc' r = loc r ∨ loc' r = none) (hm : n ≤ m) : GS w' ow' loc' m g gv :=
  fun i t => ⟨(h i t).1.newLoc hs hb hl (h i t).2, (h i t).2.mono hm⟩

/-- What the call began with: the world; which of the old blocks it may write; which blocks nobody else may be led to. -/
structure Entry where
  w0 : World
  S0 : Nat → Prop
  A : Nat → Prop
  gv : Nat → Nat → Value

structure HS (E : Entry) (H : Heap) (ow : Nat → Prop) (loc : Locs) (w : World) : Prop where
  rows : ∀ r row, H.get r = some row → ∃ L, loc r = some L ∧ RowAt w ow loc L row
  live : ∀ r L, loc r = some (some L) → ow L.b ∧ L.b < w.heap.size ∧ (E.w0.heap.size ≤ L.b ∨ E.S0 L.b)
  inj : ∀ r r' L L', loc r = some (some L) → loc r' = some (some L') → L.b = L'.b → r = r'
  old : ∀ b, b < E.w0.heap.size → ¬ E.S0 b → w.heap[b]? = E.w0.heap[b]?
  size : E.w0.heap.size ≤ w.heap.size
  os : w.os = E.w0.os
  tape : w.tape = E.w0.tape
  output : w.output = E.w0.output
  nx : ∀ r, H.nx ≤ r → loc r = none
  owlt : ∀ b, ow b → b < w.heap.size
  forb : ∀ b, E.A b → ow b
  alt : ∀ b, E.A b → b < E.w0.heap.size
  apart : ∀ r L, loc r = some (some L) → ¬ E.A L.b
  refs : ∀ r l, H.get r = some (.var l) → ∀ j, j < l.length → Refs H.nx (l.getD j .undef)
  gh : GS w ow loc H.nx H.g E.gv

structure FS (w : World) (ow : Nat → Prop) (loc : Locs) (n : Nat) (get : Nat → PV) (a : Act) : Prop where
  vals : ∀ t, RV w ow loc (get t) (a.tmps.getD t undef)
  refs : ∀ t, Refs n (get t)
  defers : a.defers = []

/-- The whole state: the frame's slots and the rows, as the proofs see them. -/
def St (E : Entry) (nt : Nat) (F : Frame) (H : Heap) (a : Act) (w : World) : Prop :=
  ∃ ow loc, HS E H ow loc w ∧ FS w ow loc H.nx F.get a ∧ a.tmps.size = nt

end Go.PV

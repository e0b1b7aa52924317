/- Pure values, part 2: types, and the operations that only read. -/
import Derived.Test.YtmoigffjpijpaaaV1
import Derived.Laws.StructEq
import Derived.Laws.Small
import Derived.Laws.Closers25b
namespace Go.PV
open Go Go.RowKit

inductive TD where
  | int (k : IntKind)
  | bool
  | str
  | slice (e : TypeId)
  | struct (fs : List (Nat × Nat × Bool))
  | ptr (e : TypeId)
  | other

structure TI where
  desc : TD
  size : Nat
  bytes : Nat
  z : Value

def isAggT (P : Program) (t : TypeId) : Bool :=
  match P.underlying t with
  | some (.struct _) | some (.array _ _) => true
  | _ => false

/-- A type's cells; 0 where the type is none. -/
def sizeT (P : Program) (t : TypeId) : Nat := bif (P.underlying t).isSome then P.cellsOf t else 0

def tdOf (P : Program) : TypeDesc → TD
  | .int k => .int k
  | .bool => .bool
  | .string => .str
  | .slice e => .slice e
  | .pointer e => .ptr e
  | .struct fs => .struct (fs.toList.map fun f => (f.offset, sizeT P f.type, isAggT P f.type))
  | _ => .other

structure TIOk (P : Program) (t : TypeId) (ti : TI) : Prop where
  d : (P.underlying t).map (tdOf P) = some ti.desc
  i : (P.info? t).map (fun i => (i.zero, i.size, i.bytes)) = some (some ti.z, ti.size, ti.bytes)
  s : ti.z.cells.size = ti.size

abbrev Tab := TypeId → Option TI

def TabOk (P : Program) (tt : Tab) : Prop := ∀ t ti, tt t = some ti → TIOk P t ti

section
variable {P : Program} {t : TypeId} {ti : TI}

theorem TIOk.ex (h : TIOk P t ti) : ∃ d, P.underlying t = some d ∧ tdOf P d = ti.desc := by
  have := h.d
  cases hu : P.underlying t with
  | none => rw [hu] at this; simp at this
  | some d => rw [hu] at this; exact ⟨d, rfl, by simpa using this⟩

theorem TIOk.under_slice (h : TIOk P t ti) {e : TypeId} (hd : ti.desc = .slice e) : P.underlying t = some (.slice e) := by
  obtain ⟨d, hu, hd'⟩ := h.ex
  rw [hd] at hd'
  cases d <;> simp [tdOf] at hd'
  subst hd'; exact hu

theorem TIOk.under_int (h : TIOk P t ti) {k : IntKind} (hd : ti.desc = .int k) : P.underlying t = some (.int k) := by
  obtain ⟨d, hu, hd'⟩ := h.ex
  rw [hd] at hd'
  cases d <;> simp [tdOf] at hd'
  subst hd'; exact hu

theorem TIOk.under_str (h : TIOk P t ti) (hd : ti.desc = .str) : P.underlying t = some .string := by
  obtain ⟨d, hu, hd'⟩ := h.ex
  rw [hd] at hd'
  cases d <;> simp [tdOf] at hd'
  exact hu

theorem TIOk.under_bool (h : TIOk P t ti) (hd : ti.desc = .bool) : P.underlying t = some .bool := by
  obtain ⟨d, hu, hd'⟩ := h.ex
  rw [hd] at hd'
  cases d <;> simp [tdOf] at hd'
  exact hu

theorem TIOk.under_struct (h : TIOk P t ti) {fs : List (Nat × Nat × Bool)} (hd : ti.desc = .struct fs) :
    ∃ fields, P.underlying t = some (.struct fields) ∧ fields.toList.map (fun f => (f.offset, sizeT P f.type, isAggT P f.type)) = fs := by
  obtain ⟨d, hu, hd'⟩ := h.ex
  rw [hd] at hd'
  cases d <;> simp [tdOf] at hd'
  exact ⟨_, hu, by simpa using hd'⟩

theorem TIOk.info (h : TIOk P t ti) : ∃ i, P.info? t = some i ∧ i.zero = some ti.z ∧ i.size = ti.size ∧ i.bytes = ti.bytes := by
  have := h.i
  cases hi : P.info? t with
  | none => rw [hi] at this; simp at this
  | some i => rw [hi] at this; simp at this; exact ⟨i, rfl, this⟩
end

def isStruct : TD → Bool
  | .struct _ => true
  | _ => false

def isOther : TD → Bool
  | .other => true
  | _ => false

theorem TIOk.run_agg {P : Program} {t : TypeId} {ti : TI} (h : TIOk P t ti) (ho : isOther ti.desc = false) (w : World) : (Go.isAgg t).run P w = .ok (isStruct ti.desc) w := by
  obtain ⟨d, hu, hd⟩ := h.ex
  rw [← hd] at ho ⊢
  cases d <;> simp [Go.isAgg, run_underlying hu, tdOf, isStruct] <;> simp [tdOf, isOther] at ho

-- values of the text
def toPV0 : Value → PV
  | .int k n => .int k n
  | .bool b => .bool b
  | .string s => .str (bytesI s)
  | .slice none 0 0 => .nil
  | .pointer none => .nilptr
  | _ => .undef

def toPV : Value → PV
  | .agg cs => bif cs.toList.all (·.oneCell') then .agg (cs.toList.map toPV0) else .undef
  | v => toPV0 v

theorem toPV0_ok (w : World) (ow : Nat → Prop) (v : Value) : RD w ow (toPV0 v) v := by
  unfold toPV0
  split <;> first | exact .int _ _ | exact .bool _ | exact .str _ _ rfl | exact .nil | exact .nilptr | exact .undef _

theorem toPV0_refs (n : Nat) (v : Value) : Refs n (toPV0 v) := by
  unfold toPV0
  split <;> constructor

theorem toPV_ok (w : World) (ow : Nat → Prop) (v : Value) : RD w ow (toPV v) v := by
  unfold toPV
  split
  · rename_i cs
    cases hc : cs.toList.all (·.oneCell') with
    | true =>
      simp only [cond_true]
      refine .agg _ _ (by simp) (fun u hu => List.all_eq_true.1 hc u hu) fun i hi => ?_
      have hi' : i < cs.size := by simpa using hi
      have e1 : (cs.toList.map toPV0).getD i .undef = toPV0 cs[i] := by simp [List.getD, hi']
      have e2 : cs.getD i undef = cs[i] := by simp [Array.getD, hi']
      rw [e1, e2]; exact toPV0_ok w ow _
    | false => exact .undef _
  · exact toPV0_ok w ow _

theorem toPV_refs (n : Nat) (v : Value) : Refs n (toPV v) := by
  unfold toPV
  split
  · rename_i cs
    cases hc : cs.toList.all (·.oneCell') with
    | true =>
      simp only [cond_true]
      refine .agg _ fun i hi => ?_
      have hi' : i < cs.size := by simpa using hi
      have e1 : (cs.toList.map toPV0).getD i .undef = toPV0 cs[i] := by simp [List.getD, hi']
      rw [e1]; exact toPV0_refs n _
    | false => exact .undef
  · exact toPV0_refs n _

def ev (get : Nat → PV) : Operand → PV
  | .tmp t => get t
  | .const v => toPV v
  | _ => .undef

-- the operations, each: what must hold, and what is handed on
def optI (v : Option PV) (d : Int) (K : Int → Prop) : Prop :=
  match v with
  | none => K d
  | some (.int _ n) => K n
  | _ => False

def cutL {α : Type} (l : List α) (lo hi : Option PV) : List α :=
  match lo, hi with
  | none, none => l
  | some (.int _ a), none => l.drop a.toNat
  | none, some (.int _ b) => l.take b.toNat
  | some (.int _ a), some (.int _ b) => (l.take b.toNat).drop a.toNat
  | _, _ => l

def rowLen : Option Row → Nat
  | some (.ints _ l) => l.length
  | some (.list _ l) => l.length
  | some (.var _) => 1
  | none => 0

def rowSz : Option Row → Nat
  | some (.ints _ _) => 1
  | some (.list sz _) => sz
  | some (.var l) => l.length
  | none => 0

def cutW (n : Nat) (lo hi mx : Option PV) (K : Prop) : Prop :=
  optI lo 0 fun a => optI hi n fun b =>
    match mx with
    | none => (0 ≤ a ∧ a ≤ b ∧ b ≤ n) ∧ K
    | some (.int _ m) => hi.isSome = true ∧ (0 ≤ a ∧ a ≤ b ∧ b ≤ m ∧ m ≤ n) ∧ K
    | _ => False

def sliceW (rows : Nat → Option Row) (d : TD) (esz : Nat) (p : PV) (lo hi mx : Option PV) (K : PV → Prop) : Prop :=
  match d, p with
  | .str, .str l => mx.isNone = true ∧ cutW l.length lo hi none (K (.str (cutL l lo hi)))
  | .slice _, .ints k l => esz = 1 ∧ cutW l.length lo hi mx (K (.ints k (cutL l lo hi)))
  | .slice _, .list sz l => 0 < sz ∧ esz = sz ∧ cutW l.length lo hi mx (K (.list sz (cutL l lo hi)))
  | .slice _, .nil => 0 < esz ∧ cutW 0 lo hi mx (K .nil)
  | .slice _, .sl r off len full =>
    0 < esz ∧ esz = rowSz (rows r) ∧ optI lo 0 fun a => optI hi len fun b =>
      match mx with
      | none => (0 ≤ a ∧ a ≤ b ∧ (b ≤ len ∨ full = true ∧ off + b ≤ rowLen (rows r))) ∧ K (.sl r (off + a.toNat) (b - a).toNat full)
      | some (.int _ m) => hi.isSome = true ∧ (0 ≤ a ∧ a ≤ b ∧ b ≤ m ∧ m ≤ len) ∧ K (.sl r (off + a.toNat) (b - a).toNat false)
      | _ => False
  | _, _ => False

def ibits (op : BinOp) (k : IntKind) (x y : Int) : Int :=
  let a := BitVec.ofInt k.bits x
  let b := BitVec.ofInt k.bits y
  match op with
  | .and => k.wrap (a &&& b).toNat
  | .or => k.wrap (a ||| b).toNat
  | .xor => k.wrap (a ^^^ b).toNat
  | _ => k.wrap (a &&& ~~~b).toNat

def strLess : List Int → List Int → Bool
  | _, [] => false
  | [], _ :: _ => true
  | a :: x, b :: y => decide (a < b) || (decide (a = b) && strLess x y)

def binW (op : BinOp) (p q : PV) (K : PV → Prop) : Prop :=
  match op with
  | .add => match p, q with
    | .int k a, .int k' b => k = k' ∧ K (.int k (k.wrap (a + b)))
    | .str a, .str b => a.length + b.length ≤ 9223372036854775807 ∧ K (.str (a ++ b))
    | _, _ => False
  | .sub => match p, q with
    | .int k a, .int k' b => k = k' ∧ K (.int k (k.wrap (a - b)))
    | _, _ => False
  | .mul => match p, q with
    | .int k a, .int k' b => k = k' ∧ K (.int k (k.wrap (a * b)))
    | _, _ => False
  | .quo => match p, q with
    | .int k a, .int k' b => k = k' ∧ b ≠ 0 ∧ K (.int k (k.wrap (a.tdiv b)))
    | _, _ => False
  | .rem => match p, q with
    | .int k a, .int k' b => k = k' ∧ b ≠ 0 ∧ K (.int k (a.tmod b))
    | _, _ => False
  | .and => match p, q with
    | .int k a, .int k' b => k = k' ∧ K (.int k (ibits .and k a b))
    | _, _ => False
  | .or => match p, q with
    | .int k a, .int k' b => k = k' ∧ K (.int k (ibits .or k a b))
    | _, _ => False
  | .xor => match p, q with
    | .int k a, .int k' b => k = k' ∧ K (.int k (ibits .xor k a b))
    | _, _ => False
  | .andNot => match p, q with
    | .int k a, .int k' b => k = k' ∧ K (.int k (ibits .andNot k a b))
    | _, _ => False
  | .shl => match p, q with
    | .int k a, .int _ b => 0 ≤ b ∧ K (.int k (k.wrap (a * 2 ^ min b.toNat k.bits)))
    | _, _ => False
  | .shr => match p, q with
    | .int k a, .int _ b => 0 ≤ b ∧ K (.int k (a.fdiv (2 ^ min b.toNat k.bits)))
    | _, _ => False
  | .eql => match p, q with
    | .int k a, .int k' b => k = k' ∧ K (.bool (decide (a = b)))
    | .str a, .str b => K (.bool (decide (a = b)))
    | _, _ => False
  | .neq => match p, q with
    | .int k a, .int k' b => k = k' ∧ K (.bool (!decide (a = b)))
    | .str a, .str b => K (.bool (!decide (a = b)))
    | _, _ => False
  | .lss => match p, q with
    | .int k a, .int k' b => k = k' ∧ K (.bool (decide (a < b)))
    | .str a, .str b => K (.bool (strLess a b))
    | _, _ => False
  | .leq => match p, q with
    | .int k a, .int k' b => k = k' ∧ K (.bool (decide (a ≤ b)))
    | .str a, .str b => K (.bool (strLess a b || decide (a = b)))
    | _, _ => False
  | .gtr => match p, q with
    | .int k a, .int k' b => k = k' ∧ K (.bool (decide (b < a)))
    | .str a, .str b => K (.bool (!(strLess a b || decide (a = b))))
    | _, _ => False
  | .geq => match p, q with
    | .int k a, .int k' b => k = k' ∧ K (.bool (decide (b ≤ a)))
    | .str a, .str b => K (.bool (!strLess a b))
    | _, _ => False

def unW (op : UnOp) (p : PV) (K : PV → Prop) : Prop :=
  match op with
  | .neg => match p with
    | .int k n => K (.int k (k.wrap (0 - n)))
    | _ => False
  | .xor => match p with
    | .int k n => K (.int k (ibits .xor k (if k.signed then -1 else k.max) n))
    | _ => False
  | .not => match p with
    | .bool b => K (.bool (!b))
    | _ => False
  | .plus => False

def byteOf (n : Int) : Int := ((n.toNat % 256 : Nat) : Int)

def strOf (rows : Nat → Option Row) (p : PV) (K : PV → Prop) : Prop :=
  match p with
  | .ints k l => k = .u8 ∧ K (.str (l.map byteOf))
  | .nil => K (.str [])
  | .sl r off len _ => match rows r with
    | some (.ints k l) => k = .u8 ∧ off + len ≤ l.length ∧ K (.str (((l.drop off).take len).map byteOf))
    | _ => False
  | _ => False

def convW (tt : Tab) (rows : Nat → Option Row) (src dst : TypeId) (p : PV) (K : PV → Prop) : Prop :=
  match tt src, tt dst with
  | some s, some d => match d.desc, p with
    | .int k', .int _ n => K (.int k' (k'.wrap n))
    | .str, .str l => isStruct s.desc = false ∧ K (.str l)
    | .str, p => match s.desc with
      | .slice e => match tt e with
        | some te => match te.desc with
          | .int .u8 => strOf rows p K
          | _ => False
        | none => False
      | _ => False
    | _, _ => False
  | _, _ => False

def partW (agg : Bool) (size : Nat) (ps : List PV) (j : Nat) (K : PV → Prop) : Prop :=
  match agg with
  | true => j + size ≤ ps.length ∧ K (.agg ((ps.drop j).take size))
  | false => j < ps.length ∧ K (ps.getD j .undef)

def loadW (rows : Nat → Option Row) (agg : Bool) (size : Nat) (p : PV) (K : PV → Prop) : Prop :=
  match p with
  | .rptr q j => partW agg size (cellsOf q) j K
  | .ptr r i j => match rows r with
    | some (.ints k l) => match agg with
      | true => False
      | false => (i < l.length ∧ j = 0) ∧ K (.int k (l.getD i 0))
    | some (.list _ l) => i < l.length ∧ partW agg size (cellsOf (l.getD i .undef)) j K
    | some (.var l) => i = 0 ∧ partW agg size l j K
    | none => False
  | _ => False

def elemSize (tt : Tab) : TD → Nat
  | .slice e => match tt e with
    | some te => te.size
    | none => 0
  | _ => 0

def idxW (rows : Nat → Option Row) (sz : Nat) (p : PV) (n : PV) (K : PV → Prop) : Prop :=
  match p, n with
  | .ints k l, .int _ n => sz = 1 ∧ (0 ≤ n ∧ n < l.length) ∧ K (.rptr (.int k (l.getD n.toNat 0)) 0)
  | .list sz' l, .int _ n => sz = sz' ∧ (0 ≤ n ∧ n < l.length) ∧ K (.rptr (l.getD n.toNat .undef) 0)
  | .sl r off len _, .int _ n => 0 < sz ∧ sz = rowSz (rows r) ∧ (0 ≤ n ∧ n < len) ∧ K (.ptr r (off + n.toNat) 0)
  | _, _ => False

def lenW (rows : Nat → Option Row) (d : TD) (p : PV) (K : PV → Prop) : Prop :=
  match d, p with
  | .str, .str l => K (.int .i64 l.length)
  | .slice _, .ints _ l => K (.int .i64 l.length)
  | .slice _, .list _ l => K (.int .i64 l.length)
  | .slice _, .nil => K (.int .i64 0)
  | .slice _, .sl r _ n _ => (rows r).isSome = true ∧ K (.int .i64 n)
  | _, _ => False

def setL (l : List PV) (off : Nat) : List PV → List PV
  | [] => l
  | c :: cs => setL (l.set off c) (off + 1) cs

def known : PV → Bool
  | .undef => false
  | .tup _ => false
  | _ => true

def fillW (fs : List (Nat × Nat × Bool)) (l : List PV) (K : List PV → Prop) : List (Nat × PV) → Prop
  | [] => K l
  | (i, p) :: rest => match fs[i]? with
    | some (off, sz, _) => known p = true ∧ (cellsOf p).length = sz ∧ off + sz ≤ l.length ∧ fillW fs (setL l off (cellsOf p)) K rest
    | none => False

def fieldAddrW (off : Nat) (p : PV) (K : PV → Prop) : Prop :=
  match p with
  | .ptr r i j => K (.ptr r i (j + off))
  | .rptr q j => K (.rptr q (j + off))
  | _ => False

def indexW (d : TD) (p q : PV) (K : PV → Prop) : Prop :=
  match d, p, q with
  | .str, .str l, .int _ n => (0 ≤ n ∧ n < l.length) ∧ K (.int .u8 (l.getD n.toNat 0))
  | _, _, _ => False

def extractW (i : Nat) (p : PV) (K : PV → Prop) : Prop :=
  match p with
  | .tup l => i < l.length ∧ K (l.getD i .undef)
  | _ => False

def nilCheckW (p : PV) (K : PV → Prop) : Prop :=
  match p with
  | .ptr r i j => K (.ptr r i j)
  | .rptr q j => K (.rptr q j)
  | _ => False

/-- The size of an element of a row must be the one that the text's type has. -/
def qw (tt : Tab) (rows : Nat → Option Row) (e : Operand → PV) (op : Op) (K : PV → Prop) : Prop :=
  match op with
  | .move x => K (e x)
  | .assign x => K (e x)
  | .pick c a b => match e c with
    | .bool t => K (bif t then e a else e b)
    | _ => False
  | .load t x => match tt t with
    | some ti => isOther ti.desc = false ∧ loadW rows (isStruct ti.desc) ti.size (e x) K
    | none => False
  | .nilCheck x => nilCheckW (e x) K
  | .binOp op _ x y _ => binW op (e x) (e y) K
  | .unOp op _ x => unW op (e x) K
  | .convert src dst x => convW tt rows src dst (e x) K
  | .slice t x lo hi mx => match tt t with
    | some ti => sliceW rows ti.desc (elemSize tt ti.desc) (e x) (lo.map e) (hi.map e) (mx.map e) K
    | none => False
  | .fieldAddr s x f => match tt s with
    | some ti => match ti.desc with
      | .struct fs => match fs[f]? with
        | some (off, sz, _) => sz ≠ 0 ∧ fieldAddrW off (e x) K
        | none => False
      | _ => False
    | none => False
  | .field s x f => match tt s with
    | some ti => match ti.desc with
      | .struct fs => match fs[f]?, e x with
        | some (off, sz, ag), .agg l => sz ≠ 0 ∧ partW ag sz l off K
        | _, _ => False
      | _ => False
    | none => False
  | .indexAddr t x i => match tt t with
    | some ti => match ti.desc with
      | .slice el => match tt el with
        | some te => idxW rows te.size (e x) (e i) K
        | none => False
      | _ => False
    | none => False
  | .index t x i => match tt t with
    | some ti => indexW ti.desc (e x) (e i) K
    | none => False
  | .extract x i => extractW i (e x) K
  | .build t parts => match tt t with
    | some ti => match ti.desc, toPV ti.z with
      | .struct fs, .agg zl => fs.all (fun f => f.2.1 != 0) = true ∧ fillW fs zl (fun l => K (.agg l)) (parts.toList.map fun (i, x) => (i, e x))
      | _, _ => False
    | none => False
  | .call c => match c.callee, c.args.toList, c.argTypes.toList with
    | .builtin .len, [x], [t] => match tt t with
      | some ti => lenW rows ti.desc (e x) K
      | none => False
    | .builtin .max, [x, y], _ => match e x, e y with
      | .int k a, .int _ b => K (.int k (if b > a then b else a))
      | _, _ => False
    | .builtin .min, [x, y], _ => match e x, e y with
      | .int k a, .int _ b => K (.int k (if b < a then b else a))
      | _, _ => False
    | _, _, _ => False
  | _ => False

end Go.PV

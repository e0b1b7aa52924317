/- Pure values, part 16: copy; calls; every operation in one theorem. -/
import Derived.Test.YtmoigffjpijpaaaV15
set_option linter.unusedVariables false
set_option linter.unusedSimpArgs false
namespace Go.PV
open Go Go.RowKit

def copyW (tt : Tab) (t : TypeId) (s x : PV) (H : Heap) (K : PV → Heap → Prop) : Prop :=
  match tt t with
  | some ti => match ti.desc, s with
    | .slice e, .sl r off len _ => match tt e, H.get r with
      | some te, some (.ints k l) => te.size = 1 ∧ off + len ≤ l.length ∧ srcI H.get k x fun xs =>
        K (.int .i64 (min xs.length len : Nat)) (H.set r (.ints k (l.take off ++ xs.take (min xs.length len) ++ l.drop (off + min xs.length len))))
      | _, _ => False
    | _, _ => False
  | none => False

/-- What a call is handed: the rows as they now read. -/
def view0 (rows : Nat → Option Row) : PV → PV
  | .sl r off len _ => match rows r with
    | some (.ints k l) => .ints k ((l.drop off).take len)
    | some (.list sz l) => .list sz ((l.drop off).take len)
    | _ => .undef
  | .agg _ => .undef
  | .tup _ => .undef
  | .ptr .. => .undef
  | .rptr .. => .undef
  | p => p

def view (rows : Nat → Option Row) : PV → PV
  | .agg l => .agg (l.map (view0 rows))
  | p => view0 rows p

/-- What is handed over lies within its row. -/
def okView0 (rows : Nat → Option Row) : PV → Prop
  | .sl r off len _ => match rows r with
    | some (.ints _ l) => off + len ≤ l.length
    | some (.list _ l) => off + len ≤ l.length
    | _ => True
  | _ => True

def okViews0 (rows : Nat → Option Row) : List PV → Prop
  | [] => True
  | p :: rest => okView0 rows p ∧ okViews0 rows rest

def okView (rows : Nat → Option Row) : PV → Prop
  | .agg l => okViews0 rows l
  | p => okView0 rows p

def okViews (rows : Nat → Option Row) : List PV → Prop
  | [] => True
  | p :: rest => okView rows p ∧ okViews rows rest

def ids0 : PV → List Nat
  | .sl r _ _ _ => [r]
  | _ => []

def ids : PV → List Nat
  | .agg l => l.flatMap ids0
  | p => ids0 p

def Back (w : World) (A : Nat → Prop) (res : PV) (v : Value) (w' : World) : Prop := Below w.heap.size w w' ∧ RD w' A res v

/-- A call that comes to its end, with what it hands back. -/
def CallsTo (P : Program) (f : FuncId) (vs : Array Value) (w : World) (R : Value → World → Prop) : Prop :=
  ((callFunc f vs).run P w = .ok (.enter f vs) w ∧ Calls P f vs w fun e w' => ∃ v, e = .returned v ∧ R v w') ∨ ∃ v w', (callFunc f vs).run P w = .ok (.value v) w' ∧ R v w'

/-- **The contract of a function that only computes:** handed these values it hands back that one, and writes to no memory that was there. -/
def Meets (P : Program) (f : FuncId) (args : List PV) (res : PV) : Prop :=
  ∀ (w : World) (A : Nat → Prop) (vs : Array Value), (∀ b, A b → b < w.heap.size) → args.length = vs.size → (∀ i, i < args.length → RD w A (args.getD i .undef) (vs.getD i undef)) → CallsTo P f vs w (Back w A res)

def dropRows (l : List Nat) : List (Nat × Row) → List (Nat × Row)
  | [] => []
  | (k, row) :: rest => bif l.contains k then dropRows l rest else (k, row) :: dropRows l rest

def Heap.drop (H : Heap) (l : List Nat) : Heap := { H with rows := dropRows l H.rows }

/-- A call: what it is handed is read; where what comes back may lead to memory that was handed over, those rows are the call's own no more. -/
def callW (P : Program) (f : FuncId) (args : List PV) (H : Heap) (K : PV → Heap → Prop) : Prop :=
  okViews H.get args ∧ ∃ res, Meets P f (args.map (view H.get)) res ∧ (match flatB res || args.all dataB with
    | true => K res H
    | false => K res (H.drop (args.flatMap ids)))

/-- **The contract of a function that may write to rows of the caller's:** 'H': the rows when it begins, 'R': what it hands back and the rows then. -/
def HMeets (P : Program) (f : FuncId) (args : List PV) (H : Heap) (R : PV → Heap → Prop) : Prop :=
  ∀ (E : Entry) (ow : Nat → Prop) (loc : Locs) (w : World) (vs : Array Value), HS E H ow loc w → args.length = vs.size →
    (∀ i, i < args.length → RV w ow loc (args.getD i .undef) (vs.getD i undef) ∧ Refs H.nx (args.getD i .undef)) →
    CallsTo P f vs w fun v w' => ∃ res H' ow' loc', R res H' ∧ HS E H' ow' loc' w' ∧ RV w' ow' loc' res v ∧ Refs H'.nx res

/-- A call that may write to rows of the caller's: the caller's frame waits in the heap. -/
def callI (P : Program) (f : FuncId) (args : List PV) (F : Frame) (H : Heap) (K : PV → Frame → Heap → Prop) : Prop :=
  HMeets P f args ⟨H.nx, H.rows, F :: H.g⟩ fun res H' => ∃ F' g', H'.g = F' :: g' ∧ K res F' ⟨H'.nx, H'.rows, g'⟩

def callB (P : Program) (f : FuncId) (args : List PV) (F : Frame) (H : Heap) (K : PV → Frame → Heap → Prop) : Prop :=
  callW P f args H (fun q H' => K q F H') ∨ callI P f args F H K

def isBytes (tt : Tab) (src dst : TypeId) : Bool :=
  match tt src, tt dst with
  | some s, some d => match s.desc, d.desc with
    | .str, .slice e => match tt e with
      | some te => match te.desc with
        | .int .u8 => true
        | _ => false
      | none => false
    | _, _ => false
  | _, _ => false

def strBytesW (p : PV) (H : Heap) (K : PV → Heap → Prop) : Prop :=
  match p with
  | .str l => l.length ≤ 9223372036854775807 ∧ K (.sl H.nx 0 l.length true) (H.new (.ints .u8 l))
  | _ => False

def killF (kl : Option Nat) (F : Frame) : Frame :=
  match kl with
  | none => F
  | some r => Frame.kill r F

def builtinW (tt : Tab) (b : Builtin) (args : List PV) (ts : List TypeId) (H : Heap) (K : PV → Heap → Option Nat → Prop) : Prop :=
  match b, args, ts with
  | .append, [s, x], [t, u] => appW tt t u s x H K
  | .copy, [s, x], [t, _] => copyW tt t s x H fun q H' => K q H' none
  | _, _, _ => False

def isEffect : Builtin → Bool
  | .append | .copy => true
  | _ => false

/-- **An operation, as the proofs see it.** -/
def opW (P : Program) (tt : Tab) (o : Oper) (F : Frame) (H : Heap) (K : Frame → Heap → Prop) : Prop :=
  match o.op with
  | .store t x y => storeW tt t (ev F.get x) (ev F.get y) H fun H' => K (F.put o.dst (.tup [])) H'
  | .box t x => known (ev F.get x) = true ∧ K (F.put o.dst (.ptr H.nx 0 0)) (H.new (.var (cellsOf (ev F.get x))))
  | .alloc t => match tt t with
    | some ti => known (toPV ti.z) = true ∧ K (F.put o.dst (.ptr H.nx 0 0)) (H.new (.var (cellsOf (toPV ti.z))))
    | none => False
  | .makeSlice t l c => makeW tt t (ev F.get l) (ev F.get c) H fun q H' => K (F.put o.dst q) H'
  | .buildSlice t len parts => litW tt t len (parts.toList.map fun x => (x.1, ev F.get x.2)) H fun q H' => K (F.put o.dst q) H'
  | .convert src dst x => match isBytes tt src dst with
    | true => strBytesW (ev F.get x) H fun q H' => K (F.put o.dst q) H'
    | false => convW tt H.get src dst (ev F.get x) fun p => K (F.put o.dst p) H
  | .call c => match c.callee with
    | .builtin b => match isEffect b with
      | true => builtinW tt b (c.args.toList.map (ev F.get)) c.argTypes.toList H fun q H' kl => K ((killF kl F).put o.dst q) H'
      | false => qw tt H.get (ev F.get) o.op fun p => K (F.put o.dst p) H
    | .value (.func f) => callB P f (c.args.toList.map (ev F.get)) F H fun q F' H' => K (F'.put o.dst q) H'
    | _ => False
  | op => qw tt H.get (ev F.get) op fun p => K (F.put o.dst p) H

section
variable {P : Program} {w w' : World} {ow ow' : Nat → Prop} {loc loc' : Locs} {n nt : Nat} {E : Entry} {H : Heap} {F : Frame} {a : Act} {tt : Tab} {rows : Nat → Option Row}

theorem copy_sound (hT : TabOk P tt) (hs : HS E H ow loc w) {t u ty : TypeId} {s x : PV} {vs vx : Value} {K : PV → Heap → Prop} (hps : RV w ow loc s vs) (hpx : RV w ow loc x vx) (h : copyW tt t s x H K) :
    ∃ q H', K q H' ∧ ∃ cv w', (Builtin.copy_ #[t, u] ty #[vs, vx]).run P w = .ok cv w' ∧ HS E H' ow loc w' ∧ Stable ow w w' ∧ RD w' ow q cv ∧ (∀ m, Refs m q) ∧ H'.nx = H.nx := by
  have hrows := hs.rowsOk
  unfold copyW at h
  cases hti : tt t with
  | none => rw [hti] at h; exact h.elim
  | some ti =>
  rw [hti] at h
  simp only at h
  split at h
  · rename_i e r off len full hd
    cases hte : tt e with
    | none => rw [hte] at h; exact h.elim
    | some te =>
    cases hrw : H.get r with
    | none => rw [hte, hrw] at h; exact h.elim
    | some row =>
    rw [hte, hrw] at h
    cases row with
    | list => exact h.elim
    | var => exact h.elim
    | ints k l =>
    obtain ⟨h1, hle, h⟩ := h
    obtain ⟨xs, hK, hsr⟩ := srcI_sound (P := P) hrows hpx h
    obtain ⟨i, hi, hz, his, hby⟩ := (hT _ _ hte).info
    obtain ⟨Lo, c, hLo, hat, hbase⟩ := base_of hrows hrw hps 1 (fun L hat => by obtain ⟨_, _, _, _, _, _, hin⟩ := hat; exact hin.1)
    have hmin : Nat.min xs.length len = min xs.length len := rfl
    have hfirst := hsr.firstN w rfl (min xs.length len) (Nat.min_le_left _ _)
    have hlen := hsr.len w
    have hsize : i.size = 1 := by rw [his, h1]
    cases hbase with
    | nil off full =>
      have hl0 : l = [] := hat
      subst hl0
      have hz0 : min xs.length 0 = 0 := Nat.min_zero _
      rw [hz0] at hK hfirst
      refine ⟨_, _, hK, .int .i64 0, w, ?_, ?_, Stable.refl _ _, .int _ _, fun m => .int _ _, rfl⟩
      · simp [Builtin.copy_, run_underlying ((hT _ _ hti).under_slice hd), hlen, sizeOf, typeInfo, hi, hsize, hfirst, goInt]
      · have hrow := hs
        refine ⟨?_, hs.live, hs.inj, hs.old, hs.size, hs.os, hs.tape, hs.output, hs.nx, hs.owlt, hs.forb, hs.alt, hs.apart, ?_, hs.gh⟩
        · intro r' row' hr'
          rw [Heap.get_set] at hr'
          split at hr'
          · rename_i e; subst e; injection hr' with hr'; subst hr'
            exact ⟨none, hLo, by simp [RowAt]⟩
          · exact hs.rows r' row' hr'
        · intro r' l' hr' j hj
          rw [Heap.get_set] at hr'
          split at hr'
          · injection hr' with hr'; cases hr'
          · exact hs.refs r' l' hr' j hj
    | at_ L off full A len c hlc hc hf ha hsz =>
      obtain ⟨cur, e', fr, hb, hcs, hfr, hs1, hcap, hcell⟩ := hat
      have hvl : ((xs.map (Value.int k)).take (min xs.length len * 1)).length = min xs.length len := by rw [List.length_take, List.length_map]; omega
      by_cases hn0 : min xs.length len = 0
      · rw [hn0] at hK hfirst
        simp only [List.take_zero, List.append_nil, Nat.add_zero, List.take_append_drop] at hK
        refine ⟨_, _, hK, .int .i64 0, w, ?_, ?_, Stable.refl _ _, .int _ _, fun m => .int _ _, rfl⟩
        · simp [Builtin.copy_, run_underlying ((hT _ _ hti).under_slice hd), hlen, hmin, hn0, sizeOf, typeInfo, hi, hsize, hfirst, goInt, storeCells]
        · exact hs.upd hLo ⟨rfl, rfl, rfl, Nat.le_refl _, fun _ _ _ => rfl⟩ rfl ⟨cur, e', fr, hb, hcs, hfr, hs1, hcap, hcell⟩ (fun l e => by cases e)
      · have hst := storeCells_ok (P := P) L.b (L.o + off * 1) e' fr ((xs.map (Value.int k)).take (min xs.length len * 1)) 0 cur w hb hfr (by rw [hvl, hcs, hs1]; omega) (fun v hv => oneInt k xs v (List.mem_of_mem_take hv))
        simp only [Nat.add_zero] at hst
        have hA : A = ⟨L.b, L.o + off * 1, none⟩ := ha.resolve_left (by omega)
        have hc2 := Chg.of_setRow w L.b (cur.toList.take (L.o + off * 1) ++ (xs.map (Value.int k)).take (min xs.length len * 1) ++ cur.toList.drop (L.o + off * 1 + ((xs.map (Value.int k)).take (min xs.length len * 1)).length)).toArray
        have hstab := Stable.of_chg hc2 (hs.live r L hLo).1
        have hle2 : L.o + off * 1 + ((xs.map (Value.int k)).take (min xs.length len * 1)).length ≤ cur.size := by rw [hvl, hcs, hs1]; omega
        have hss := splice_size cur _ _ hle2
        refine ⟨_, _, hK, .int .i64 (min xs.length len : Nat), _, ?_, ?_, hstab, .int _ _, fun m => .int _ _, rfl⟩
        · rw [hA]
          simp [Builtin.copy_, run_underlying ((hT _ _ hti).under_slice hd), hlen, hmin, sizeOf, typeInfo, hi, hsize, hfirst, goInt]
          have := hst
          simp at this
          rw [this]
          rfl
        · refine hs.upd hLo hc2 (by simp) ⟨_, e', fr, setRow_heap w L.b cur _ e' fr hb, hss.trans hcs, by rw [hss]; exact hfr, hs1, ?_, fun j hj => ?_⟩ (fun l e => by cases e)
          · simp; omega
          · have hlj : j < l.length := by simp at hj; omega
            rw [splice_get cur _ _ hle2, hvl]
            by_cases hj1 : j < off
            · rw [if_pos (by omega), hcell j hlj]
              congr 1
              rw [List.append_assoc]
              simp [List.getD, List.getElem?_append_left (show j < (l.take off).length by rw [List.length_take]; omega), hj1]
            · rw [if_neg (by omega)]
              by_cases hj2 : j < off + min xs.length len
              · rw [if_pos (by omega)]
                rw [Nat.mul_one, Nat.mul_one, show L.o + j - (L.o + off) = j - off by omega, List.getElem?_take, if_pos (by omega), List.getElem?_map]
                have hlt : j - off < xs.length := by omega
                rw [List.getElem?_eq_getElem hlt]
                have e1 : (l.take off ++ xs.take (min xs.length len) ++ l.drop (off + min xs.length len)).getD j 0 = xs[j - off] := by
                  rw [List.append_assoc]
                  have ho : (l.take off).length = off := by simp; omega
                  simp only [List.getD]
                  rw [List.getElem?_append_right (by omega), ho, List.getElem?_append_left (by simp; omega), List.getElem?_take, if_pos (by omega), List.getElem?_eq_getElem hlt]
                  rfl
                rw [e1]
                rfl
              · rw [if_neg (by omega), hcell j hlj]
                congr 2
                have ho : (l.take off ++ xs.take (min xs.length len)).length = off + min xs.length len := by simp; omega
                simp only [List.getD]
                rw [List.getElem?_append_right (by omega), ho, List.getElem?_drop]
                congr 2
                omega
  · exact h.elim

-- calls
/-- The blocks of these rows. -/
def blocksOf (loc : Locs) (l : List Nat) (b : Nat) : Prop := ∃ r, r ∈ l ∧ ∃ L, loc r = some (some L) ∧ b = L.b

/-- The blocks that a call may not hand back. -/
def lessOf (ow : Nat → Prop) (loc : Locs) (l : List Nat) (b : Nat) : Prop := ow b ∧ ¬ blocksOf loc l b

theorem less_le (ow : Nat → Prop) (loc : Locs) (l : List Nat) : ∀ b, lessOf ow loc l b → ow b := fun _ h => h.1

theorem RD.less {l : List Nat} {p : PV} {v : Value} (h : RD w ow p v) : RD w (lessOf ow loc l) p v := by
  induction h with
  | undef v => exact .undef v
  | int k n => exact .int k n
  | bool b => exact .bool b
  | str s l h => exact .str s l h
  | nil => exact .nil
  | nilptr => exact .nilptr
  | intsNil k => exact .intsNil k
  | listNil sz => exact .listNil sz
  | intsE k a cap => exact .intsE k a cap
  | listE sz a cap => exact .listE sz a cap
  | ints k l n b o cap hn hc ho hm => exact .ints k l n b o cap hn hc (fun h => ho h.1) hm
  | list sz l n b o cap us hn hc ho hsz hz hm h1 hd ih => exact .list sz l n b o cap us hn hc (fun h => ho h.1) hsz hz hm h1 ih
  | agg l vs hl h1 hd ih => exact .agg l vs hl h1 ih
  | tup l vs hl hd ih => exact .tup l vs hl ih

theorem view0_ok (hrows : RowsOk w ow loc n rows) {p : PV} {v : Value} (h : RV w ow loc p v) (hok : okView0 rows p) (S : List Nat) (hS : ∀ r, r ∈ ids0 p → r ∈ S) : RD w (lessOf ow loc S) (view0 rows p) v := by
  cases p with
  | sl r off len full =>
    simp only [view0]
    simp only [okView0] at hok
    have hrS : r ∈ S := hS r (by simp [ids0])
    cases hrw : rows r with
    | none => exact .undef _
    | some row =>
      rw [hrw] at hok
      obtain ⟨Lo, hLo, hat⟩ := hrows.at_ r row hrw
      cases row with
      | var l => exact .undef _
      | ints k l =>
        simp only at hok
        have hlen : len = ((l.drop off).take len).length := by simp; omega
        cases h with
        | data _ _ h => cases h
        | dang _ _ _ _ a m c hl => exact absurd hl (hrows.ne hrw)
        | slnil _ _ hl =>
          rw [hLo] at hl; injection hl with hl; subst hl
          have : l = [] := hat
          subst this
          exact .intsNil k
        | sl _ _ _ _ L a c hl hlc hc hf ha =>
          rw [hLo] at hl; injection hl with hl; subst hl
          obtain ⟨cur, e, fr, hb, hsz, hfr, hs1, hcap, hcell⟩ := hat
          by_cases hl0 : len = 0
          · subst hl0
            simp only [List.take_zero]
            exact .intsE k a c
          · rw [ha.resolve_left (by omega)]
            refine .ints k _ _ L.b _ c hlen hlc (fun h => h.2 ⟨r, hrS, L, hLo, rfl⟩) fun i hi => ?_
            rw [← hlen] at hi
            rw [cell_of_row' hb, hs1, Nat.mul_one, Nat.add_assoc, hcell _ (by omega)]
            simp [List.getD, hi]
      | list sz l =>
        simp only at hok
        have hlen : len = ((l.drop off).take len).length := by simp; omega
        cases h with
        | data _ _ h => cases h
        | dang _ _ _ _ a m c hl => exact absurd hl (hrows.ne hrw)
        | slnil _ _ hl =>
          rw [hLo] at hl; injection hl with hl; subst hl
          have : l = [] := hat
          subst this
          exact .listNil sz
        | sl _ _ _ _ L a c hl hlc hc hf ha =>
          rw [hLo] at hl; injection hl with hl; subst hl
          obtain ⟨cur, e, fr, hb, hsz, hfr, hs1, hpos, hcap, hcell⟩ := hat
          by_cases hl0 : len = 0
          · subst hl0
            simp only [List.take_zero]
            exact .listE sz a c
          · rw [ha.resolve_left (by omega)]
            have hget : ∀ i, i < len → ((l.drop off).take len).getD i .undef = l.getD (off + i) .undef := fun i hi => by simp [List.getD, hi]
            have hcur : ∀ i j, i < len → j < sz → ∃ u, cur[L.o + ((off + i) * sz + j)]? = some u ∧ u.oneCell' = true ∧ RD w ow ((cellsOf (l.getD (off + i) .undef)).getD j .undef) u := fun i j hi hj => (hcell (off + i) (by omega)).2 j hj
            refine .list sz _ _ L.b _ c (fun i j => cur.getD (L.o + ((off + i) * sz + j)) undef) hlen hlc (fun h => h.2 ⟨r, hrS, L, hLo, rfl⟩) hpos ?_ ?_ ?_ ?_
            · intro i hi
              rw [← hlen] at hi
              rw [hget i hi]; exact (hcell _ (by omega)).1
            all_goals
              intro i j hi hj
              rw [← hlen] at hi
              obtain ⟨u, h1, h2, h3⟩ := hcur i j hi hj
            · rw [cell_of_row' hb, hs1, Array.getD_eq_getD_getElem?, h1, Option.getD_some, ← h1]
              congr 1
              rw [Nat.add_mul]
              omega
            · rw [Array.getD_eq_getD_getElem?, h1]; exact h2
            · rw [Array.getD_eq_getD_getElem?, h1, hget i hi]; exact h3.less
  | agg l => exact .undef _
  | tup l => exact .undef _
  | ptr r i j => exact .undef _
  | rptr q j => exact .undef _
  | _ =>
    cases h with
    | data _ _ h => exact h.less

theorem okViews0_get : ∀ (l : List PV), okViews0 rows l → ∀ i, i < l.length → okView0 rows (l.getD i .undef)
  | [], _, i, hi => by simp at hi
  | p :: rest, h, i, hi => by
    cases i with
    | zero => exact h.1
    | succ i => simp only [List.getD_cons_succ]; exact okViews0_get rest h.2 i (by simpa using hi)

theorem okViews_get : ∀ (l : List PV), okViews rows l → ∀ i, i < l.length → okView rows (l.getD i .undef)
  | [], _, i, hi => by simp at hi
  | p :: rest, h, i, hi => by
    cases i with
    | zero => exact h.1
    | succ i => simp only [List.getD_cons_succ]; exact okViews_get rest h.2 i (by simpa using hi)

theorem getD_mem {l : List PV} {i : Nat} (hi : i < l.length) : l.getD i .undef ∈ l := by
  rw [List.getD_eq_getElem?_getD, List.getElem?_eq_getElem hi]; exact List.getElem_mem hi

theorem view_ok (hrows : RowsOk w ow loc n rows) {p : PV} {v : Value} (h : RV w ow loc p v) (hok : okView rows p) (S : List Nat) (hS : ∀ r, r ∈ ids p → r ∈ S) : RD w (lessOf ow loc S) (view rows p) v := by
  cases p with
  | agg l =>
    obtain ⟨vs, rfl, hl, h1, hd⟩ := rv_agg h
    simp only [view]
    refine .agg _ vs (by simpa using hl) h1 fun i hi => ?_
    rw [List.length_map] at hi
    have e : (l.map (view0 rows)).getD i .undef = view0 rows (l.getD i .undef) := getD_map_undef _ rfl l i
    rw [e]
    refine view0_ok hrows (hd i hi) (okViews0_get l hok i hi) S fun r hr => hS r ?_
    simp only [ids, List.mem_flatMap]
    exact ⟨_, getD_mem hi, hr⟩
  | _ => exact view0_ok hrows h hok S hS

theorem ids0_data {p : PV} (h : dataB0 p = true) : ids0 p = [] := by cases p <;> first | rfl | (simp [dataB0] at h)
theorem ids_data {p : PV} (h : dataB p = true) : ids p = [] := by
  cases p with
  | agg l =>
    simp only [ids, List.flatMap_eq_nil_iff]
    exact fun x hx => ids0_data (List.all_eq_true.1 h x hx)
  | _ => first | rfl | (simp [dataB, dataB0] at h)

theorem getRow_drop (l : List Nat) (rows : List (Nat × Row)) (r : Nat) (row : Row) (h : getRow (dropRows l rows) r = some row) : getRow rows r = some row ∧ r ∉ l ∨ (∃ row', getRow rows r = some row' ∧ r ∉ l ∧ row = row') := by
  induction rows with
  | nil => cases h
  | cons x rest ih =>
    obtain ⟨k, row0⟩ := x
    simp only [dropRows] at h
    cases hc : l.contains k with
    | true =>
      rw [hc] at h
      simp only [cond_true] at h
      have hk : k ∈ l := by simpa using hc
      rcases ih h with ⟨h1, h2⟩ | ⟨row', h1, h2, h3⟩
      · left
        refine ⟨?_, h2⟩
        have : (k == r) = false := by
          rw [beq_eq_false_iff_ne]; rintro rfl; exact h2 hk
        simp only [getRow, this, cond_false]; exact h1
      · subst h3
        left
        refine ⟨?_, h2⟩
        have : (k == r) = false := by
          rw [beq_eq_false_iff_ne]; rintro rfl; exact h2 hk
        simp only [getRow, this, cond_false]; exact h1
    | false =>
      rw [hc] at h
      simp only [cond_false, getRow] at h ⊢
      have hk : k ∉ l := by intro hm; simp [hm] at hc
      cases hkr : k == r with
      | true =>
        rw [hkr] at h
        simp only [cond_true] at h ⊢
        have : k = r := by simpa using hkr
        subst this
        exact .inl ⟨h, hk⟩
      | false =>
        rw [hkr] at h
        simp only [cond_false] at h ⊢
        exact ih h

theorem drop_le (S : List Nat) (loc : Locs) : LocLe loc (fun r => bif S.contains r then none else loc r) := fun r => by
  show (bif S.contains r then none else loc r) = loc r ∨ (bif S.contains r then none else loc r) = none
  cases S.contains r <;> simp

/-- Rows that are the call's own no more. -/
theorem HS.drop (h : HS E H ow loc w) (S : List Nat) : HS E (H.drop S) (lessOf ow loc S) (fun r => bif S.contains r then none else loc r) w := by
  have hlo := drop_le S loc
  have hsome : ∀ r x, (bif S.contains r then none else loc r) = some x → loc r = some x ∧ r ∉ S := fun r x hx => by
    cases hc : S.contains r with
    | true => rw [hc] at hx; cases hx
    | false => rw [hc] at hx; exact ⟨hx, by intro hm; simp [hm] at hc⟩
  have hget : ∀ r row, (H.drop S).get r = some row → H.get r = some row ∧ r ∉ S := fun r row hr => by
    rcases getRow_drop S H.rows r row hr with h1 | ⟨row', h1, h2, h3⟩
    · exact h1
    · subst h3; exact ⟨h1, h2⟩
  refine ⟨?_, ?_, ?_, h.old, h.size, h.os, h.tape, h.output, ?_, fun b hb => h.owlt b hb.1, ?_, h.alt, ?_, ?_, h.gh.mono (fun b o u _ hc => hc) (fun b _ hb => hb.1) hlo⟩
  · intro r row hr
    obtain ⟨hr, hn⟩ := hget r row hr
    obtain ⟨L, hL, hat⟩ := h.rows r row hr
    refine ⟨L, ?_, hat.mono (n := H.nx) (fun b o u _ hc => hc) (fun b _ hb => hb.1) (fun r _ => hlo r) (fun l e => h.refs r l (by rw [hr, e])) fun M _ => rfl⟩
    have : S.contains r = false := by
      cases hc : S.contains r with
      | true => exact absurd (by simpa using hc) hn
      | false => rfl
    simp only [this, cond_false]; exact hL
  · intro r L hL
    obtain ⟨hL, hn⟩ := hsome r _ hL
    have := h.live r L hL
    exact ⟨⟨this.1, fun ⟨r', hr', L', hL', e⟩ => by have := h.inj r r' L L' hL hL' e; subst this; exact hn hr'⟩, this.2⟩
  · intro r r' L L' h1 h2
    exact h.inj r r' L L' (hsome r _ h1).1 (hsome r' _ h2).1
  · intro r hr
    show (bif S.contains r then none else loc r) = none
    rw [h.nx r hr]
    cases S.contains r <;> rfl
  · intro b hA
    exact ⟨h.forb b hA, fun ⟨r, _, L, hL, e⟩ => by subst e; exact h.apart r L hL hA⟩
  · intro r L hL
    exact h.apart r L (hsome r _ hL).1
  · intro r l hr
    exact h.refs r l (hget r _ hr).1

theorem FS.drop {get : Nat → PV} (h : FS w ow loc n get a) (S : List Nat) : FS w (lessOf ow loc S) (fun r => bif S.contains r then none else loc r) n get a :=
  ⟨fun t => (h.vals t).mono (fun b o u _ hc => hc) (fun b _ hb => hb.1) (drop_le S loc), h.refs, h.defers⟩
end
end Go.PV

/- Pure values, part 8: memory: stores, new rows, append, as the machine carries them out. -/
import Derived.Test.YtmoigffjpijpaaaV7
set_option linter.unusedVariables false
set_option linter.unusedSimpArgs false
namespace Go.PV
open Go Go.RowKit

/-- One block may have turned, and new blocks may have come. -/
structure Chg (w w' : World) (b : Nat) : Prop where
  os : w'.os = w.os
  tape : w'.tape = w.tape
  output : w'.output = w.output
  size : w.heap.size ≤ w'.heap.size
  block : ∀ k, k < w.heap.size → k ≠ b → w'.heap[k]? = w.heap[k]?

section
variable {P : Program} {w : World}

theorem Chg.of_setRow (w : World) (b : Nat) (cs : Array Value) : Chg w (w.setRow b cs) b :=
  ⟨rfl, rfl, rfl, by simp, fun k _ h => setRow_other w b k cs h⟩

theorem Chg.of_alloc (w : World) (o : Obj) (b : Nat) : Chg w (w.alloc o) b :=
  ⟨rfl, rfl, rfl, by simp, fun k h _ => heap_alloc_old w o k h⟩

theorem Chg.of_drew_alloc (w : World) (o : Obj) (b : Nat) : Chg w (w.drew.alloc o) b :=
  ⟨rfl, rfl, rfl, by simp, fun k h _ => heap_alloc_old w.drew o k h⟩

theorem frozen_row {b : Nat} {cur : Array Value} {e : TypeId} {fr : Nat × Nat} (hb : w.heap[b]? = some (.cells cur e fr)) (hf : unfrozen fr cur.size) {j : Nat} (hj : j < cur.size) : w.frozen? ⟨b, j, none⟩ = false := by
  have := hf j hj
  simp only [World.frozen?, hb]
  simp only [Bool.and_eq_false_iff, decide_eq_false_iff_not]
  omega

theorem storeCells_ok (b o : Nat) (e : TypeId) (fr : Nat × Nat) : ∀ (vs : List Value) (i : Nat) (cur : Array Value) (w : World), w.heap[b]? = some (.cells cur e fr) → unfrozen fr cur.size → o + i + vs.length ≤ cur.size → (∀ v ∈ vs, v.oneCell' = true) →
    (storeCells ⟨b, o, none⟩ vs i).run P w = .ok () (w.setRow b (cur.toList.take (o + i) ++ vs ++ cur.toList.drop (o + i + vs.length)).toArray)
  | [], i, cur, w, hg, _, _, _ => by
    simp only [storeCells, List.append_nil, List.length_nil, Nat.add_zero, List.take_append_drop, Array.toArray_toList]
    rw [setRow_self w b cur e fr hg]
    rfl
  | v :: rest, i, cur, w, hg, hf, hl, h1 => by
    have hi : o + i < cur.size := by simp at hl; omega
    have hcell : w.cell? ⟨b, o + i, none⟩ = some cur[o + i] := by simp [World.cell?, hg, hi]
    have hfro := frozen_row hg hf hi
    have hst : (store ((⟨b, o, none⟩ : Addr).add i) v).run P w = .ok () (w.setRow b (cur.setIfInBounds (o + i) v)) := by
      rw [cell_off, run_store P w _ v _ (h1 v (by simp)), hcell]
      simp [hfro, setCell_eq_setRow w b (o + i) cur e fr v hg]
    have ih := storeCells_ok b o e fr rest (i + 1) (cur.setIfInBounds (o + i) v) (w.setRow b (cur.setIfInBounds (o + i) v)) (setRow_heap w b cur _ e fr hg) (by simpa using hf) (by simp at hl ⊢; omega) (fun x hx => h1 x (by simp [hx]))
    simp only [storeCells, Sem.run_bind, hst, Result.andThen_ok, ih, setRow_setRow]
    congr 3
    have hk : o + i + (rest.length + 1) ≤ cur.toList.length := by simp at hl ⊢; omega
    have := list_seg_step cur.toList (o + i) v rest hk
    simp only [Array.toList_setIfInBounds, List.length_cons]
    rw [← this]
    simp [Nat.add_assoc, Nat.add_comm, Nat.add_left_comm]

/-- Where a splice puts what. -/
theorem splice_get (cur : Array Value) (o : Nat) (vs : List Value) (h : o + vs.length ≤ cur.size) (i : Nat) :
    (cur.toList.take o ++ vs ++ cur.toList.drop (o + vs.length)).toArray[i]? = if i < o then cur[i]? else if i < o + vs.length then vs[i - o]? else cur[i]? := by
  simp only [List.getElem?_toArray]
  by_cases h1 : i < o
  · rw [if_pos h1, List.append_assoc, List.getElem?_append_left (by simp; omega), List.getElem?_take, if_pos h1, Array.getElem?_toList]
  · rw [if_neg h1]
    by_cases h2 : i < o + vs.length
    · rw [if_pos h2, List.append_assoc, List.getElem?_append_right (by simp; omega), List.getElem?_append_left (by simp; omega)]
      congr 1
      simp; omega
    · rw [if_neg h2, List.getElem?_append_right (by simp; omega), List.getElem?_drop, Array.getElem?_toList]
      congr 1
      simp; omega

theorem splice_size (cur : Array Value) (o : Nat) (vs : List Value) (h : o + vs.length ≤ cur.size) : (cur.toList.take o ++ vs ++ cur.toList.drop (o + vs.length)).toArray.size = cur.size := by
  simp; omega

/-- A store into a row. -/
theorem storeAt_ok {t : TypeId} {ti : TI} (ht : TIOk P t ti) {b o : Nat} {cur : Array Value} {e : TypeId} {fr : Nat × Nat} (hb : w.heap[b]? = some (.cells cur e fr)) (hf : unfrozen fr cur.size) {v : Value}
    (hs : v.cells.size = ti.size) (h1 : ∀ u ∈ v.cells.toList, u.oneCell' = true) (hle : o + v.cells.size ≤ cur.size) :
    (Instr.storeAt t (.pointer (some ⟨b, o, none⟩)) v).run P w = .ok () (w.setRow b (cur.toList.take o ++ v.cells.toList ++ cur.toList.drop (o + v.cells.toList.length)).toArray) := by
  obtain ⟨i, hi, hz, his, hby⟩ := ht.info
  have := storeCells_ok (P := P) b o e fr v.cells.toList 0 cur w hb hf (by simpa using hle) h1
  simp only [Nat.add_zero] at this
  have hne : ¬ (v.cells.size ≠ i.size) := by rw [his]; simp [hs]
  simp [Instr.storeAt, Instr.sureAddr, storeVar, sizeOf, typeInfo, hi, hne, this, his, hs]

/-- What is appended: its cells, in every world with this memory. -/
structure Src (P : Program) (w : World) (size : Nat) (x : Value) (m : Nat) (news : List Value) : Prop where
  len : ∀ w', (Builtin.lenOf x).run P w' = .ok m w'
  firstN : ∀ w', w'.heap = w.heap → ∀ k, k ≤ m → (Builtin.firstCells size k x).run P w' = .ok (news.take (k * size)).toArray w'
  size : news.length = m * size
  one : ∀ u ∈ news, u.oneCell' = true

theorem Src.first {size : Nat} {x : Value} {m : Nat} {news : List Value} (h : Src P w size x m news) : ∀ w', w'.heap = w.heap → (Builtin.firstCells size m x).run P w' = .ok news.toArray w' := fun w' hw => by
  have := h.firstN w' hw m (Nat.le_refl _)
  rwa [List.take_of_length_le (by rw [h.size]; exact Nat.le_refl _)] at this

theorem append_room {t u ty e : TypeId} {i : TypeInfo} {d : TypeDesc} (ht : P.underlying t = some (.slice e)) (hu : P.underlying u = some d) (hd : ∀ k, d ≠ .int k) (hi : P.info? e = some i)
    {A : Option Addr} {n c m : Nat} {x : Value} {news : List Value} (hx : Src P w i.size x m news) (hroom : n + m ≤ c) (h0 : A = none → m = 0) {b o : Nat} {cur : Array Value} {fr : Nat × Nat} {e' : TypeId}
    (hA : m ≠ 0 → A = some ⟨b, o, none⟩) (hb : m ≠ 0 → w.heap[b]? = some (.cells cur e' fr)) (hf : unfrozen fr cur.size) (hle : m ≠ 0 → o + n * i.size + news.length ≤ cur.size) :
    (Builtin.append_ #[t, u] ty #[.slice A n c, x]).run P w = .ok (.slice A (n + m) c) (if m = 0 then w else w.setRow b (cur.toList.take (o + n * i.size) ++ news ++ cur.toList.drop (o + n * i.size + news.length)).toArray) := by
  have hz : (match d with | .int _ => true | _ => false) = false := by cases d <;> first | rfl | exact absurd rfl (hd _)
  have hlen := hx.len
  have hfirst := hx.first w rfl
  by_cases hm : m = 0
  · subst hm
    have hnil : news = [] := List.eq_nil_of_length_eq_zero (by simpa using hx.size)
    subst hnil
    have hroom' : n ≤ c := by omega
    cases A with
    | none => simp [Builtin.append_, run_underlying ht, run_underlying hu, sizeOf, typeInfo, hi, hz, hlen, hroom', hfirst]
    | some a => simp [Builtin.append_, run_underlying ht, run_underlying hu, sizeOf, typeInfo, hi, hz, hlen, hroom', hfirst, storeCells]
  · have hA' := hA hm
    subst hA'
    have hst := storeCells_ok (P := P) b (o + n * i.size) e' fr news 0 cur w (hb hm) hf (by simpa using hle hm) hx.one
    simp only [Nat.add_zero] at hst
    rw [if_neg hm]
    simp [Builtin.append_, run_underlying ht, run_underlying hu, sizeOf, typeInfo, hi, hz, hlen, hroom, hfirst, cell_off, hst]

theorem append_grow {t u ty e : TypeId} {i : TypeInfo} {z : Value} {d : TypeDesc} (ht : P.underlying t = some (.slice e)) (hu : P.underlying u = some d) (hd : ∀ k, d ≠ .int k) (hi : P.info? e = some i) (hzz : i.zero = some z)
    {A : Option Addr} {n c m : Nat} {x : Value} {news olds : List Value} (hx : Src P w i.size x m news) (hlo : olds.length = n * i.size)
    (hold : ∀ w', w'.heap = w.heap → (Builtin.firstCells i.size n (.slice A n c)).run P w' = .ok olds.toArray w')
    (hg : c < n + m) (h63 : n + m ≤ 9223372036854775807) (hfit : (n + m) * i.bytes ≤ 140737488355328) :
    (Builtin.append_ #[t, u] ty #[.slice A n c, x]).run P w =
      .ok (.slice (some ⟨w.heap.size, 0, none⟩) (n + m) (grownCap w (n + m) c e))
        (w.drew.alloc (.cells (olds.toArray ++ news.toArray ++ Builtin.zeroCells z.cells (grownCap w (n + m) c e - (n + m))) e)) := by
  have hz : (match d with | .int _ => true | _ => false) = false := by cases d <;> first | rfl | exact absurd rfl (hd _)
  have hn : ¬ (n + m ≤ c) := by omega
  have h63' : ¬ (9223372036854775807 < ((n : Int) + (m : Int))) := by omega
  have h48 := growslice_fits (bytes := i.bytes) hg hfit
  have h48' : ¬ (281474976710656 < Builtin.nextslicecap (n + m) c * i.bytes) := by omega
  have hfirst := hx.first w.drew rfl
  have hlen := hx.len
  have hold' := hold w.drew rfl
  simp [Builtin.append_, run_underlying ht, run_underlying hu, sizeOf, typeInfo, zeroValue, hi, hzz, hz, hlen, hn, h63', h48', Question.forced, hfirst, hold', newRow, grownCap]
  congr 2
  apply Array.ext'
  simp [List.append_assoc]
end
end Go.PV

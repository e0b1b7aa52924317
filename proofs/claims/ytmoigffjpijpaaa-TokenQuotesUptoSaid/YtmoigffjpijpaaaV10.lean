/- Pure values, part 10: stores and variables in memory. -/
import Derived.Test.YtmoigffjpijpaaaV9
set_option linter.unusedVariables false
set_option linter.unusedSimpArgs false
namespace Go.PV
open Go Go.RowKit

section
variable {P : Program} {w w' : World} {ow ow' : Nat → Prop} {loc loc' : Locs} {n nt : Nat} {E : Entry} {H : Heap} {F : Frame} {a : Act} {tt : Tab}

theorem Frame.get_put (F : Frame) (d : Nat) (p : PV) (t : Nat) : (F.put (some d) p).get t = if d = t then p else F.get t := by
  simp only [Frame.put, Frame.get]
  by_cases h : d = t
  · simp [h]
  · simp [h, beq_eq_false_iff_ne.2 h]

def dstOk (nt : Nat) (d : Option Nat) : Bool :=
  match d with
  | some d => decide (d < nt)
  | none => true

theorem FS.put (h : FS w ow loc n F.get a) {d : Option Nat} (hd : dstOk a.tmps.size d = true) {p : PV} {v : Value} (hv : RV w ow loc p v) (hr : Refs n p) :
    FS w ow loc n (F.put d p).get (a.put d v) ∧ (a.put d v).tmps.size = a.tmps.size := by
  cases d with
  | none => exact ⟨h, rfl⟩
  | some d =>
    have hd' : d < a.tmps.size := by simpa [dstOk] using hd
    refine ⟨⟨fun t => ?_, fun t => ?_, h.defers⟩, by simp [Act.put]⟩
    · rw [Frame.get_put]
      have e : (a.put (some d) v).tmps.getD t undef = if d = t then v else a.tmps.getD t undef := by
        simp only [Act.put, Array.getD_eq_getD_getElem?, Array.getElem?_setIfInBounds]
        by_cases ht : d = t
        · subst ht; simp [hd']
        · simp [ht]
      rw [e]
      split
      · exact hv
      · exact h.vals t
    · rw [Frame.get_put]
      split
      · exact hr
      · exact h.refs t

def dataB0 : PV → Bool
  | .sl .. | .ptr .. | .rptr .. | .agg _ | .tup _ => false
  | _ => true

def dataB : PV → Bool
  | .agg l => l.all dataB0
  | p => dataB0 p

theorem rd_of0 {p : PV} {v : Value} (h : RV w ow loc p v) (hd : dataB0 p = true) : RD w ow p v := by
  cases h with
  | data _ _ h => exact h
  | _ => simp [dataB0] at hd

theorem rd_of {p : PV} {v : Value} (h : RV w ow loc p v) (hd : dataB p = true) : RD w ow p v := by
  cases p with
  | agg l =>
    obtain ⟨vs, rfl, hl, h1, hv⟩ := rv_agg h
    refine .agg l vs hl h1 fun i hi => rd_of0 (hv i hi) ?_
    simp only [dataB, List.all_eq_true] at hd
    refine hd _ ?_
    rw [List.getD_eq_getElem?_getD, List.getElem?_eq_getElem hi]; exact List.getElem_mem hi
  | _ => exact rd_of0 h hd

theorem rd_of0' {p : PV} {v : Value} (h : RD w ow p v) (hk : known p = true) (i : Nat) (hi : i < (cellsOf p).length) : RD w ow ((cellsOf p).getD i .undef) (v.cells.getD i undef) := by
  cases h with
  | agg l vs hl h1 hd => exact hd i hi
  | undef => simp [known] at hk
  | tup => simp [known] at hk
  | int k n => have : i = 0 := by simpa [cellsOf] using hi
               subst this; exact .int k n
  | bool b => have : i = 0 := by simpa [cellsOf] using hi
              subst this; exact .bool b
  | str s l e => have : i = 0 := by simpa [cellsOf] using hi
                 subst this; exact .str s l e
  | nil => have : i = 0 := by simpa [cellsOf] using hi
           subst this; exact .nil
  | nilptr => have : i = 0 := by simpa [cellsOf] using hi
              subst this; exact .nilptr
  | intsNil k => have : i = 0 := by simpa [cellsOf] using hi
                 subst this; exact .intsNil k
  | listNil k => have : i = 0 := by simpa [cellsOf] using hi
                 subst this; exact .listNil k
  | intsE k a c => have : i = 0 := by simpa [cellsOf] using hi
                   subst this; exact .intsE k a c
  | listE k a c => have : i = 0 := by simpa [cellsOf] using hi
                   subst this; exact .listE k a c
  | ints k l m b o cap h1 h2 h3 h4 => have : i = 0 := by simpa [cellsOf] using hi
                                      subst this; exact .ints k l m b o cap h1 h2 h3 h4
  | list sz l m b o cap us h1 h2 h3 h4 h5 h6 h7 h8 => have : i = 0 := by simpa [cellsOf] using hi
                                                      subst this; exact .list sz l m b o cap us h1 h2 h3 h4 h5 h6 h7 h8

/-- A store, as the proofs see it. -/
def storeW (tt : Tab) (t : TypeId) (p q : PV) (H : Heap) (K : Heap → Prop) : Prop :=
  match tt t, p with
  | some ti, .ptr r i j => known q = true ∧ (cellsOf q).length = ti.size ∧
    (match H.get r with
    | some (.ints k l) => match q with
      | .int k' m => k = k' ∧ j = 0 ∧ i < l.length ∧ K (H.set r (.ints k (l.set i m)))
      | _ => False
    | some (.list sz l) => i < l.length ∧ dataB q = true ∧ (match j == 0 && (cellsOf q).length == sz with
      | true => K (H.set r (.list sz (l.set i q)))
      | false => j + (cellsOf q).length ≤ sz ∧ K (H.set r (.list sz (l.set i (.agg (setL (cellsOf (l.getD i .undef)) j (cellsOf q)))))))
    | some (.var l) => i = 0 ∧ j + (cellsOf q).length ≤ l.length ∧ K (H.set r (.var (setL l j (cellsOf q))))
    | none => False)
  | _, _ => False

theorem getD_setL (l : List PV) (cs : List PV) : ∀ (off : Nat), off + cs.length ≤ l.length → ∀ i, (setL l off cs).getD i .undef = if off ≤ i ∧ i < off + cs.length then cs.getD (i - off) .undef else l.getD i .undef := by
  induction cs generalizing l with
  | nil => intro off _ i; rw [if_neg (by simp only [List.length_nil]; omega)]; rfl
  | cons c cs ih =>
    intro off h i
    simp only [setL]
    rw [ih _ _ (by simp at h ⊢; omega)]
    by_cases hi : i = off
    · subst hi
      rw [if_neg (by omega), if_pos (by simp)]
      have : i < l.length := by simp at h; omega
      simp [List.getD, this]
    · by_cases h2 : off + 1 ≤ i ∧ i < off + 1 + cs.length
      · rw [if_pos h2, if_pos (by simp; omega)]
        rw [show i - off = (i - (off + 1)) + 1 by omega]
        simp
      · rw [if_neg h2, if_neg (by simp; omega)]
        simp [List.getD, Ne.symm hi]

/-- What a store leaves: the row turned, all else as it was. -/
theorem store_ok (hT : TabOk P tt) (hs : HS E H ow loc w) {t : TypeId} {p q : PV} {u v : Value} (hp : RV w ow loc p u) (hrp : Refs H.nx p) (hq : RV w ow loc q v) (hrq : Refs H.nx q) {K : Heap → Prop} (h : storeW tt t p q H K) :
    ∃ H' w', K H' ∧ H'.nx = H.nx ∧ (Instr.storeAt t u v).run P w = .ok () w' ∧ HS E H' ow loc w' ∧ Stable ow w w' := by
  unfold storeW at h
  split at h
  · rename_i ti r i j hti
    have ht := hT t ti hti
    obtain ⟨hk, hlen, h⟩ := h
    obtain ⟨hcl, hcc⟩ := rv_cells hq hk
    have hrc := refs_cells hk hrq
    cases hrw : H.get r with
    | none => rw [hrw] at h; exact h.elim
    | some row =>
      rw [hrw] at h
      obtain ⟨L, hL, hat⟩ := hs.rows r row hrw
      cases hp with
      | data _ _ hd => cases hd
      | dangp _ _ _ a hl => rw [hl] at hL; cases hL
      | ptr _ _ _ L' hl' =>
        rw [hL] at hl'
        injection hl' with hl'
        subst hl'
        obtain ⟨cur, e, fr, hb, hsz, hfr, hin⟩ := hat
        have ho := (hs.live r L' hL).1
        have hone : ∀ x ∈ v.cells.toList, x.oneCell' = true := by
          intro x hx
          obtain ⟨m, hm, rfl⟩ := List.getElem_of_mem hx
          simp only [Array.length_toList] at hm
          have := (hcc m (by omega)).2
          simpa [Array.getD, hm] using this
        have hcellv : ∀ m, m < v.cells.size → v.cells.toList[m]? = some (v.cells.getD m undef) := fun m hm => by
          rw [Array.getElem?_toList, Array.getElem?_eq_getElem hm]; simp [Array.getD, hm]
        -- the place, once it is seen to lie in the block
        have main : ∀ (row' : Row), L'.o + i * L'.sz + j + v.cells.size ≤ cur.size → K (H.set r row') →
            (∀ l, row' = .var l → ∀ j, j < l.length → Refs H.nx (l.getD j .undef)) →
            (∀ cur' w', Stable ow w w' → cur'.size = cur.size → (∀ x, cur'[x]? = if x < L'.o + i * L'.sz + j then cur[x]? else if x < L'.o + i * L'.sz + j + v.cells.toList.length then v.cells.toList[x - (L'.o + i * L'.sz + j)]? else cur[x]?) → RowIn w' ow loc L' cur' row') →
            ∃ H' w', K H' ∧ H'.nx = H.nx ∧ (Instr.storeAt t (.pointer (some ⟨L'.b, L'.o + i * L'.sz + j, none⟩)) v).run P w = .ok () w' ∧ HS E H' ow loc w' ∧ Stable ow w w' := by
          intro row' hle hK hrf hrow
          have hrun := storeAt_ok ht hb hfr (v := v) (by omega) hone hle
          have hc := Chg.of_setRow w L'.b (cur.toList.take (L'.o + i * L'.sz + j) ++ v.cells.toList ++ cur.toList.drop (L'.o + i * L'.sz + j + v.cells.toList.length)).toArray
          have hst := Stable.of_chg hc ho
          have hsize := splice_size cur (L'.o + i * L'.sz + j) v.cells.toList (by simpa using hle)
          refine ⟨H.set r row', _, hK, rfl, hrun, ?_, hst⟩
          refine hs.upd hL hc (by simp) ⟨_, e, fr, setRow_heap w L'.b cur _ e fr hb, hsize.trans hsz, by rw [hsize]; exact hfr, ?_⟩ hrf
          exact hrow _ _ hst hsize fun x => splice_get cur _ _ (by simpa using hle) x
        cases row with
        | ints k l =>
          simp only at h
          split at h
          · rename_i k' m
            obtain ⟨rfl, rfl, hi, hK⟩ := h
            obtain ⟨hs1, hlc, hc⟩ := hin
            obtain rfl := rv_int hq
            have hcs : (Value.int k m).cells = #[.int k m] := rfl
            refine main (.ints k (l.set i m)) ?_ hK (fun l e => by cases e) ?_
            · rw [hcs, hsz, hs1]
              simp only [List.size_toArray, List.length_singleton]
              omega
            · intro cur' w2 _ _ hget
              refine ⟨hs1, by simpa using hlc, fun x hx => ?_⟩
              rw [List.length_set] at hx
              rw [hget]
              rw [hs1, hcs]
              simp only [Nat.mul_one, Nat.add_zero, List.length_singleton]
              by_cases hxi : x = i
              · subst hxi
                rw [if_neg (by omega), if_pos (by omega)]
                simp [List.getD, hi]
              · have e1 : (l.set i m).getD x 0 = l.getD x 0 := by simp [List.getD, Ne.symm hxi]
                rw [e1, ← hc x hx]
                by_cases hlt : L'.o + x < L'.o + i
                · rw [if_pos hlt]
                · rw [if_neg hlt, if_neg (by omega)]
          · exact h.elim
        | list sz l =>
          simp only at h
          obtain ⟨hi, hdq, h⟩ := h
          have hrd := rd_of hq hdq
          obtain ⟨hs1, hpos, hlc, hc⟩ := hin
          have hbnd : ∀ x, x < l.length → (x + 1) * sz ≤ l.length * sz := fun x hx => Nat.mul_le_mul_right _ hx
          have hcap : l.length * sz ≤ L'.cap * sz := Nat.mul_le_mul_right _ hlc
          have hib := hbnd i hi
          rw [Nat.add_mul, Nat.one_mul] at hib
          have gen : ∀ (el : PV), (cellsOf el).length = sz → j + (cellsOf q).length ≤ sz → (∀ m, m < sz → (cellsOf el).getD m .undef = if j ≤ m ∧ m < j + (cellsOf q).length then (cellsOf q).getD (m - j) .undef else (cellsOf (l.getD i .undef)).getD m .undef) →
              K (H.set r (.list sz (l.set i el))) → ∃ H' w', K H' ∧ H'.nx = H.nx ∧ (Instr.storeAt t (.pointer (some ⟨L'.b, L'.o + i * L'.sz + j, none⟩)) v).run P w = .ok () w' ∧ HS E H' ow loc w' ∧ Stable ow w w' := by
            intro el hel hj hcells hK
            refine main _ ?_ hK (fun l e => by cases e) ?_
            · rw [hsz, hs1, ← hcl]; omega
            · intro cur' w2 hst _ hget
              refine ⟨hs1, hpos, by simpa using hlc, fun x hx => ?_⟩
              rw [List.length_set] at hx
              have hxb := hbnd x hx
              rw [Nat.add_mul, Nat.one_mul] at hxb
              by_cases hxi : x = i
              · subst hxi
                have e1 : (l.set x el).getD x .undef = el := by simp [List.getD, hi]
                rw [e1]
                refine ⟨hel, fun m hm => ?_⟩
                rw [hcells m hm, hget, hs1]
                by_cases hmj : j ≤ m ∧ m < j + (cellsOf q).length
                · rw [if_neg (by omega), if_pos (by rw [Array.length_toList, ← hcl]; omega), if_pos hmj]
                  have := hcc (m - j) (by omega)
                  refine ⟨v.cells.getD (m - j) undef, ?_, this.2, ?_⟩
                  · rw [← hcellv _ (by omega)]; congr 1; omega
                  · refine (rd_of0' hrd hk (m - j) (by omega)).mono hst (fun _ _ h => h)
                · rw [if_neg hmj]
                  obtain ⟨u0, hu, hu1, hu2⟩ := (hc x hx).2 m hm
                  refine ⟨u0, ?_, hu1, hu2.mono hst (fun _ _ h => h)⟩
                  rw [← hu]
                  by_cases hlt : m < j
                  · rw [if_pos (by omega)]
                  · rw [if_neg (by omega), if_neg (by rw [Array.length_toList, ← hcl]; omega)]
              · have e1 : (l.set i el).getD x .undef = l.getD x .undef := by simp [List.getD, Ne.symm hxi]
                rw [e1]
                refine ⟨(hc x hx).1, fun m hm => ?_⟩
                obtain ⟨u0, hu, hu1, hu2⟩ := (hc x hx).2 m hm
                refine ⟨u0, ?_, hu1, hu2.mono hst (fun _ _ h => h)⟩
                rw [hget, ← hu, hs1]
                rcases Nat.lt_or_gt_of_ne hxi with hlt | hlt
                · have : (x + 1) * sz ≤ i * sz := Nat.mul_le_mul_right _ hlt
                  rw [Nat.add_mul, Nat.one_mul] at this
                  rw [if_pos (by omega)]
                · have : (i + 1) * sz ≤ x * sz := Nat.mul_le_mul_right _ hlt
                  rw [Nat.add_mul, Nat.one_mul] at this
                  rw [if_neg (by omega), if_neg (by rw [Array.length_toList, ← hcl]; omega)]
          split at h
          · rename_i hb2
            simp only [Bool.and_eq_true, beq_iff_eq] at hb2
            refine gen q hb2.2 (by omega) (fun m hm => ?_) h
            rw [if_pos (by omega), hb2.1, Nat.sub_zero]
          · have hlen0 := (hc i hi).1
            have hce : ∀ X, cellsOf (.agg X) = X := fun _ => rfl
            refine gen _ (by rw [hce, setL_length]; exact hlen0) h.1 (fun m hm => ?_) h.2
            rw [hce]
            exact getD_setL _ _ j (by rw [hlen0]; exact h.1) m
        | var l =>
          simp only at h
          obtain ⟨rfl, hle, hK⟩ := h
          obtain ⟨hs1, hcap, hc⟩ := hin
          refine main _ ?_ hK ?_ ?_
          · rw [hsz, hcap, hs1]; omega
          · intro l2 e m hm
            injection e with e
            subst e
            rw [setL_length] at hm
            rw [getD_setL _ _ _ hle]
            split
            · exact hrc _ (by omega)
            · exact hs.refs r l hrw m hm
          · intro cur' w2 hst _ hget
            refine ⟨by rw [setL_length]; exact hs1, hcap, fun m hm => ?_⟩
            rw [setL_length] at hm
            rw [getD_setL _ _ _ hle, hget]
            simp only [Nat.zero_mul, Nat.add_zero]
            by_cases hmj : j ≤ m ∧ m < j + (cellsOf q).length
            · rw [if_neg (by omega), if_pos (by rw [Array.length_toList, ← hcl]; omega), if_pos hmj]
              have := hcc (m - j) (by omega)
              refine ⟨v.cells.getD (m - j) undef, ?_, this.2, this.1.mono hst (fun _ _ h => h) (LocLe.refl loc)⟩
              rw [← hcellv _ (by omega)]; congr 1; omega
            · rw [if_neg hmj]
              obtain ⟨u0, hu, hu1, hu2⟩ := hc m hm
              refine ⟨u0, ?_, hu1, hu2.mono hst (fun _ _ h => h) (LocLe.refl loc)⟩
              rw [← hu]
              by_cases hlt : m < j
              · rw [if_pos (by omega)]
              · rw [if_neg (by omega), if_neg (by rw [Array.length_toList, ← hcl]; omega)]
  · exact h.elim
end
end Go.PV

/- Pure values, part 25: contracts of functions that write to rows of the caller's, or hand back new ones. -/
import Derived.Test.YtmoigffjpijpaaaV24
set_option linter.unusedVariables false
set_option linter.unusedSimpArgs false
namespace Go.PV
open Go Go.RowKit

def resH (tt : Tab) (F : Frame) (H : Heap) : ResultVar → (PV → Prop) → Prop
  | .tmp t, K => K (F.get t)
  | .cell b ty, K => match tt ty with
    | some ti => isOther ti.desc = false ∧ loadW H.get (isStruct ti.desc) ti.size (F.get b) K
    | none => False

def resHs (tt : Tab) (F : Frame) (H : Heap) : List ResultVar → (List PV → Prop) → Prop
  | [], K => K []
  | r :: rest, K => resH tt F H r fun p => resHs tt F H rest fun ps => K (p :: ps)

def FinH (tt : Tab) (rs : List ResultVar) (R : PV → Heap → Prop) (e : Exit) (F : Frame) (H : Heap) : Prop :=
  (match e with | .ret | .normal => True | _ => False) ∧ resHs tt F H rs fun ps => R (oneOf ps) H

section
variable {P : Program} {w w' : World} {ow ow' : Nat → Prop} {loc loc' : Locs} {n nt : Nat} {E : Entry} {H : Heap} {F : Frame} {a : Act} {tt : Tab} {rows : Nat → Option Row}

theorem FinH_ret {rs : List ResultVar} {R : PV → Heap → Prop} : FinH tt rs R .ret F H = resHs tt F H rs fun ps => R (oneOf ps) H := by simp [FinH]
theorem FinH_normal {rs : List ResultVar} {R : PV → Heap → Prop} : FinH tt rs R .normal F H = resHs tt F H rs fun ps => R (oneOf ps) H := by simp [FinH]

theorem rv_ptr_some {r i j : Nat} {v : Value} (h : RV w ow loc (.ptr r i j) v) : ∃ ad, v = .pointer (some ad) := by
  cases h with
  | data _ _ h => cases h
  | dangp _ _ _ a h => exact ⟨_, rfl⟩
  | ptr _ _ _ L h => exact ⟨_, rfl⟩

theorem rv_rptr_some {p : PV} {j : Nat} {v : Value} (h : RV w ow loc (.rptr p j) v) : ∃ ad, v = .pointer (some ad) := by
  cases h with
  | data _ _ h => cases h
  | rptr => exact ⟨_, rfl⟩

theorem resHs_sound (hT : TabOk P tt) (hs : HS E H ow loc w) (hf : FS w ow loc H.nx F.get a) : ∀ (rs : List ResultVar) (K : List PV → Prop), resHs tt F H rs K →
    ∃ (ps : List PV) (vs : List Value), K ps ∧ (rs.mapM (resSem a.tmps)).run P w = .ok vs w ∧ ps.length = vs.length ∧ ps.length = rs.length ∧ ∀ i, i < ps.length → RV w ow loc (ps.getD i .undef) (vs.getD i undef) ∧ Refs H.nx (ps.getD i .undef)
  | [], K, h => ⟨[], [], h, by simp, rfl, rfl, fun i hi => by simp at hi⟩
  | r :: rest, K, h => by
    simp only [resHs] at h
    have step : ∃ p v, resHs tt F H rest (fun ps => K (p :: ps)) ∧ (resSem a.tmps r).run P w = .ok v w ∧ RV w ow loc p v ∧ Refs H.nx p := by
      cases r with
      | tmp t => exact ⟨_, a.tmps.getD t undef, h, by simp [resSem], hf.vals t, hf.refs t⟩
      | cell b t =>
        simp only [resH] at h
        cases hti : tt t with
        | none => rw [hti] at h; exact h.elim
        | some ti =>
          rw [hti] at h
          obtain ⟨hno, h⟩ := h
          have hb := hf.vals b
          obtain ⟨q, hK, cv, hrun, hv, hr⟩ := load_sound (P := P) (hT _ _ hti) hno hs.rowsOk (K := fun p => resHs tt F H rest fun ps => K (p :: ps)) hb h
          have hptr : ∃ ad, a.tmps.getD b undef = .pointer (some ad) := by
            unfold loadW at h
            split at h
            · rename_i hp; rw [hp] at hb; exact rv_rptr_some hb
            · rename_i hp; rw [hp] at hb; exact rv_ptr_some hb
            · exact h.elim
          obtain ⟨ad, had⟩ := hptr
          rw [had] at hrun
          refine ⟨q, cv, hK, ?_, hv, hr⟩
          simp only [resSem, had]
          simpa [asAddr, Instr.loadAt, Instr.sureAddr] using hrun
    obtain ⟨p, v, h, hrun, hv⟩ := step
    obtain ⟨ps, vs, hK, hruns, hl, hl2, hd⟩ := resHs_sound hT hs hf rest _ h
    refine ⟨p :: ps, v :: vs, hK, ?_, by simp [hl], by simp [hl2], fun i hi => ?_⟩
    · simp only [List.mapM_cons, Sem.run_bind, hrun, Result.andThen_ok, hruns, Sem.run_pure]
    · cases i with
      | zero => exact hv
      | succ i => simp only [List.getD_cons_succ]; exact hd i (by simpa using hi)

/-- **A contract over rows, out of the function's body.** -/
theorem hmeets_by (hT : TabOk P tt) {f : FuncId} {fn : Func} {c : Code} {rs : Array ResultVar} {nt : Nat} (hf : P.funcs[f]? = some fn) (hn : fn.ntmps = nt) (hrs : fn.results = rs) (hname : (fn.name == "runtime.NumGoroutine") = false) (hb : fn.body = some c) {args : List PV} {R : PV → Heap → Prop} (hlen : Nat.ble args.length nt = true)
    (h : ∀ E, PW P E nt c (FinH tt rs.toList R) (argsFrame 0 args) H) : HMeets P f args H R := by
  intro E ow loc w vs hs hl hargs
  refine .inl ⟨call_enters hf hname hb vs w, ?_⟩
  refine calls_of_wp hf hb ?_
  have hvs : vs.size ≤ fn.ntmps := by have := Nat.le_of_ble_eq_true hlen; omega
  have hst : St E nt (argsFrame 0 args) H { tmps := vs ++ Array.replicate (fn.ntmps - vs.size) undef, defers := [] } w := by
    refine ⟨ow, loc, hs, ⟨fun t => ?_, fun t => ?_, rfl⟩, by simp; omega⟩
    · rw [argsFrame_get]
      split
      · rename_i ht
        have ht' : t < vs.size := by omega
        have e : (vs ++ Array.replicate (fn.ntmps - vs.size) undef).getD t undef = vs.getD t undef := by
          simp [Array.getD_eq_getD_getElem?, Array.getElem?_append_left ht']
        simp only [Nat.sub_zero]
        rw [e]
        exact (hargs t (by omega)).1
      · exact .data _ _ (.undef _)
    · rw [argsFrame_get]
      split
      · rename_i ht
        simp only [Nat.sub_zero]
        exact (hargs t (by omega)).2
      · exact .undef
  refine wp_mono (h E _ w hst) fun e a' w' ⟨F', H', ⟨he, hr⟩, ow', loc', hs', hf', hsz⟩ => ?_
  have fin : a'.defers = [] ∧ ∃ v, (results fn a'.tmps).run P w' = .ok v w' ∧ ∃ u, Ending.returned v = Ending.returned u ∧ ∃ res H' ow' loc', R res H' ∧ HS E H' ow' loc' w' ∧ RV w' ow' loc' res u ∧ Refs H'.nx res := by
    obtain ⟨ps, us, hres, hrun, hlen2, hlen3, hd⟩ := resHs_sound (P := P) hT hs' hf' rs.toList _ hr
    have hmap : (fn.results.mapM (resSem a'.tmps)).run P w' = .ok us.toArray w' := by
      rw [hrs, Array.mapM_eq_mapM_toList]
      simp only [Sem.run_map, hrun, Result.andThen_ok]
    refine ⟨hf'.defers, if h : us.toArray.size = 1 then us.toArray[0] else .tuple us.toArray, ?_, _, rfl, _, H', ow', loc', hres, hs', ?_⟩
    · rw [results_eq]; simp only [Sem.run_bind, hmap, Result.andThen_ok, Sem.run_pure]
    · match ps, us, hlen2, hd with
      | [p], [u], _, hd => simpa [oneOf] using hd 0 (by simp)
      | [], [], _, hd => exact ⟨by simpa [oneOf] using .data _ _ (.tup [] #[] rfl fun i hi => by simp at hi), .tup _ fun i hi => by simp [oneOf] at hi⟩
      | p :: q :: ps, u :: u' :: us, hl, hd =>
        have : ¬ ((u :: u' :: us).toArray.size = 1) := by simp
        rw [dif_neg this]
        refine ⟨.tup _ _ (by simpa using hl) fun i hi => ?_, .tup _ fun i hi => (hd i hi).2⟩
        have := (hd i hi).1
        have e : (u :: u' :: us).toArray.getD i undef = (u :: u' :: us).getD i undef := by
          rw [Array.getD_eq_getD_getElem?, List.getElem?_toArray]; rfl
        rw [e]; exact this
  cases e <;> first | exact fin | exact he.elim

/-- Less is known, under the same numbers. -/
theorem Sub.less {F' : Frame} {H' : Heap} (hk : keeps F F') (hr : ∀ r row, getRow H'.rows r = some row → getRow H.rows r = some row) (hx : H'.nx = H.nx) (hg : H'.g = H.g) : Sub E nt F H F' H' := by
  rintro a w ⟨ow, loc, hs, hf, hsz⟩
  refine ⟨ow, loc, ⟨fun r row h => hs.rows r row (hr r row h), hs.live, hs.inj, hs.old, hs.size, hs.os, hs.tape, hs.output, by rw [hx]; exact hs.nx, hs.owlt, hs.forb, hs.alt, hs.apart, fun r l h => by rw [hx]; exact hs.refs r l (hr r _ h), by rw [hx, hg]; exact hs.gh⟩, ?_, hsz⟩
  rw [hx]
  exact hf.keep hk
theorem bytesI_mk (l : List UInt8) : bytesI ⟨⟨l⟩⟩ = l.map fun b => (b.toNat : Int) := rfl
theorem ofNat_cast (n : Nat) : ((OfNat.ofNat n : Nat) : Int) = OfNat.ofNat n := rfl
end
end Go.PV

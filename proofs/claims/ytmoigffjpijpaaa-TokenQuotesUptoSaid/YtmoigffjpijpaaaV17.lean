/- Pure values, part 17: one theorem over all operations; regions; statements; functions. -/
import Derived.Test.YtmoigffjpijpaaaV16
set_option linter.unusedVariables false
set_option linter.unusedSimpArgs false
namespace Go.PV
open Go Go.RowKit

section
variable {P : Program} {w w' : World} {ow ow' : Nat → Prop} {loc loc' : Locs} {n nt : Nat} {E : Entry} {H : Heap} {F : Frame} {a : Act} {tt : Tab} {rows : Nat → Option Row}

/-- New blocks came, nothing else happened. -/
theorem HS.ext (h : HS E H ow loc w) (hb : Below w.heap.size w w') : HS E H ow loc w' := by
  have hc : Chg w w' w'.heap.size := ⟨hb.os, hb.tape, hb.output, hb.size, fun k hk _ => hb.block k hk⟩
  have hs : Stable ow w w' := Stable.of_blocks fun b hlt _ => hb.block b hlt
  refine ⟨?_, ?_, h.inj, ?_, ?_, hc.os.trans h.os, hc.tape.trans h.tape, hc.output.trans h.output, h.nx, fun b hb0 => by have := h.owlt b hb0; have := hc.size; omega, h.forb, h.alt, h.apart, h.refs, h.gh.mono hs (fun _ _ h => h) (LocLe.refl _)⟩
  · intro r row hr
    obtain ⟨L, hL, hat⟩ := h.rows r row hr
    refine ⟨L, hL, hat.mono (n := H.nx) hs (fun _ _ h => h) (fun _ _ => .inl rfl) (fun l e => h.refs r l (by rw [hr, e])) fun M hM => ?_⟩
    subst hM
    exact hb.block _ (h.live r M hL).2.1
  · intro r L hL
    have := h.live r L hL
    exact ⟨this.1, by have := hb.size; omega, this.2.2⟩
  · intro b hb0 hS
    rw [hb.block b (by have := h.size; omega)]
    exact h.old b hb0 hS
  · have := h.size; have := hb.size; omega

theorem St.mk' (hs : HS E H ow loc w) (hf : FS w ow loc H.nx F.get a) (hsz : a.tmps.size = nt) : St E nt F H a w := ⟨ow, loc, hs, hf, hsz⟩

theorem put_st (hs : HS E H ow loc w) (hf : FS w ow loc H.nx F.get a) (hsz : a.tmps.size = nt) {d : Option Nat} (hd : dstOk nt d = true) {p : PV} {v : Value} (hv : RV w ow loc p v) (hr : Refs H.nx p) : St E nt (F.put d p) H (a.put d v) w := by
  obtain ⟨h1, h2⟩ := hf.put (d := d) (by rw [hsz]; exact hd) hv hr
  exact ⟨ow, loc, hs, h1, h2.trans hsz⟩

theorem FS.congr {get get' : Nat → PV} (h : FS w ow loc n get a) (e : ∀ t, get t = get' t) : FS w ow loc n get' a := ⟨fun t => e t ▸ h.vals t, fun t => e t ▸ h.refs t, h.defers⟩

theorem killG_frame (kl : Option Nat) (F : Frame) : ∀ t, killG kl F.get t = (killF kl F).get t := fun t => by
  cases kl with
  | none => rfl
  | some r => exact (Frame.get_kill r F t).symm

theorem ids_mem {l : List PV} {i : Nat} (hi : i < l.length) : ∀ r, r ∈ ids (l.getD i .undef) → r ∈ l.flatMap ids := fun r hr => List.mem_flatMap.2 ⟨_, getD_mem hi, hr⟩

theorem undef_ok : RV w ow loc (.tup []) undef := .data _ _ (.tup [] #[] rfl fun i hi => by simp at hi)

theorem op_sound (hT : TabOk P tt) {o : Oper} (hd : dstOk nt o.dst = true) (hs : HS E H ow loc w) (hf : FS w ow loc H.nx F.get a) (hsz : a.tmps.size = nt) {K : Frame → Heap → Prop} (h : opW P tt o F H K)
    {Kc : Act → World → Prop} {Q : Exit → Act → World → Prop} (hk : ∀ F' H' a' w', K F' H' → St E nt F' H' a' w' → Kc a' w') : o.wp P a w Kc Q := by
  have V := fun x => ev_ok (w := w) (ow := ow) (loc := loc) (a := a) hf.vals x
  have R := fun x => ev_refs (n := H.nx) hf.refs x
  have quiet : qw tt H.get (ev F.get) o.op (fun p => K (F.put o.dst p) H) → o.wp P a w Kc Q := fun h => by
    obtain ⟨q, hq, cv, hrun, hv, hr⟩ := qw_sound hT hs.rowsOk hf.vals hf.refs h
    unfold Oper.wp
    rw [hrun]
    exact hk _ _ _ _ hq (put_st hs hf hsz hd hv hr)
  have made : ∀ (s : Sem Value) (K' : PV → Heap → Prop), Made P E H ow loc w s K' → execOp a.eval o = (do pure (.value (← s))) → (∀ q H', K' q H' → K (F.put o.dst q) H') → o.wp P a w Kc Q := by
    rintro s K' ⟨q, row, hK, cv, w', L, hrun, hs', hst, hLb, hv, hr⟩ he hKK
    unfold Oper.wp
    rw [he]
    simp only [Sem.run_bind, hrun, Result.andThen_ok, Sem.run_pure]
    refine hk _ _ _ _ (hKK _ _ hK) (put_st hs' (hf.new hst fun b hb h => h.elim id (fun e => by omega)) hsz hd hv hr)
  cases hop : o.op
  case store t x y =>
    rw [opW, hop] at h
    obtain ⟨H', w', hK, hnx, hrun, hs', hst⟩ := store_ok hT hs (V x) (R x) (V y) (R y) h
    unfold Oper.wp
    simp only [execOp, hop, Sem.run_bind, hrun, Result.andThen_ok, Sem.run_pure]
    refine hk _ _ _ _ hK (put_st hs' (by rw [hnx]; exact hf.same hst) hsz hd undef_ok (.tup [] fun i hi => by simp at hi))
  case box t x =>
    rw [opW, hop] at h
    exact made _ _ (var_sound (elem := t) (K := fun q H' => K (F.put o.dst q) H') hs (V x) (R x) h.1 h.2) (by simp [execOp, hop, Instr.box]) fun _ _ h => h
  case alloc t =>
    rw [opW, hop] at h
    simp only at h
    cases hti : tt t with
    | none => rw [hti] at h; exact h.elim
    | some ti =>
      rw [hti] at h
      obtain ⟨i, hi, hz, _⟩ := (hT _ _ hti).info
      have hm := var_sound (P := P) (elem := t) (K := fun q H' => K (F.put o.dst q) H') hs (.data _ _ (toPV_ok w ow ti.z)) (toPV_refs H.nx ti.z) h.1 h.2
      refine made (Instr.alloc t true (.tuple #[])) _ ?_ (by simp [execOp, hop]) fun _ _ h => h
      obtain ⟨q, row, hK, cv, w', L, hrun, rest⟩ := hm
      refine ⟨q, row, hK, cv, w', L, ?_, rest⟩
      rw [← hrun]
      simp [Instr.alloc, zeroValue, typeInfo, hi, hz]
  case makeSlice t l c =>
    rw [opW, hop] at h
    exact made _ _ (make_sound hT hs (V l) (V c) h) (by simp [execOp, hop]) fun _ _ h => h
  case buildSlice t len parts =>
    rw [opW, hop] at h
    refine made _ _ (lit_sound hT hs (vals := parts.map fun (i, x) => (i, a.eval x)) (by simp) (fun i hi => ?_) h) (by simp [execOp, hop]) fun _ _ h => h
    have hi' : i < parts.size := by simpa using hi
    have e1 : (parts.toList.map fun x => (x.1, ev F.get x.2)).getD i (0, .undef) = (parts[i].1, ev F.get parts[i].2) := by simp [List.getD, hi']
    have e2 : (parts.map fun (i, x) => (i, a.eval x)).toList.getD i (0, undef) = (parts[i].1, a.eval parts[i].2) := by simp [List.getD, hi']
    rw [e1, e2]
    exact ⟨rfl, V _⟩
  case convert src dst x =>
    rw [opW, hop] at h
    simp only at h
    cases hb : isBytes tt src dst with
    | false =>
      rw [hb] at h
      refine quiet ?_
      rw [hop]
      exact h
    | true =>
      rw [hb] at h
      simp only at h
      unfold isBytes at hb
      cases hs1 : tt src with
      | none => rw [hs1] at hb; cases hb
      | some s =>
      cases hd1 : tt dst with
      | none => rw [hs1, hd1] at hb; cases hb
      | some d =>
      rw [hs1, hd1] at hb
      simp only at hb
      split at hb
      · rename_i e hsd hdd
        cases hte : tt e with
        | none => rw [hte] at hb; cases hb
        | some te =>
          rw [hte] at hb
          simp only at hb
          split at hb
          · rename_i hu8
            have hx := V x
            cases hp : ev F.get x <;> rw [hp] at h hx <;> try exact h.elim
            exact made _ (fun q H' => K (F.put o.dst q) H') (bytes_sound hT hs ((hT _ _ hs1).under_str hsd) ((hT _ _ hd1).under_slice hdd) ((hT _ _ hte).under_int hu8) hx h.1 h.2) (by simp [execOp, hop]) fun _ _ h => h
          · cases hb
      · cases hb
  case call c =>
    obtain ⟨callee, args, argTypes⟩ := c
    rw [opW, hop] at h
    simp only at h
    cases callee with
    | invoke r m => exact h.elim
    | builtin b =>
      simp only at h
      cases he : isEffect b with
      | false =>
        rw [he] at h
        refine quiet ?_
        rw [hop]; exact h
      | true =>
        rw [he] at h
        simp only at h
        cases b <;> first | (simp [isEffect] at he; done) | skip
        case append =>
          unfold builtinW at h
          split at h
          · rename_i s x t u hbb ha hat
            obtain ⟨s', hs'⟩ : ∃ l, args.toList = l := ⟨_, rfl⟩
            rw [hs'] at ha
            match s', hs', ha with
            | [x1, x2], hs', ha =>
              simp only [List.map_cons, List.map_nil, List.cons.injEq, and_true] at ha
              obtain ⟨rfl, rfl⟩ := ha
              obtain rfl : args = #[x1, x2] := Array.ext' hs'
              obtain rfl : argTypes = #[t, u] := Array.ext' hat
              obtain ⟨q, H', kl, hK, cv, w', ow', loc', hrun, hs', hst, hb, hv, hr, hfr⟩ := app_sound (ty := o.type) hT hs (V x1) (V x2) h
              unfold Oper.wp
              simp only [execOp, hop, resolve, invoke, builtin, Sem.run_bind, Sem.run_pure, Result.andThen_ok, List.map_toArray, List.map_cons, List.map_nil, hrun]
              exact hk _ _ _ _ hK (put_st hs' ((hfr _ _ hf).congr (killG_frame kl F)) hsz hd hv hr)
            | [], _, ha => simp at ha
            | [_], _, ha => simp at ha
            | _ :: _ :: _ :: _, _, ha => simp at ha
          · rename_i hbb _ _; cases hbb
          · exact h.elim
        case copy =>
          unfold builtinW at h
          split at h
          · rename_i hbb _ _; cases hbb
          · rename_i s x t u hbb ha hat
            obtain ⟨s', hs'⟩ : ∃ l, args.toList = l := ⟨_, rfl⟩
            rw [hs'] at ha
            match s', hs', ha with
            | [x1, x2], hs', ha =>
              simp only [List.map_cons, List.map_nil, List.cons.injEq, and_true] at ha
              obtain ⟨rfl, rfl⟩ := ha
              obtain rfl : args = #[x1, x2] := Array.ext' hs'
              obtain rfl : argTypes = #[t, u] := Array.ext' hat
              obtain ⟨q, H', hK, cv, w', hrun, hs', hst, hv, hr, hnx⟩ := copy_sound (u := u) (ty := o.type) hT hs (V x1) (V x2) h
              unfold Oper.wp
              simp only [execOp, hop, resolve, invoke, builtin, Sem.run_bind, Sem.run_pure, Result.andThen_ok, List.map_toArray, List.map_cons, List.map_nil, hrun]
              exact hk _ _ _ _ hK (put_st hs' (by rw [hnx]; exact hf.same hst) hsz hd (.data _ _ hv) (hr _))
            | [], _, ha => simp at ha
            | [_], _, ha => simp at ha
            | _ :: _ :: _ :: _, _, ha => simp at ha
          · exact h.elim
    | value f =>
      cases f with
      | tmp t => exact h.elim
      | const v => exact h.elim
      | global g => exact h.elim
      | func f =>
        simp only at h
        rcases h with h | h
        case inr =>
          have hexec : (execOp a.eval o).run P w = (callFunc f (args.map a.eval)).run P w := by
            simp [execOp, hop, resolve, Act.eval, Deferred.ofValue, invoke]
          let E' : Entry := ⟨E.w0, E.S0, E.A, fun i t => match i with | 0 => a.tmps.getD t undef | i + 1 => E.gv i t⟩
          have hs' : HS E' ⟨H.nx, H.rows, F :: H.g⟩ ow loc w := ⟨hs.rows, hs.live, hs.inj, hs.old, hs.size, hs.os, hs.tape, hs.output, hs.nx, hs.owlt, hs.forb, hs.alt, hs.apart, hs.refs, fun i t => by
            cases i with
            | zero => exact ⟨hf.vals t, hf.refs t⟩
            | succ i => exact hs.gh i t⟩
          have hcall := h E' ow loc w (args.map a.eval) hs' (by simp) (fun i hi => by
            have hi' : i < args.size := by simpa using hi
            have e2 : (args.toList.map (ev F.get)).getD i .undef = ev F.get args[i] := by simp [List.getD, hi']
            have e3 : (args.map a.eval).getD i undef = a.eval args[i] := by simp [Array.getD, hi']
            rw [e2, e3]
            exact ⟨V _, R _⟩)
          have next : ∀ v w', (∃ res H' ow' loc', (∃ F' g', H'.g = F' :: g' ∧ K (F'.put o.dst res) ⟨H'.nx, H'.rows, g'⟩) ∧ HS E' H' ow' loc' w' ∧ RV w' ow' loc' res v ∧ Refs H'.nx res) → Kc (a.put o.dst v) w' := by
            rintro v w' ⟨res, ⟨nx', rows', g0⟩, ow', loc', ⟨F', g', hg, hK⟩, hs2, hv, hr⟩
            simp only at hg
            subst hg
            have hs3 : HS E ⟨nx', rows', g'⟩ ow' loc' w' := ⟨hs2.rows, hs2.live, hs2.inj, hs2.old, hs2.size, hs2.os, hs2.tape, hs2.output, hs2.nx, hs2.owlt, hs2.forb, hs2.alt, hs2.apart, hs2.refs, fun i t => hs2.gh (i + 1) t⟩
            have hf3 : FS w' ow' loc' nx' F'.get a := ⟨fun t => (hs2.gh 0 t).1, fun t => (hs2.gh 0 t).2, hf.defers⟩
            exact hk _ _ _ _ hK (put_st hs3 hf3 hsz hd hv hr)
          unfold Oper.wp
          rw [hexec]
          rcases hcall with ⟨h1, h2⟩ | ⟨v, w', h1, h2⟩
          · rw [h1]
            exact h2.mono fun e w' ⟨v, he, hback⟩ => by subst he; exact next v w' hback
          · rw [h1]
            exact next v w' h2
        obtain ⟨hok, res, hm, h⟩ := h
        have hlen : ((args.toList.map (ev F.get)).map (view H.get)).length = (args.map a.eval).size := by simp
        have hcall := hm w (lessOf ow loc ((args.toList.map (ev F.get)).flatMap ids)) (args.map a.eval) (fun b hb => hs.owlt b hb.1) hlen (fun i hi => by
          have hi' : i < args.size := by simpa using hi
          have hi2 : i < (args.toList.map (ev F.get)).length := by simpa using hi'
          have e1 : ((args.toList.map (ev F.get)).map (view H.get)).getD i .undef = view H.get ((args.toList.map (ev F.get)).getD i .undef) := by simp [List.getD, hi']
          have e2 : (args.toList.map (ev F.get)).getD i .undef = ev F.get args[i] := by simp [List.getD, hi']
          have e3 : (args.map a.eval).getD i undef = a.eval args[i] := by simp [Array.getD, hi']
          rw [e1, e3]
          refine view_ok hs.rowsOk (by rw [e2]; exact V _) (okViews_get _ hok i hi2) _ (ids_mem hi2))
        have next : ∀ v w', Back w (lessOf ow loc ((args.toList.map (ev F.get)).flatMap ids)) res v w' → Kc (a.put o.dst v) w' := by
          rintro v w' ⟨hb, hr⟩
          have hs' := hs.ext hb
          have hst : Stable ow w w' := Stable.of_blocks fun b hlt _ => hb.block b hlt
          have hf' := hf.same hst
          cases hc : flatB res || (args.toList.map (ev F.get)).all dataB with
          | true =>
            rw [hc] at h
            refine hk _ _ _ _ h (put_st hs' hf' hsz hd (.data _ _ ?_) (rd_refs hr))
            simp only [Bool.or_eq_true] at hc
            rcases hc with hc | hc
            · exact hr.flat (flat_of hc)
            · refine hr.mono (Stable.refl _ _) fun b _ hob => ⟨hob, ?_⟩
              rintro ⟨r, hrm, _⟩
              obtain ⟨p, hp, hrp⟩ := List.mem_flatMap.1 hrm
              rw [ids_data (List.all_eq_true.1 hc p hp)] at hrp
              cases hrp
          | false =>
            rw [hc] at h
            exact hk _ _ _ _ h (put_st (hs'.drop _) (hf'.drop _) hsz hd (.data _ _ hr) (rd_refs hr))
        unfold Oper.wp
        have hexec : (execOp a.eval o).run P w = (callFunc f (args.map a.eval)).run P w := by
          simp [execOp, hop, resolve, Act.eval, Deferred.ofValue, invoke]
        rw [hexec]
        rcases hcall with ⟨h1, h2⟩ | ⟨v, w', h1, h2⟩
        · rw [h1]
          exact h2.mono fun e w' ⟨v, he, hback⟩ => by subst he; exact next v w' hback
        · rw [h1]
          exact next v w' h2
  all_goals
    rw [opW, hop] at h
    refine quiet ?_
    rw [hop]
    exact h
end
end Go.PV

/- Pure values, part 19: what less is known of a state; functions. -/
import Derived.Test.YtmoigffjpijpaaaV18
set_option linter.unusedVariables false
set_option linter.unusedSimpArgs false
namespace Go.PV
open Go Go.RowKit

section
variable {P : Program} {w w' : World} {ow ow' : Nat → Prop} {loc loc' : Locs} {n nt : Nat} {E : Entry} {H : Heap} {F : Frame} {a : Act} {tt : Tab} {rows : Nat → Option Row}

/-- Every slot of F' is one of F's with the same value, or nothing is said of it. -/
def keeps (F : Frame) : Frame → Prop
  | [] => True
  | (t, p) :: rest => F.get t = p ∧ keeps F rest

theorem keeps_get {F : Frame} : ∀ {F' : Frame}, keeps F F' → ∀ t, F'.get t = F.get t ∨ F'.get t = .undef
  | [], _, t => .inr rfl
  | (k, p) :: rest, h, t => by
    simp only [Frame.get]
    cases hk : k == t with
    | true =>
      have : k = t := by simpa using hk
      subst this
      exact .inl h.1.symm
    | false => exact keeps_get h.2 t

theorem FS.keep (h : FS w ow loc n F.get a) {F' : Frame} (hk : keeps F F') : FS w ow loc n F'.get a :=
  ⟨fun t => (keeps_get hk t).elim (fun e => e ▸ h.vals t) fun e => e ▸ .data _ _ (.undef _), fun t => (keeps_get hk t).elim (fun e => e ▸ h.refs t) fun e => e ▸ .undef, h.defers⟩

/-- Slots that nobody asks for any more. -/
theorem Sub.frame {F' : Frame} (hk : keeps F F') : Sub E nt F H F' H := fun a w ⟨ow, loc, hs, hf, hsz⟩ => ⟨ow, loc, hs, hf.keep hk, hsz⟩

theorem call_enters {f : FuncId} {fn : Func} {c : Code} (hf : P.funcs[f]? = some fn) (hname : (fn.name == "runtime.NumGoroutine") = false) (hb : fn.body = some c) (args : Array Value) (w : World) :
    (callFunc f args).run P w = .ok (.enter f args) w := by
  have h1 : fn.name ≠ "runtime.NumGoroutine" := by simpa using hname
  simp [callFunc, hf, h1, hb]

def refsB0 (n : Nat) : PV → Bool
  | .sl r _ _ _ => decide (r < n)
  | .ptr r _ _ => decide (r < n)
  | .agg _ | .tup _ => false
  | _ => true

def refsB (n : Nat) : PV → Bool
  | .agg l => l.all (refsB0 n)
  | p => refsB0 n p

theorem refs_of0 {n : Nat} {p : PV} (h : refsB0 n p = true) : Refs n p := by
  cases p <;> simp only [refsB0, decide_eq_true_eq] at h <;> first | (constructor; done) | exact .sl _ _ _ _ h | exact .ptr _ _ _ h | cases h

theorem refs_of {n : Nat} {p : PV} (h : refsB n p = true) : Refs n p := by
  cases p with
  | agg l => exact .agg _ fun i hi => refs_of0 (List.all_eq_true.1 h _ (getD_mem hi))
  | _ => exact refs_of0 h

theorem getD_undef_refs (n : Nat) (F : Frame) (h : ∀ x ∈ F, refsB n x.2 = true) (t : Nat) : Refs n (F.get t) := by
  induction F with
  | nil => exact .undef
  | cons x rest ih =>
    obtain ⟨k, p⟩ := x
    simp only [Frame.get]
    cases k == t with
    | true => exact refs_of (h (k, p) (by simp))
    | false => exact ih fun y hy => h y (by simp [hy])

def keepsRows (rows : List (Nat × Row)) : List (Nat × Row) → Prop
  | [] => True
  | (r, row) :: rest => getRow rows r = some row ∧ keepsRows rows rest

theorem keepsRows_get {rows : List (Nat × Row)} : ∀ {rows' : List (Nat × Row)}, keepsRows rows rows' → ∀ r row, getRow rows' r = some row → getRow rows r = some row
  | [], _, r, row, h => by cases h
  | (k, x) :: rest, h, r, row, hr => by
    simp only [getRow] at hr
    cases hk : k == r with
    | true =>
      have : k = r := by simpa using hk
      subst this
      rw [hk] at hr
      simp only [cond_true, Option.some.injEq] at hr
      subst hr
      exact h.1
    | false =>
      rw [hk] at hr
      exact keepsRows_get h.2 r row hr

def rowRefsB (n : Nat) : Row → Bool
  | .var l => l.all (refsB0 n)
  | _ => true

/-- **The state at a loop's head, and wherever ways meet:** these slots, these rows, numbers below nx. -/
theorem Sub.norm {F' : Frame} {H' : Heap} (hk : keeps F F') (hr : keepsRows H.rows H'.rows) (hx : H'.nx ≤ H.nx) (hg : H.g = []) (hg' : H'.g = []) (hF : F'.all (fun x => refsB H'.nx x.2) = true) (hH : H'.rows.all (fun x => decide (x.1 < H'.nx) && rowRefsB H'.nx x.2) = true) : Sub E nt F H F' H' := by
  rintro a w ⟨ow, loc, hs, hf, hsz⟩
  have hlt : ∀ r row, H'.get r = some row → r < H'.nx ∧ rowRefsB H'.nx row = true := by
    intro r row h
    have : ∀ (l : List (Nat × Row)), l.all (fun x => decide (x.1 < H'.nx) && rowRefsB H'.nx x.2) = true → getRow l r = some row → r < H'.nx ∧ rowRefsB H'.nx row = true := by
      intro l
      induction l with
      | nil => intro _ h; cases h
      | cons x rest ih =>
        obtain ⟨k, y⟩ := x
        intro hl hg
        simp only [List.all_cons, Bool.and_eq_true, decide_eq_true_eq] at hl
        simp only [getRow] at hg
        cases hkr : k == r with
        | true =>
          have : k = r := by simpa using hkr
          subst this
          rw [hkr] at hg
          simp only [cond_true, Option.some.injEq] at hg
          subst hg
          exact hl.1
        | false =>
          rw [hkr] at hg
          exact ih (by simpa using hl.2) hg
    exact this _ hH h
  have hle : LocLe loc (fun r => bif decide (r < H'.nx) then loc r else none) := fun r => by
    show (bif decide (r < H'.nx) then loc r else none) = loc r ∨ (bif decide (r < H'.nx) then loc r else none) = none
    cases decide (r < H'.nx) <;> simp
  have hsome : ∀ r x, (bif decide (r < H'.nx) then loc r else none) = some x → loc r = some x := fun r x h => by
    cases hd : decide (r < H'.nx) with
    | true => rw [hd] at h; exact h
    | false => rw [hd] at h; cases h
  refine ⟨ow, fun r => bif decide (r < H'.nx) then loc r else none, ⟨?_, fun r L h => hs.live r L (hsome r _ h), fun r r' L L' h1 h2 => hs.inj r r' L L' (hsome r _ h1) (hsome r' _ h2), hs.old, hs.size, hs.os, hs.tape, hs.output, ?_, hs.owlt, hs.forb, hs.alt, fun r L h => hs.apart r L (hsome r _ h), ?_, fun i t => by rw [hg']; simp only [List.getD_nil, Frame.get]; exact ⟨.data _ _ (.undef _), .undef⟩⟩, ?_, hsz⟩
  · intro r row h
    obtain ⟨L, hL, hat⟩ := hs.rows r row (keepsRows_get hr r row h)
    refine ⟨L, ?_, hat.mono (n := H.nx) (Stable.refl _ _) (fun _ _ h => h) (fun r _ => hle r) (fun l e => hs.refs r l (by rw [← e]; exact keepsRows_get hr r row h)) fun M _ => rfl⟩
    simp only [decide_eq_true (hlt r row h).1, cond_true]
    exact hL
  · intro r h
    show (bif decide (r < H'.nx) then loc r else none) = none
    rw [decide_eq_false (by omega)]; rfl
  · intro r l h j hj
    exact refs_of0 (List.all_eq_true.1 (hlt r _ h).2 _ (getD_mem hj))
  · have h1 := hf.keep hk
    exact ⟨fun t => (h1.vals t).mono (Stable.refl _ _) (fun _ _ h => h) hle, getD_undef_refs _ _ (List.all_eq_true.1 hF), h1.defers⟩

/-- An empty slice is one with no elements. -/
theorem RV.nil_ints (k : IntKind) {v : Value} (h : RV w ow loc .nil v) : RV w ow loc (.ints k []) v := by
  obtain rfl := rv_nil h
  exact .data _ _ (.intsNil k)

-- functions
/-- What a function hands back. -/
def resV (tt : Tab) (F : Frame) (H : Heap) : ResultVar → (PV → Prop) → Prop
  | .tmp t, K => okView H.get (F.get t) ∧ K (view H.get (F.get t))
  | .cell b ty, K => match F.get b, tt ty with
    | .ptr r 0 0, some ti => match H.get r with
      | some (.var l) => isStruct ti.desc = true ∧ ti.size = l.length ∧ okView H.get (.agg l) ∧ K (view H.get (.agg l))
      | _ => False
    | _, _ => False

def resVs (tt : Tab) (F : Frame) (H : Heap) : List ResultVar → (List PV → Prop) → Prop
  | [], K => K []
  | r :: rest, K => resV tt F H r fun p => resVs tt F H rest fun ps => K (p :: ps)

def oneOf : List PV → PV
  | [p] => p
  | ps => .tup ps

def argsFrame : Nat → List PV → Frame
  | _, [] => []
  | k, p :: rest => (k, p) :: argsFrame (k + 1) rest

theorem argsFrame_get (args : List PV) (k t : Nat) : (argsFrame k args).get t = if k ≤ t ∧ t < k + args.length then args.getD (t - k) .undef else .undef := by
  induction args generalizing k with
  | nil => simp only [argsFrame, Frame.get, List.length_nil]; rw [if_neg (by omega)]
  | cons p rest ih =>
    simp only [argsFrame, Frame.get, List.length_cons]
    by_cases h : k = t
    · subst h
      simp
    · rw [beq_eq_false_iff_ne.2 h, cond_false, ih]
      by_cases h2 : k + 1 ≤ t ∧ t < k + 1 + rest.length
      · rw [if_pos h2, if_pos (by omega), show t - k = (t - (k + 1)) + 1 by omega]
        simp
      · rw [if_neg h2, if_neg (by omega)]

theorem RD.weaken {A : Nat → Prop} (hs : HS E H ow loc w) (hA : ∀ b, A b → E.A b) (S : List Nat) {p : PV} {v : Value} (h : RD w (lessOf ow loc S) p v) : RD w A p v :=
  h.mono (w' := w) (fun b o u _ hc => hc) (fun b _ hb => ⟨hs.forb b (hA b hb), fun ⟨r, _, L, hL, e⟩ => by subst e; exact hs.apart r L hL (hA _ hb)⟩)

def resSem (tmps : Array Value) : ResultVar → Sem Value
  | .tmp t => pure (tmps.getD t undef)
  | .cell b t => do loadVar t (← asAddr (tmps.getD b undef))

theorem results_eq (fn : Func) (tmps : Array Value) : results fn tmps = (do let vs ← fn.results.mapM (resSem tmps); pure (if h : vs.size = 1 then vs[0] else .tuple vs)) := by
  unfold results
  congr 1

theorem resVs_sound (hT : TabOk P tt) {A : Nat → Prop} (hs : HS E H ow loc w) (hf : FS w ow loc H.nx F.get a) (hA : ∀ b, A b → E.A b) : ∀ (rs : List ResultVar) (K : List PV → Prop), resVs tt F H rs K →
    ∃ (ps : List PV) (vs : List Value), K ps ∧ (rs.mapM (resSem a.tmps)).run P w = .ok vs w ∧ ps.length = vs.length ∧ ps.length = rs.length ∧ ∀ i, i < ps.length → RD w A (ps.getD i .undef) (vs.getD i undef)
  | [], K, h => ⟨[], [], h, by simp, rfl, rfl, fun i hi => by simp at hi⟩
  | r :: rest, K, h => by
    simp only [resVs] at h
    have step : ∃ p v, resVs tt F H rest (fun ps => K (p :: ps)) ∧ (resSem a.tmps r).run P w = .ok v w ∧ RD w A p v := by
      cases r with
      | tmp t =>
        obtain ⟨hok, h⟩ := h
        exact ⟨_, a.tmps.getD t undef, h, by simp [resSem], (view_ok hs.rowsOk (hf.vals t) hok (ids (F.get t)) fun _ h => h).weaken hs hA _⟩
      | cell b t =>
        simp only [resV] at h
        have hb := hf.vals b
        split at h
        · rename_i r ti hp hti
          rw [hp] at hb
          cases hrw : H.get r with
          | none => rw [hrw] at h; exact h.elim
          | some row =>
            rw [hrw] at h
            cases row with
            | ints => exact h.elim
            | list => exact h.elim
            | var l =>
              obtain ⟨hst, hsz, hok, h⟩ := h
              have ht := hT _ _ hti
              have hno : isOther ti.desc = false := by cases hd : ti.desc <;> simp [isStruct, isOther, hd] at hst ⊢
              have hload := load_sound (P := P) ht hno hs.rowsOk (K := fun p => p = .agg l) hb (by
                simp only [loadW, hrw, hst, partW]
                exact ⟨trivial, by omega, by rw [List.drop_zero, hsz, List.take_length]⟩)
              obtain ⟨q, rfl, cv, hrun, hv, _⟩ := hload
              refine ⟨_, cv, h, ?_, (view_ok hs.rowsOk hv hok (ids (.agg l)) fun _ h => h).weaken hs hA _⟩
              have hptr : ∃ ad, a.tmps.getD b undef = .pointer (some ad) := by
                generalize a.tmps.getD b undef = x at hb
                cases hb with
                | data _ _ h => cases h
                | _ => exact ⟨_, rfl⟩
              obtain ⟨ad, had⟩ := hptr
              rw [had] at hrun
              simp only [resSem, had]
              simpa [asAddr, Instr.loadAt, Instr.sureAddr] using hrun
        · exact h.elim
    obtain ⟨p, v, h, hrun, hv⟩ := step
    obtain ⟨ps, vs, hK, hruns, hl, hl2, hd⟩ := resVs_sound hT hs hf hA rest _ h
    refine ⟨p :: ps, v :: vs, hK, ?_, by simp [hl], by simp [hl2], fun i hi => ?_⟩
    · simp only [List.mapM_cons, Sem.run_bind, hrun, Result.andThen_ok, hruns, Sem.run_pure]
    · cases i with
      | zero => exact hv
      | succ i => simp only [List.getD_cons_succ]; exact hd i (by simpa using hi)

/-- **A function's contract out of its body.** -/
theorem meets_of (hT : TabOk P tt) {f : FuncId} {fn : Func} {c : Code} (hf : P.funcs[f]? = some fn) (hname : (fn.name == "runtime.NumGoroutine") = false) (hb : fn.body = some c) {args : List PV} {res : PV} (hlen : args.length ≤ fn.ntmps) (hdat : args.all dataB = true)
    (h : ∀ E, PW P E fn.ntmps c (fun e F H => (match e with | .ret | .normal => True | _ => False) ∧ resVs tt F H fn.results.toList fun ps => res = oneOf ps) (argsFrame 0 args) ⟨0, [], []⟩) : Meets P f args res := by
  intro w A vs hA hl hargs
  refine .inl ⟨call_enters hf hname hb vs w, ?_⟩
  refine calls_of_wp hf hb ?_
  have hvs : vs.size ≤ fn.ntmps := by omega
  let E : Entry := ⟨w, fun _ => False, A, fun _ _ => undef⟩
  have hst : St E fn.ntmps (argsFrame 0 args) ⟨0, [], []⟩ { tmps := vs ++ Array.replicate (fn.ntmps - vs.size) undef, defers := [] } w := by
    refine ⟨A, fun _ => none, ⟨(fun r row h => by cases h), (fun r L h => by cases h), (fun r r' L L' h => by cases h), fun _ _ _ => rfl, Nat.le_refl _, rfl, rfl, rfl, fun _ _ => rfl, hA, fun _ h => h, hA, (fun r L h => by cases h), (fun r l h => by cases h), fun i t => ⟨by simp only [List.getD_nil, Frame.get]; exact .data _ _ (.undef _), by simp only [List.getD_nil, Frame.get]; exact .undef⟩⟩, ⟨fun t => ?_, fun t => ?_, rfl⟩, by simp; omega⟩
    · rw [argsFrame_get]
      split
      · rename_i ht
        have ht' : t < vs.size := by omega
        have e : (vs ++ Array.replicate (fn.ntmps - vs.size) undef).getD t undef = vs.getD t undef := by
          simp [Array.getD_eq_getD_getElem?, Array.getElem?_append_left ht']
        simp only [Nat.sub_zero]
        rw [e]
        exact .data _ _ (hargs t (by omega))
      · exact .data _ _ (.undef _)
    · rw [argsFrame_get]
      split
      · rename_i ht
        simp only [Nat.sub_zero]
        exact rd_refs (hargs t (by omega))
      · exact .undef
  refine wp_mono (h E _ w hst) fun e a' w' ⟨F', H', ⟨he, hr⟩, ow, loc, hs, hf', hsz⟩ => ?_
  have fin : a'.defers = [] ∧ ∃ v, (results fn a'.tmps).run P w' = .ok v w' ∧ ∃ u, Ending.returned v = Ending.returned u ∧ Back w A res u w' := by
    obtain ⟨ps, us, hres, hrun, hlen2, hlen3, hd⟩ := resVs_sound (P := P) (A := A) hT hs hf' (fun _ h => h) fn.results.toList _ hr
    subst hres
    have hback : Below w.heap.size w w' := ⟨hs.os, hs.tape, hs.output, hs.size, fun b hb0 => hs.old b hb0 (fun h => h)⟩
    have hmap : (fn.results.mapM (resSem a'.tmps)).run P w' = .ok us.toArray w' := by
      rw [Array.mapM_eq_mapM_toList]
      simp only [Sem.run_map, hrun, Result.andThen_ok]
    refine ⟨hf'.defers, if h : us.toArray.size = 1 then us.toArray[0] else .tuple us.toArray, ?_, _, rfl, hback, ?_⟩
    · rw [results_eq]; simp only [Sem.run_bind, hmap, Result.andThen_ok, Sem.run_pure]
    · match ps, us, hlen2, hd with
      | [p], [u], _, hd => simpa [oneOf] using hd 0 (by simp)
      | [], [], _, hd => simpa [oneOf] using RD.tup [] #[] rfl hd
      | p :: q :: ps, u :: u' :: us, hl, hd =>
        have : ¬ ((u :: u' :: us).toArray.size = 1) := by simp
        rw [dif_neg this]
        exact .tup _ _ (by simpa using hl) fun i hi => by
          have := hd i hi
          have e : (u :: u' :: us).toArray.getD i undef = (u :: u' :: us).getD i undef := by
            rw [Array.getD_eq_getD_getElem?, List.getElem?_toArray]; rfl
          rw [e]; exact this
  cases e <;> first | exact fin | exact he.elim
end
end Go.PV

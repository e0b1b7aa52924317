/- Pure values, part 23: regions that draw their order, all of whose operations only compute: every order does what the text's does. -/
import Derived.Test.YtmoigffjpijpaaaV22
set_option linter.unusedVariables false
set_option linter.unusedSimpArgs false
namespace Go.PV
open Go Go.RowKit

/-- A region's operations, one behind the other, where all of them only compute. -/
def opsD (P : Program) (tt : Tab) (all : List Oper) : List Oper → Frame → Heap → (Frame → Prop) → Prop
  | [], F, H, K => K F
  | o :: rest, F, H, K => wantW all F o (stepD P tt o (ev F.get) H fun q => opsD P tt all rest (F.put o.dst q) H K) (opsD P tt all rest (F.put o.dst (.tup [])) H K)

/-- Operation o hands on q. -/
def yieldsD (P : Program) (tt : Tab) (all : List Oper) (o : Oper) (F : Frame) (H : Heap) (q : PV) : Prop :=
  wantW all F o (∀ K : PV → Prop, K q → stepD P tt o (ev F.get) H K) (PV.tup [] = q)

/-- The frame behind the first k operations, in the text's order, handing on qs. -/
def frameAt (F : Frame) : List Oper → (Nat → PV) → Nat → Frame
  | [], _, _ => F
  | _ :: _, _, 0 => F
  | o :: rest, qs, k + 1 => frameAt (F.put o.dst (qs 0)) rest (fun j => qs (j + 1)) k

def looks (all : List Oper) (o : Oper) : List Nat :=
  (o.op.operands.toList.filterMap fun | .tmp t => some t | _ => none) ++
  (match o.guard with
   | some (g, _) => (dstAt all g).toList
   | none => [])

def waits (o : Oper) (j : Nat) : Bool := o.after.toList.any fun e => Region.binds .any e && e.on == j

/-- Each slot has one writer; who reads it waits for the writer that stands ahead, and the writer that stands behind waits for him; all wait for earlier ones alone. -/
def regOk (all : List Oper) : Bool :=
  (List.range all.length).all fun i => match all[i]? with
    | none => true
    | some oi => (oi.after.toList.all fun e => !Region.binds .any e || decide (e.on < i)) &&
      (List.range all.length).all fun j => j == i || match all[j]? with
        | none => true
        | some oj => match oj.dst with
          | none => true
          | some t => oi.dst != some t && (!(looks all oi).contains t || (if j < i then waits oi j else waits oj i))

section
variable {P : Program} {w w' : World} {ow ow' : Nat → Prop} {loc loc' : Locs} {n nt : Nat} {E : Entry} {H : Heap} {F : Frame} {a : Act} {tt : Tab} {rows : Nat → Option Row}

theorem wantW_imp {all : List Oper} {o : Oper} {yes no yes' no' : Prop} (h1 : yes → yes') (h2 : no → no') (h : wantW all F o yes no) : wantW all F o yes' no' := by
  unfold wantW at *
  split at h
  · exact h1 h
  · split at h
    · exact ⟨fun e => h1 (h.1 e), fun e => h2 (h.2 e)⟩
    · exact h2 h
    · exact h.elim

/-- Whatever the fork's outcome: one of both sides, for good. -/
theorem wantW_or {all : List Oper} {o : Oper} {yes no : Prop} (h : wantW all F o yes no) : (yes ∧ ∀ p q : Prop, p → wantW all F o p q) ∨ (no ∧ ∀ p q : Prop, q → wantW all F o p q) := by
  unfold wantW at *
  split at h
  · exact .inl ⟨h, fun p q hp => hp⟩
  · split at h
    · exact (Classical.em _).elim (fun e => .inl ⟨h.1 e, fun p q hp => ⟨fun _ => hp, fun hn => absurd e hn⟩⟩) fun e => .inr ⟨h.2 e, fun p q hq => ⟨fun he => absurd he e, fun _ => hq⟩⟩
    · exact .inr ⟨h, fun p q hq => hq⟩
    · exact h.elim

theorem trace_of {all : List Oper} : ∀ (rest : List Oper) (F : Frame) {K : Frame → Prop}, opsD P tt all rest F H K →
    ∃ qs : Nat → PV, (∀ k o, rest[k]? = some o → yieldsD P tt all o (frameAt F rest qs k) H (qs k)) ∧ K (frameAt F rest qs rest.length)
  | [], F, K, h => ⟨fun _ => .undef, fun k o ho => by simp at ho, h⟩
  | o :: rest, F, K, h => by
    simp only [opsD] at h
    have step : ∃ q, yieldsD P tt all o F H q ∧ opsD P tt all rest (F.put o.dst q) H K := by
      rcases wantW_or h with ⟨h1, h2⟩ | ⟨h1, h2⟩
      · obtain ⟨q, hq, hs⟩ := stepD_pt o _ H _ h1
        exact ⟨q, h2 _ _ hs, hq⟩
      · exact ⟨.tup [], h2 _ _ rfl, h1⟩
    obtain ⟨q, hy, hr⟩ := step
    obtain ⟨qs, h3, h4⟩ := trace_of rest _ hr
    refine ⟨fun | 0 => q | j + 1 => qs j, fun k o' ho => ?_, h4⟩
    cases k with
    | zero =>
      simp only [List.getElem?_cons_zero, Option.some.injEq] at ho
      subst ho
      exact hy
    | succ k =>
      simp only [List.getElem?_cons_succ] at ho
      exact h3 k o' ho

theorem dstAt_succ (o : Oper) (rest : List Oper) (j : Nat) : dstAt (o :: rest) (j + 1) = dstAt rest j := rfl

theorem put_get_ne {d : Option Nat} {t : Nat} {p : PV} (h : d ≠ some t) : (F.put d p).get t = F.get t := by
  cases d with
  | none => rfl
  | some d =>
    have : d ≠ t := fun e => h (by rw [e])
    simp [Frame.put, Frame.get, beq_eq_false_iff_ne.2 this]

theorem put_get_eq {t : Nat} {p : PV} : (F.put (some t) p).get t = p := by simp [Frame.put, Frame.get]

theorem frameAt_none : ∀ (ops : List Oper) (F : Frame) (qs : Nat → PV) (k t : Nat), (∀ j, j < k → dstAt ops j ≠ some t) → (frameAt F ops qs k).get t = F.get t
  | [], F, qs, k, t, _ => by simp only [frameAt]
  | o :: rest, F, qs, 0, t, _ => by simp only [frameAt]
  | o :: rest, F, qs, k + 1, t, h => by
    simp only [frameAt]
    rw [frameAt_none rest _ _ k t fun j hj => by have := h (j + 1) (by omega); rwa [dstAt_succ] at this]
    exact put_get_ne (h 0 (by omega))

theorem frameAt_some : ∀ (ops : List Oper) (F : Frame) (qs : Nat → PV) (k t j : Nat), j < k → dstAt ops j = some t → (∀ i, i ≠ j → dstAt ops i ≠ some t) → (frameAt F ops qs k).get t = qs j
  | [], F, qs, k, t, j, _, h, _ => by simp [dstAt] at h
  | o :: rest, F, qs, 0, t, j, hj, _, _ => by omega
  | o :: rest, F, qs, k + 1, t, j, hj, h, hu => by
    simp only [frameAt]
    cases j with
    | zero =>
      rw [frameAt_none rest _ _ k t fun i hi => by have := hu (i + 1) (by omega); rwa [dstAt_succ] at this]
      have : o.dst = some t := h
      rw [this]; exact put_get_eq
    | succ j =>
      rw [dstAt_succ] at h
      exact frameAt_some rest _ _ k t j (by omega) h fun i hi => by have := hu (i + 1) (by omega); rwa [dstAt_succ] at this

/-- What a good region's text keeps to. -/
structure RegOk (all : List Oper) : Prop where
  back : ∀ (i : Nat) (oi : Oper), all[i]? = some oi → ∀ e ∈ oi.after, Region.binds .any e = true → e.on < i
  one : ∀ (i : Nat) (oi : Oper) (j : Nat) (oj : Oper) (t : Nat), all[i]? = some oi → all[j]? = some oj → i ≠ j → oj.dst = some t → oi.dst ≠ some t
  ahead : ∀ (i : Nat) (oi : Oper) (j : Nat) (oj : Oper) (t : Nat), all[i]? = some oi → all[j]? = some oj → j < i → oj.dst = some t → t ∈ looks all oi → waits oi j = true
  behind : ∀ (i : Nat) (oi : Oper) (j : Nat) (oj : Oper) (t : Nat), all[i]? = some oi → all[j]? = some oj → i < j → oj.dst = some t → t ∈ looks all oi → waits oj i = true

theorem regOk_spec {all : List Oper} (h : regOk all = true) : RegOk all := by
  unfold regOk at h
  have key : ∀ i oi, all[i]? = some oi → (∀ e ∈ oi.after, Region.binds .any e = true → e.on < i) ∧
      ∀ j oj t, all[j]? = some oj → i ≠ j → oj.dst = some t → oi.dst ≠ some t ∧ (t ∈ looks all oi → (if j < i then waits oi j else waits oj i) = true) := by
    intro i oi hi
    have hlt : i < all.length := (List.getElem?_eq_some_iff.1 hi).1
    have h1 := List.all_eq_true.1 h i (List.mem_range.2 hlt)
    rw [hi] at h1
    simp only [Bool.and_eq_true] at h1
    refine ⟨fun e he hb => ?_, fun j oj t hj hne hd => ?_⟩
    · have := List.all_eq_true.1 h1.1 e (by simpa using he)
      simpa [hb] using this
    · have hltj : j < all.length := (List.getElem?_eq_some_iff.1 hj).1
      have h2 := List.all_eq_true.1 h1.2 j (List.mem_range.2 hltj)
      rw [hj] at h2
      simp only [hd, Bool.or_eq_true, beq_iff_eq, Ne.symm hne, false_or, Bool.and_eq_true, bne_iff_ne, ne_eq, Bool.not_eq_true'] at h2
      refine ⟨h2.1, fun ht => ?_⟩
      rcases h2.2 with h3 | h3
      · have : (looks all oi).contains t = true := List.contains_iff_mem.2 ht
        rw [this] at h3; cases h3
      · exact h3
  refine ⟨fun i oi hi => (key i oi hi).1, fun i oi j oj t hi hj hne hd => ((key i oi hi).2 j oj t hj hne hd).1, fun i oi j oj t hi hj hlt hd ht => ?_, fun i oi j oj t hi hj hlt hd ht => ?_⟩
  · have := ((key i oi hi).2 j oj t hj (by omega) hd).2 ht
    rwa [if_pos hlt] at this
  · have := ((key i oi hi).2 j oj t hj (by omega) hd).2 ht
    rwa [if_neg (by omega)] at this

theorem waits_spec {o : Oper} {j : Nat} (h : waits o j = true) : ∃ e ∈ o.after, Region.binds .any e = true ∧ e.on = j := by
  unfold waits at h
  obtain ⟨e, he, hb⟩ := List.any_eq_true.1 h
  simp only [Bool.and_eq_true, beq_iff_eq] at hb
  exact ⟨e, by simpa using he, hb⟩

/-- Where an order stands: who has come up has written; whoever has not has not; whom one waits for has come up ahead of him. -/
structure Inv (all : List Oper) (F0 : Frame) (qs : Nat → PV) (listed : Array Bool) (F : Frame) : Prop where
  size : listed.size = all.length
  done : ∀ j t, dstAt all j = some t → listed.getD j false = true → F.get t = qs j
  todo : ∀ t, (∀ j, dstAt all j = some t → listed.getD j false = false) → F.get t = F0.get t
  down : ∀ j oj, all[j]? = some oj → listed.getD j false = true → ∀ e ∈ oj.after, Region.binds .any e = true → listed.getD e.on false = true

theorem dstAt_some {all : List Oper} {j t : Nat} (h : dstAt all j = some t) : ∃ o, all[j]? = some o ∧ o.dst = some t := by
  unfold dstAt at h
  cases ho : all[j]? with
  | none => rw [ho] at h; cases h
  | some o => rw [ho] at h; exact ⟨o, rfl, h⟩

theorem Inv.reads {all : List Oper} {F0 : Frame} {qs : Nat → PV} {listed : Array Bool} (hr : RegOk all) (hi : Inv all F0 qs listed F) {i : Nat} {oi : Oper} (ho : all[i]? = some oi) (hun : listed.getD i false = false)
    (hready : ∀ e ∈ oi.after, Region.binds .any e = true → listed.getD e.on false = true) {t : Nat} (ht : t ∈ looks all oi) : F.get t = (frameAt F0 all qs i).get t := by
  by_cases hw : ∃ j, dstAt all j = some t
  · obtain ⟨j, hj⟩ := hw
    obtain ⟨oj, hoj, hdj⟩ := dstAt_some hj
    have huniq : ∀ k, k ≠ j → dstAt all k ≠ some t := fun k hk hkt => by
      obtain ⟨ok, hok, hdk⟩ := dstAt_some hkt
      exact hr.one k ok j oj t hok hoj hk hdj hdk
    rcases Nat.lt_or_ge j i with hlt | hge
    · obtain ⟨e, he, hb, hon⟩ := waits_spec (hr.ahead i oi j oj t ho hoj hlt hdj ht)
      have := hready e he hb
      rw [hon] at this
      rw [hi.done j t hj this, frameAt_some all F0 qs i t j hlt hj huniq]
    · have hnot : listed.getD j false = false := by
        rcases Nat.lt_or_ge i j with hlt | hle
        · cases hl : listed.getD j false with
          | false => rfl
          | true =>
            obtain ⟨e, he, hb, hon⟩ := waits_spec (hr.behind i oi j oj t ho hoj hlt hdj ht)
            have := hi.down j oj hoj hl e he hb
            rw [hon, hun] at this
            cases this
        · have : i = j := by omega
          rw [← this]; exact hun
      rw [hi.todo t fun k hk => by
        by_cases e : k = j
        · rw [e]; exact hnot
        · exact absurd hk (huniq k e), frameAt_none all F0 qs i t fun k hk => huniq k (by omega)]
  · have hno : ∀ j, dstAt all j ≠ some t := fun j hj => hw ⟨j, hj⟩
    rw [hi.todo t fun k hk => absurd hk (hno k), frameAt_none all F0 qs i t fun k _ => hno k]

theorem Inv.step {all : List Oper} {F0 : Frame} {qs : Nat → PV} {listed : Array Bool} (hr : RegOk all) (hi : Inv all F0 qs listed F) {i : Nat} {oi : Oper} (ho : all[i]? = some oi) (hun : listed.getD i false = false)
    (hready : ∀ e ∈ oi.after, Region.binds .any e = true → listed.getD e.on false = true) : Inv all F0 qs (listed.setIfInBounds i true) (F.put oi.dst (qs i)) := by
  have hlt : i < all.length := (List.getElem?_eq_some_iff.1 ho).1
  have hself : (listed.setIfInBounds i true).getD i false = true := by simp [hi.size, hlt]
  have hne : ∀ j, j ≠ i → (listed.setIfInBounds i true).getD j false = listed.getD j false := fun j hj => getD_set_ne false (Ne.symm hj)
  refine ⟨by simp [hi.size], fun j t hj hl => ?_, fun t h => ?_, fun j oj hoj hl e he hb => ?_⟩
  · obtain ⟨oj, hoj, hdj⟩ := dstAt_some hj
    by_cases e : j = i
    · subst e
      rw [ho] at hoj
      cases hoj
      rw [hdj]; exact put_get_eq
    · rw [put_get_ne (hr.one i oi j oj t ho hoj (Ne.symm e) hdj)]
      rw [hne j e] at hl
      exact hi.done j t hj hl
  · have hd : oi.dst ≠ some t := fun hd => by
      have := h i (by simp [dstAt, ho, hd])
      rw [hself] at this; cases this
    rw [put_get_ne hd]
    refine hi.todo t fun j hj => ?_
    have h2 := h j hj
    by_cases e : j = i
    · subst e; rw [hself] at h2; cases h2
    · rwa [hne j e] at h2
  · have : listed.getD e.on false = true := by
      by_cases ej : j = i
      · subst ej
        rw [ho] at hoj; cases hoj
        exact hready e he hb
      · rw [hne j ej] at hl
        exact hi.down j oj hoj hl e he hb
    exact getD_set_true this

theorem Inv.fin {all : List Oper} {F0 : Frame} {qs : Nat → PV} {listed : Array Bool} (hr : RegOk all) (hi : Inv all F0 qs listed F) (hall : ∀ i, i < all.length → listed.getD i false = true) (t : Nat) : F.get t = (frameAt F0 all qs all.length).get t := by
  by_cases hw : ∃ j, dstAt all j = some t
  · obtain ⟨j, hj⟩ := hw
    obtain ⟨oj, hoj, hdj⟩ := dstAt_some hj
    have hlt : j < all.length := (List.getElem?_eq_some_iff.1 hoj).1
    have huniq : ∀ k, k ≠ j → dstAt all k ≠ some t := fun k hk hkt => by
      obtain ⟨ok, hok, hdk⟩ := dstAt_some hkt
      exact hr.one k ok j oj t hok hoj hk hdj hdk
    rw [hi.done j t hj (hall j hlt), frameAt_some all F0 qs _ t j hlt hj huniq]
  · have hno : ∀ j, dstAt all j ≠ some t := fun j hj => hw ⟨j, hj⟩
    rw [hi.todo t fun k hk => absurd hk (hno k), frameAt_none all F0 qs _ t fun k _ => hno k]

theorem St.drawn {d : Nat} (h : St E nt F H a w) : St E nt F H a { w with drawn := d } := by
  obtain ⟨ow, loc, hs, hf, hsz⟩ := h
  have hst : Stable ow w { w with drawn := d } := Stable.of_blocks fun b _ _ => rfl
  refine ⟨ow, loc, ⟨?_, hs.live, hs.inj, hs.old, hs.size, hs.os, hs.tape, hs.output, hs.nx, hs.owlt, hs.forb, hs.alt, hs.apart, hs.refs, hs.gh.mono hst (fun _ _ h => h) (LocLe.refl _)⟩, ⟨fun t => (hf.vals t).mono hst (fun _ _ h => h) (LocLe.refl _), hf.refs, hf.defers⟩, hsz⟩
  intro r row hrow
  obtain ⟨L, hL, hat⟩ := hs.rows r row hrow
  exact ⟨L, hL, hat.mono (n := H.nx) hst (fun _ _ h => h) (fun r _ => .inl rfl) (fun l e => hs.refs r l (by rw [← e]; exact hrow)) fun M _ => rfl⟩

theorem St.get {F' : Frame} (h : St E nt F H a w) (e : ∀ t, F.get t = F'.get t) : St E nt F' H a w := by
  obtain ⟨ow, loc, hs, hf, hsz⟩ := h
  exact ⟨ow, loc, hs, hf.congr e, hsz⟩

theorem guard_congr {all : List Oper} {o : Oper} {F F' : Frame} (h : ∀ t ∈ looks all o, F.get t = F'.get t) (p q : Prop) : wantW all F o p q = wantW all F' o p q := by
  unfold wantW
  cases hg : o.guard with
  | none => rfl
  | some g =>
    obtain ⟨j, want⟩ := g
    have : guardV all F j = guardV all F' j := by
      unfold guardV
      cases hd : dstAt all j with
      | none => rfl
      | some t => exact h t (by simp [looks, hg, hd])
    simp only [this]

theorem ev_congr {all : List Oper} {o : Oper} {F F' : Frame} (h : ∀ t ∈ looks all o, F.get t = F'.get t) : ∀ x ∈ o.op.operands, ev F.get x = ev F'.get x := by
  intro x hx
  cases x with
  | tmp t => exact h t (List.mem_append_left _ (List.mem_filterMap.2 ⟨.tmp t, by simpa using hx, rfl⟩))
  | _ => rfl

theorem yields_congr {all : List Oper} {o : Oper} {F F' : Frame} {q : PV} (h : ∀ t ∈ looks all o, F.get t = F'.get t) (hy : yieldsD P tt all o F' H q) : yieldsD P tt all o F H q := by
  unfold yieldsD at *
  rw [guard_congr h]
  exact wantW_imp (fun hy K hK => by rw [stepD_congr (ev_congr h)]; exact hy K hK) id hy

theorem any_sound (hT : TabOk P tt) {ops : Array Oper} (hr : RegOk ops.toList) (hd : ops.toList.all (fun o => dstOk nt o.dst) = true) {Q : Exit → Act → World → Prop} {F0 : Frame} {qs : Nat → PV}
    (hy : ∀ k o, ops.toList[k]? = some o → yieldsD P tt ops.toList o (frameAt F0 ops.toList qs k) H (qs k))
    (hk : ∀ a' w', St E nt (frameAt F0 ops.toList qs ops.toList.length) H a' w' → Q .normal a' w') :
    ∀ (fuel : Nat) (listed : Array Bool) (F : Frame) (a : Act) (w : World), Inv ops.toList F0 qs listed F → (∀ i, listed.getD i false = false → i < ops.size → ∃ k, k < fuel + 1) → St E nt F H a w →
      ((List.range ops.size).filter fun i => listed.getD i false = false).length ≤ fuel → wpAny P .any ops Q fuel listed a w := by
  have readyNil : ∀ (listed : Array Bool) (F : Frame), Inv ops.toList F0 qs listed F → Region.ready .any ops listed = [] → ∀ i, i < ops.toList.length → listed.getD i false = true := by
    intro listed F hi hnil i
    induction i using Nat.strongRecOn with
    | _ i ih =>
      intro hlt
      cases hl : listed.getD i false with
      | true => rfl
      | false =>
        have hlt' : i < ops.size := by simpa using hlt
        have hmem : i ∈ Region.ready .any ops listed := by
          rw [mem_ready]
          refine ⟨?_, ops[i], Array.getElem?_eq_getElem hlt', fun e he hb => ?_⟩
          · have hsz : i < listed.size := by rw [hi.size]; exact hlt
            simp only [Array.getD_eq_getD_getElem?, Array.getElem?_eq_getElem hsz, Option.getD_some] at hl ⊢
            exact hl
          · have hb' := hr.back i ops[i] (by rw [Array.getElem?_toList]; exact Array.getElem?_eq_getElem hlt') e he hb
            exact ih e.on hb' (by omega)
        rw [hnil] at hmem
        cases hmem
  intro fuel
  induction fuel with
  | zero =>
    intro listed F a w hi _ hst hlen
    have hall : ∀ i, i < ops.toList.length → listed.getD i false = true := by
      intro i hlt
      cases hl : listed.getD i false with
      | true => rfl
      | false =>
        have : i ∈ (List.range ops.size).filter fun i => listed.getD i false = false := List.mem_filter.2 ⟨List.mem_range.2 (by simpa using hlt), by simpa using hl⟩
        rw [List.length_eq_zero_iff.1 (Nat.le_zero.1 hlen)] at this
        cases this
    refine ⟨?_, hk _ _ (hst.get (hi.fin hr hall))⟩
    cases hready : Region.ready .any ops listed with
    | nil => rfl
    | cons x xs =>
      have hx : x ∈ Region.ready .any ops listed := by rw [hready]; simp
      obtain ⟨hun, o, ho, _⟩ := mem_ready.1 hx
      have hlt : x < ops.toList.length := by have := (Array.getElem?_eq_some_iff.1 ho).1; simpa using this
      have := hall x hlt
      have hsz : x < listed.size := by rw [hi.size]; exact hlt
      simp only [Array.getD_eq_getD_getElem?, Array.getElem?_eq_getElem hsz, Option.getD_some] at this hun
      rw [this] at hun; cases hun
  | succ fuel ih =>
    intro listed F a w hi _ hst hlen
    refine ⟨fun hnil => hk _ _ (hst.get (hi.fin hr (readyNil listed F hi hnil))), fun i hmem => ?_⟩
    obtain ⟨hun0, o, ho, hready⟩ := mem_ready.1 hmem
    have ho' : ops.toList[i]? = some o := by rw [Array.getElem?_toList]; exact ho
    have hlt : i < ops.size := (Array.getElem?_eq_some_iff.1 ho).1
    have hsz : i < listed.size := by rw [hi.size]; simpa using hlt
    have hun : listed.getD i false = false := by
      simp only [Array.getD_eq_getD_getElem?, Array.getElem?_eq_getElem hsz, Option.getD_some] at hun0 ⊢
      exact hun0
    have hi' := hi.step hr ho' hun hready
    have hyi := yields_congr (fun t ht => hi.reads hr ho' hun hready ht) (hy i o ho')
    have hdk : dstOk nt o.dst = true := List.all_eq_true.1 hd o (by exact List.mem_of_getElem? ho')
    have hlen' : ((List.range ops.size).filter fun k => (listed.setIfInBounds i true).getD k false = false).length ≤ fuel := by
      have hsub : ((List.range ops.size).filter fun k => (listed.setIfInBounds i true).getD k false = false).length < ((List.range ops.size).filter fun k => listed.getD k false = false).length := by
        have h1 : ((List.range ops.size).filter fun k => (listed.setIfInBounds i true).getD k false = false) = ((List.range ops.size).filter fun k => listed.getD k false = false).filter fun k => !(k == i) := by
          rw [List.filter_filter]
          refine List.filter_congr fun k hkm => ?_
          by_cases e : k = i
          · subst e
            simp [hsz]
          · rw [getD_set_ne false (Ne.symm e)]
            simp [e]
        rw [h1]
        refine List.length_filter_lt_length_iff_exists.2 ⟨i, List.mem_filter.2 ⟨List.mem_range.2 hlt, by simpa using hun⟩, by simp⟩
      omega
    obtain ⟨ow, loc, hs, hf, hszt⟩ := hst
    unfold wpOp
    simp only [ho]
    unfold yieldsD at hyi
    rcases wanted_of hf.vals hyi with ⟨hw, hyes⟩ | ⟨hw, hno⟩
    · rw [if_pos hw]
      left
      have hop : opW P tt o F H (fun F' H' => F' = F.put o.dst (qs i) ∧ H' = H) := opW_of_stepD (by
        exact hyes _ ⟨rfl, rfl⟩)
      refine op_sound hT hdk hs hf hszt hop fun F' H' a' w' hK hst' => ?_
      obtain ⟨rfl, rfl⟩ := hK
      exact ih _ _ a' w' hi' (fun _ _ _ => ⟨0, by omega⟩) hst' hlen'
    · rw [if_neg (by rw [hw]; simp)]
      have hst' : St E nt (F.put o.dst (.tup [])) H (a.put o.dst undef) w := put_st hs hf hszt hdk undef_ok (.tup [] fun i hi => by simp at hi)
      rw [hno] at hst'
      exact ih _ _ _ w hi' (fun _ _ _ => ⟨0, by omega⟩) hst' hlen'
end
end Go.PV

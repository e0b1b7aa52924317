/- Pure values, part 18: regions whose order is the text's; statements; functions. -/
import Derived.Test.YtmoigffjpijpaaaV17
set_option linter.unusedVariables false
set_option linter.unusedSimpArgs false
namespace Go.PV
open Go Go.RowKit

/-- The temporary of operation j. -/
def dstAt (all : List Oper) (j : Nat) : Option Nat := (all[j]?).bind (·.dst)

/-- What a guard reads. -/
def guardV (all : List Oper) (F : Frame) (j : Nat) : PV :=
  match dstAt all j with
  | some d => F.get d
  | none => .tup []

/-- Is the operation carried out? -/
def wantW (all : List Oper) (F : Frame) (o : Oper) (yes no : Prop) : Prop :=
  match o.guard with
  | none => yes
  | some (j, want) => match guardV all F j with
    | .bool b => (b = want → yes) ∧ (b ≠ want → no)
    | .tup [] => no
    | _ => False

/-- A region's operations, one behind the other. -/
def opsW (P : Program) (tt : Tab) (all : List Oper) : List Oper → Frame → Heap → (Frame → Heap → Prop) → Prop
  | [], F, H, K => K F H
  | o :: rest, F, H, K => wantW all F o (opW P tt o F H fun F' H' => opsW P tt all rest F' H' K) (opsW P tt all rest (F.put o.dst (.tup [])) H K)

section
variable {P : Program} {w w' : World} {ow ow' : Nat → Prop} {loc loc' : Locs} {n nt : Nat} {E : Entry} {H : Heap} {F : Frame} {a : Act} {tt : Tab} {rows : Nat → Option Row}

theorem yielded_eq {ops : Array Oper} {get : Nat → PV} (hv : ∀ t, RV w ow loc (get t) (a.tmps.getD t undef)) (j : Nat) :
    (∀ b, (match dstAt ops.toList j with | some d => get d | none => .tup []) = .bool b → yielded ops a.tmps j = some b) ∧
    ((match dstAt ops.toList j with | some d => get d | none => .tup []) = .tup [] → yielded ops a.tmps j = none) := by
  unfold yielded dstAt
  rw [Array.getElem?_toList]
  cases hd : (ops[j]?).bind (·.dst) with
  | none => exact ⟨(fun b h => by cases h), fun _ => rfl⟩
  | some d =>
    have h1 := hv d
    simp only [Option.bind_some]
    rw [Array.getD_eq_getD_getElem?] at h1
    refine ⟨fun b hb => ?_, fun hb => ?_⟩
    · rw [hb] at h1
      have := rv_bool h1
      cases ht : a.tmps[d]? with
      | none => rw [ht] at this; simp [undef] at this
      | some v => rw [ht] at this; simp only [Option.getD_some] at this; subst this; rfl
    · rw [hb] at h1
      obtain ⟨vs, e, _, _⟩ := rv_tup h1
      cases ht : a.tmps[d]? with
      | none => rfl
      | some v => rw [ht] at e; simp only [Option.getD_some] at e; subst e; rfl

theorem wanted_of {ops : Array Oper} {o : Oper} (hf : ∀ t, RV w ow loc (F.get t) (a.tmps.getD t undef)) {yes no : Prop} (h : wantW ops.toList F o yes no) :
    (Region.wanted o (yielded ops a.tmps) = true ∧ yes) ∨ (Region.wanted o (yielded ops a.tmps) = false ∧ no) := by
  unfold wantW at h
  unfold Region.wanted
  cases hg : o.guard with
  | none => rw [hg] at h; exact .inl ⟨rfl, h⟩
  | some g =>
    obtain ⟨j, want⟩ := g
    rw [hg] at h
    obtain ⟨h1, h2⟩ := yielded_eq (ops := ops) (get := F.get) hf j
    simp only at h ⊢
    unfold guardV at h
    split at h
    · rename_i b hb
      rw [h1 b hb]
      by_cases hbw : b = want
      · exact .inl ⟨by simp [hbw], h.1 hbw⟩
      · exact .inr ⟨by simp [hbw], h.2 hbw⟩
    · rename_i hb
      rw [h2 hb]
      exact .inr ⟨by rfl, h⟩
    · exact h.elim

theorem ops_sound (hT : TabOk P tt) {ops : Array Oper} (hd : ops.toList.all (fun o => dstOk nt o.dst) = true) {Q : Exit → Act → World → Prop} {K : Frame → Heap → Prop} (hk : ∀ F' H' a' w', K F' H' → St E nt F' H' a' w' → Q .normal a' w') :
    ∀ (m k : Nat) (F : Frame) (H : Heap) (a : Act) (w : World), k + m = ops.size → St E nt F H a w → opsW P tt ops.toList (ops.toList.drop k) F H K → wpOps P ops Q (List.range' k m) a w := by
  intro m
  induction m with
  | zero =>
    intro k F H a w hkm hst h
    have : ops.toList.drop k = [] := by apply List.drop_eq_nil_of_le; simp; omega
    rw [this] at h
    exact hk _ _ _ _ h hst
  | succ m ih =>
    intro k F H a w hkm hst h
    have hlt : k < ops.size := by omega
    have hlt' : k < ops.toList.length := by simpa using hlt
    have hdrop : ops.toList.drop k = ops[k] :: ops.toList.drop (k + 1) := by
      rw [List.drop_eq_getElem_cons hlt']; simp
    rw [hdrop] at h
    simp only [opsW] at h
    obtain ⟨ow, loc, hs, hf, hsz⟩ := hst
    have hdk : dstOk nt (ops[k]).dst = true := List.all_eq_true.1 hd _ (by simp)
    simp only [List.range'_succ, wpOps, Array.getElem?_eq_getElem hlt]
    rcases wanted_of hf.vals h with ⟨hw, h⟩ | ⟨hw, h⟩
    · rw [if_pos hw]
      left
      exact op_sound hT hdk hs hf hsz h fun F' H' a' w' hK hst' => ih (k + 1) F' H' a' w' (by omega) hst' hK
    · rw [if_neg (by rw [hw]; simp)]
      exact ih (k + 1) _ _ _ _ (by omega) (put_st hs hf hsz hdk undef_ok (.tup [] fun i hi => by simp at hi)) h

/-- **What a piece of code does, as the proofs see it.** -/
def PW (P : Program) (E : Entry) (nt : Nat) (c : Code) (Q : Exit → Frame → Heap → Prop) (F : Frame) (H : Heap) : Prop :=
  ∀ a w, St E nt F H a w → c.wp P (fun e a' w' => ∃ F' H', Q e F' H' ∧ St E nt F' H' a' w') a w

theorem PW.mono {c : Code} {Q Q' : Exit → Frame → Heap → Prop} (h : PW P E nt c Q F H) (hq : ∀ e F H, Q e F H → Q' e F H) : PW P E nt c Q' F H :=
  fun a w hst => wp_mono (h a w hst) fun e a' w' ⟨F', H', h1, h2⟩ => ⟨F', H', hq _ _ _ h1, h2⟩

theorem PW.region {id : Nat} {ops : Array Oper} {Q : Exit → Frame → Heap → Prop} (hT : TabOk P tt) (hd : ops.toList.all (fun o => dstOk nt o.dst) = true) (h : opsW P tt ops.toList ops.toList F H (fun F' H' => Q .normal F' H')) :
    PW P E nt (.region id ops false) Q F H := fun a w hst => by
  refine wp_region ?_
  rw [List.range_eq_range']
  exact ops_sound hT hd (fun F' H' a' w' hK hst' => ⟨F', H', hK, hst'⟩) ops.size 0 F H a w (by omega) hst h

def thenQ (next : Frame → Heap → Prop) (Q : Exit → Frame → Heap → Prop) : Exit → Frame → Heap → Prop
  | .normal, F, H => next F H
  | e, F, H => Q e F H

theorem PW.seq {x y : Code} {Q : Exit → Frame → Heap → Prop} (h : PW P E nt x (thenQ (PW P E nt y Q) Q) F H) : PW P E nt (.seq x y) Q F H := fun a w hst => by
  refine wp_seq (wp_mono (h a w hst) fun e a' w' hq => ?_)
  obtain ⟨F', H', h1, h2⟩ := hq
  cases e <;> first | exact h1 a' w' h2 | exact ⟨F', H', h1, h2⟩

theorem PW.seq_k {x y : Code} {Q : Exit → Frame → Heap → Prop} (h : ∀ K : Frame → Heap → Prop, (∀ F H, PW P E nt y Q F H → K F H) → PW P E nt x (thenQ K Q) F H) : PW P E nt (.seq x y) Q F H :=
  PW.seq (h _ fun _ _ h => h)

theorem PW.skip {Q : Exit → Frame → Heap → Prop} (h : Q .normal F H) : PW P E nt .skip Q F H := fun a w hst => wp_skip ⟨F, H, h, hst⟩
theorem PW.exit {id : Nat} {Q : Exit → Frame → Heap → Prop} (h : Q (.exit id) F H) : PW P E nt (.exit id) Q F H := fun a w hst => wp_exit ⟨F, H, h, hst⟩
theorem PW.ret {Q : Exit → Frame → Heap → Prop} (h : Q .ret F H) : PW P E nt .ret Q F H := fun a w hst => wp_ret ⟨F, H, h, hst⟩

def condW (p : PV) (x y : Prop) : Prop :=
  match p with
  | .bool b => (b = true → x) ∧ (b = false → y)
  | _ => False

theorem PW.cond {c : Operand} {x y : Code} {Q : Exit → Frame → Heap → Prop} (h : condW (ev F.get c) (PW P E nt x Q F H) (PW P E nt y Q F H)) : PW P E nt (.cond c x y) Q F H := fun a w hst => by
  obtain ⟨ow, loc, hs, hf, hsz⟩ := hst
  have hc := ev_ok hf.vals c
  unfold condW at h
  split at h
  · rename_i b hb
    rw [hb] at hc
    exact wp_cond_split (rv_bool hc) (fun e => h.1 e a w ⟨ow, loc, hs, hf, hsz⟩) (fun e => h.2 e a w ⟨ow, loc, hs, hf, hsz⟩)
  · exact h.elim

def blockQ (id : Nat) (Q : Exit → Frame → Heap → Prop) : Exit → Frame → Heap → Prop
  | .exit id', F, H => if id' = id then Q .normal F H else Q (.exit id') F H
  | e, F, H => Q e F H

theorem PW.block {id : Nat} {c : Code} {Q : Exit → Frame → Heap → Prop} (h : PW P E nt c (blockQ id Q) F H) : PW P E nt (.block id c) Q F H := fun a w hst => by
  refine wp_block (wp_mono (h a w hst) fun e a' w' hq => ?_)
  obtain ⟨F', H', h1, h2⟩ := hq
  cases e <;> try exact ⟨F', H', h1, h2⟩
  rename_i id'
  simp only [Exit.inBlock]
  simp only [blockQ] at h1
  split at h1
  · rw [if_pos ‹_›]; exact ⟨F', H', h1, h2⟩
  · rw [if_neg ‹_›]; exact ⟨F', H', h1, h2⟩

/-- Less is known. -/
def Sub (E : Entry) (nt : Nat) (F : Frame) (H : Heap) (F' : Frame) (H' : Heap) : Prop := ∀ a w, St E nt F H a w → St E nt F' H' a w

theorem Sub.refl (E : Entry) (nt : Nat) (F : Frame) (H : Heap) : Sub E nt F H F H := fun _ _ h => h
theorem Sub.trans {F' F'' : Frame} {H' H'' : Heap} (h : Sub E nt F H F' H') (k : Sub E nt F' H' F'' H'') : Sub E nt F H F'' H'' := fun a w hs => k a w (h a w hs)
theorem PW.sub {F' : Frame} {H' : Heap} {c : Code} {Q : Exit → Frame → Heap → Prop} (hs : Sub E nt F H F' H') (h : PW P E nt c Q F' H') : PW P E nt c Q F H := fun a w hst => h a w (hs a w hst)

/-- A loop: 'I n': what holds at a round's head, n: a number that every round lowers. -/
theorem PW.loop {c : Code} {Q : Exit → Frame → Heap → Prop} (I : Nat → Frame → Heap → Prop) (n₀ : Nat) {F₀ : Frame} {H₀ : Heap} (h0 : Sub E nt F H F₀ H₀) (hI : I n₀ F₀ H₀)
    (round : ∀ n F H, I n F H → PW P E nt c (thenQ (fun F' H' => ∃ n' F'' H'', n' < n ∧ Sub E nt F' H' F'' H'' ∧ I n' F'' H'') Q) F H) : PW P E nt (.loop c) Q F H := fun a w hst => by
  have key : ∀ n F H a w, I n F H → St E nt F H a w → ∀ b k cs, ∃ e a' w', (∃ F' H', Q e F' H' ∧ St E nt F' H' a' w') ∧ Arrives P (lone (b.at a (.code c :: .inLoop c :: k)) cs w) b k cs e a' w' := by
    intro n
    induction n using Nat.strongRecOn with
    | _ n ih =>
      intro F H a w hI hst b k cs
      obtain ⟨e, a1, w1, ⟨F1, H1, hq, hst1⟩, harr⟩ := round n F H hI a w hst b (.inLoop c :: k) cs
      cases e with
      | normal =>
        obtain ⟨n', F2, H2, hlt, hsub, hI2⟩ := hq
        obtain ⟨e2, a2, w2, hq2, harr2⟩ := ih n' hlt F2 H2 a1 w1 hI2 (hsub a1 w1 hst1) b k cs
        exact ⟨e2, a2, w2, hq2, .of_steps (Steps.trans harr (.one step_inLoop)) harr2⟩
      | exit id => exact ⟨_, a1, w1, ⟨F1, H1, hq, hst1⟩, .pass (x := .inLoop c) rfl (fun _ _ => .inl (by simp)) harr⟩
      | goto l => exact ⟨_, a1, w1, ⟨F1, H1, hq, hst1⟩, .pass (x := .inLoop c) rfl (fun _ _ => .inl (by simp)) harr⟩
      | ret => exact ⟨_, a1, w1, ⟨F1, H1, hq, hst1⟩, .pass (x := .inLoop c) rfl (fun _ _ => .inl (by simp)) harr⟩
      | panic ch => exact ⟨_, a1, w1, ⟨F1, H1, hq, hst1⟩, .pass (x := .inLoop c) rfl (fun _ _ => .inl (by simp)) harr⟩
      | outgrown => exact ⟨_, a1, w1, ⟨F1, H1, hq, hst1⟩, .pass (x := .inLoop c) rfl (fun _ _ => .inl (by simp)) harr⟩
  intro b k cs
  obtain ⟨e, a', w', hq, harr⟩ := key n₀ F₀ H₀ a w hI (h0 a w hst) b k cs
  exact ⟨e, a', w', hq, .of_steps (.one step_loop) harr⟩
end
end Go.PV

/- Pure values, part 3: the operations that only read: what the machine does is what part 2 says. -/
import Derived.Test.YtmoigffjpijpaaaV2
namespace Go.PV
open Go Go.RowKit

section
variable {P : Program} {w : World} {ow : Nat → Prop} {loc : Locs} {n : Nat}

/-- What a step hands back: the value as the proofs see it and as the machine has it. -/
def Yld (P : Program) (w : World) (ow : Nat → Prop) (loc : Locs) (n : Nat) (s : Sem Value) (K : PV → Prop) : Prop :=
  ∃ q, K q ∧ ∃ cv, s.run P w = .ok cv w ∧ RV w ow loc q cv ∧ Refs n q

theorem rv_cells {p : PV} {v : Value} (h : RV w ow loc p v) (hk : known p = true) :
    (cellsOf p).length = v.cells.size ∧ ∀ i, i < (cellsOf p).length → RV w ow loc ((cellsOf p).getD i .undef) (v.cells.getD i undef) ∧ (v.cells.getD i undef).oneCell' = true := by
  have one : ∀ (p : PV) (v : Value), RV w ow loc p v → cellsOf p = [p] → v.cells = #[v] → v.oneCell' = true →
      (cellsOf p).length = v.cells.size ∧ ∀ i, i < (cellsOf p).length → RV w ow loc ((cellsOf p).getD i .undef) (v.cells.getD i undef) ∧ (v.cells.getD i undef).oneCell' = true := by
    intro p v h e1 e2 e3
    rw [e1, e2]
    refine ⟨rfl, fun i hi => ?_⟩
    have : i = 0 := by simpa using hi
    subst this
    exact ⟨h, e3⟩
  cases h with
  | data p v hd =>
    cases hd with
    | undef => simp [known] at hk
    | agg l vs hl h1 hd =>
      refine ⟨hl, fun i hi => ⟨.data _ _ (hd i hi), h1 _ ?_⟩⟩
      have hi' : i < vs.size := by simpa [cellsOf, hl] using hi
      show vs.getD i undef ∈ _
      simp [Array.getD, hi']
    | tup => simp [known] at hk
    | int k n => exact one _ _ (.data _ _ (.int k n)) rfl rfl rfl
    | bool b => exact one _ _ (.data _ _ (.bool b)) rfl rfl rfl
    | str s l e => exact one _ _ (.data _ _ (.str s l e)) rfl rfl rfl
    | nil => exact one _ _ (.data _ _ .nil) rfl rfl rfl
    | nilptr => exact one _ _ (.data _ _ .nilptr) rfl rfl rfl
    | intsNil k => exact one _ _ (.data _ _ (.intsNil k)) rfl rfl rfl
    | listNil k => exact one _ _ (.data _ _ (.listNil k)) rfl rfl rfl
    | intsE k a c => exact one _ _ (.data _ _ (.intsE k a c)) rfl rfl rfl
    | listE k a c => exact one _ _ (.data _ _ (.listE k a c)) rfl rfl rfl
    | ints k l n b o cap hn hc ho hm => exact one _ _ (.data _ _ (.ints k l n b o cap hn hc ho hm)) rfl rfl rfl
    | list sz l n b o cap us hn hc ho hsz hz hm h1 hd => exact one _ _ (.data _ _ (.list sz l n b o cap us hn hc ho hsz hz hm h1 hd)) rfl rfl rfl
  | dang r off len full a m c h => exact one _ _ (.dang r off len full a m c h) rfl rfl rfl
  | dangp r i j a h => exact one _ _ (.dangp r i j a h) rfl rfl rfl
  | slnil r full h => exact one _ _ (.slnil r full h) rfl rfl rfl
  | sl r off len full L a c h hlc hc hf ha => exact one _ _ (.sl r off len full L a c h hlc hc hf ha) rfl rfl rfl
  | ptr r i j L h => exact one _ _ (.ptr r i j L h) rfl rfl rfl
  | rptr q j b o us ho hm h1 hd h0 => exact one _ _ (.rptr q j b o us ho hm h1 hd h0) rfl rfl rfl
  | agg l vs hl h1 hd =>
    refine ⟨hl, fun i hi => ⟨hd i hi, h1 _ ?_⟩⟩
    have hi' : i < vs.size := by simpa [cellsOf, hl] using hi
    show vs.getD i undef ∈ _
    simp [Array.getD, hi']
  | tup => simp [known] at hk

theorem rv_int {k : IntKind} {m : Int} {v : Value} (h : RV w ow loc (.int k m) v) : v = .int k m := by
  cases h with | data _ _ h => cases h; rfl
theorem rv_bool {b : Bool} {v : Value} (h : RV w ow loc (.bool b) v) : v = .bool b := by
  cases h with | data _ _ h => cases h; rfl
theorem rv_str {l : List Int} {v : Value} (h : RV w ow loc (.str l) v) : ∃ s, v = .string s ∧ bytesI s = l := by
  cases h with | data _ _ h => cases h with | str s l e => exact ⟨s, rfl, e⟩
theorem rv_nil {v : Value} (h : RV w ow loc .nil v) : v = .slice none 0 0 := by
  cases h with | data _ _ h => cases h; rfl

theorem Yld.pure {K : PV → Prop} {q : PV} {cv : Value} {s : Sem Value} (hk : K q) (hs : s.run P w = .ok cv w) (hv : RD w ow q cv) (hr : Refs n q) : Yld P w ow loc n s K :=
  ⟨q, hk, cv, hs, .data _ _ hv, hr⟩

theorem rv_tup {l : List PV} {v : Value} (h : RV w ow loc (.tup l) v) : ∃ vs, v = .tuple vs ∧ l.length = vs.size ∧ ∀ i, i < l.length → RV w ow loc (l.getD i .undef) (vs.getD i undef) := by
  cases h with
  | data _ _ h => cases h with | tup l vs hl hd => exact ⟨vs, rfl, hl, fun i hi => .data _ _ (hd i hi)⟩
  | tup l vs hl hd => exact ⟨vs, rfl, hl, hd⟩

theorem rv_agg {l : List PV} {v : Value} (h : RV w ow loc (.agg l) v) : ∃ vs, v = .agg vs ∧ l.length = vs.size ∧ (∀ u ∈ vs.toList, u.oneCell' = true) ∧ ∀ i, i < l.length → RV w ow loc (l.getD i .undef) (vs.getD i undef) := by
  cases h with
  | data _ _ h => cases h with | agg l vs hl h1 hd => exact ⟨vs, rfl, hl, h1, fun i hi => .data _ _ (hd i hi)⟩
  | agg l vs hl h1 hd => exact ⟨vs, rfl, hl, h1, hd⟩

theorem extract_sound {p : PV} {v : Value} {i : Nat} {K : PV → Prop} (hv : RV w ow loc p v) (hr : Refs n p)
    (h : extractW i p K) : Yld P w ow loc n (Instr.extract v i) K := by
  cases p <;> try exact h.elim
  rename_i l
  obtain ⟨hi, hk⟩ := h
  obtain ⟨vs, rfl, hl, hd⟩ := rv_tup hv
  have hi' : i < vs.size := hl ▸ hi
  refine ⟨_, hk, vs.getD i undef, ?_, hd i hi, ?_⟩
  · simp [Instr.extract, hi', Array.getD]
  · cases hr with | tup _ h => exact h i hi

theorem bytesI_inj {a b : ByteArray} (h : bytesI a = bytesI b) : a = b := by
  unfold bytesI at h
  have hi : ∀ x y : UInt8, ((x.toNat : Int) = (y.toNat : Int)) → x = y := fun x y e => UInt8.toNat_inj.1 (by omega)
  have : a.data.toList = b.data.toList := by
    generalize a.data.toList = l at h ⊢
    generalize b.data.toList = m at h ⊢
    induction l generalizing m with
    | nil => cases m <;> simp_all
    | cons x l ih =>
      cases m with
      | nil => simp at h
      | cons y m => simp only [List.map_cons, List.cons.injEq] at h ⊢; exact ⟨hi _ _ h.1, ih m h.2⟩
  cases a; cases b; simp_all

theorem toList_data (s : ByteArray) : s.toList = s.data.toList := by
  first | exact ByteArray.toList_eq s | simp [ByteArray.toList_data]

theorem eq_str (a b : ByteArray) : (a.toList == b.toList) = decide (bytesI a = bytesI b) := by
  rw [Bool.eq_iff_iff]
  simp only [beq_iff_eq, decide_eq_true_eq]
  constructor
  · intro h; rw [toList_data, toList_data] at h; unfold bytesI; rw [h]
  · intro h; rw [bytesI_inj h]

theorem less_str (a b : List UInt8) : Op.bytesLess a b = strLess (a.map fun x => (x.toNat : Int)) (b.map fun x => (x.toNat : Int)) := by
  induction a generalizing b with
  | nil => cases b <;> rfl
  | cons x a ih =>
    cases b with
    | nil => rfl
    | cons y b =>
      simp only [Op.bytesLess, List.map_cons, strLess, ih]
      have h1 : (x < y) ↔ ((x.toNat : Int) < (y.toNat : Int)) := by rw [UInt8.lt_iff_toNat_lt]; omega
      have h2 : (x == y) = decide ((x.toNat : Int) = (y.toNat : Int)) := by
        rw [Bool.eq_iff_iff]; simp only [beq_iff_eq, decide_eq_true_eq]
        exact ⟨fun h => by rw [h], fun h => UInt8.toNat_inj.1 (by omega)⟩
      rw [h2]
      congr 1
      simp [h1]

theorem less_bytes (a b : ByteArray) : Op.bytesLess a.toList b.toList = strLess (bytesI a) (bytesI b) := by
  rw [toList_data, toList_data]; exact less_str _ _

theorem bytesI_append (a b : ByteArray) : bytesI (a ++ b) = bytesI a ++ bytesI b := by
  unfold bytesI
  rw [← List.map_append, ← Array.toList_append, ByteArray.data_append]

theorem bin_sound {op : BinOp} {t : TypeId} {x y : Operand} {p q : PV} {v u : Value} {K : PV → Prop} (hp : RV w ow loc p v) (hq : RV w ow loc q u) (h : binW op p q K) :
    Yld P w ow loc n (do eqGuard op t x y v u; binOp op t v u) K := by
  have key : (∃ k a k' b, p = .int k a ∧ q = .int k' b) ∨ (∃ a b, p = .str a ∧ q = .str b) := by
    cases op <;> simp only [binW] at h <;> split at h <;> first | exact h.elim | exact .inl ⟨_, _, _, _, rfl, rfl⟩ | exact .inr ⟨_, _, rfl, rfl⟩
  rcases key with ⟨k, a, k', b, rfl, rfl⟩ | ⟨a, b, rfl, rfl⟩
  · obtain rfl := rv_int hp
    obtain rfl := rv_int hq
    have hg : (eqGuard op t x y (.int k a) (.int k' b)).run P w = .ok () w := by cases op <;> simp [eqGuard]
    cases op <;> simp only [binW] at h
    case shl =>
      refine .pure h.2 ?_ (.int _ _) (.int _ _)
      simp [hg, binOp, Op.shift, Int.not_lt.2 h.1]
    case shr =>
      refine .pure h.2 ?_ (.int _ _) (.int _ _)
      simp [hg, binOp, Op.shift, Int.not_lt.2 h.1]
    case quo =>
      obtain ⟨rfl, hb, h⟩ := h
      refine .pure h ?_ (.int _ _) (.int _ _)
      simp [hg, binOp, Op.intDiv, hb]
    case rem =>
      obtain ⟨rfl, hb, h⟩ := h
      refine .pure h ?_ (.int _ _) (.int _ _)
      simp [hg, binOp, Op.intDiv, hb]
    case and | or | xor | andNot =>
      obtain ⟨rfl, h⟩ := h
      refine .pure h ?_ (.int _ _) (.int _ _)
      simp [hg, binOp, Op.intBits, ibits]
    case add | sub | mul =>
      obtain ⟨rfl, h⟩ := h
      refine .pure h ?_ (.int _ _) (.int _ _)
      simp [hg, binOp, Op.intArith]
    all_goals
      obtain ⟨rfl, h⟩ := h
      refine .pure h ?_ (.bool _) (.bool _)
      simp [hg, binOp, Op.intCmp, bne]
      try (first | rfl | (rw [Bool.eq_iff_iff]; simp))
  · obtain ⟨s, rfl, rfl⟩ := rv_str hp
    obtain ⟨s', rfl, rfl⟩ := rv_str hq
    have hg : (eqGuard op t x y (.string s) (.string s')).run P w = .ok () w := by cases op <;> simp [eqGuard]
    cases op <;> simp only [binW] at h <;> try exact h.elim
    case add =>
      refine .pure h.2 ?_ (.str _ _ (bytesI_append s s')) (.str _)
      have hs : s.size + s'.size ≤ 9223372036854775807 := by rw [← bytesI_length, ← bytesI_length]; exact h.1
      simp [hg, binOp, run_string_add_sum w s s' hs]
    all_goals
      refine .pure h ?_ (.bool _) (.bool _)
      simp [hg, binOp, Op.stringOp, eq_str, less_bytes]
      try rfl
end
end Go.PV

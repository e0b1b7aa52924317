/- Pure values, part 20: lemmas that drive the walks. -/
import Derived.Test.YtmoigffjpijpaaaV19
set_option linter.unusedVariables false
set_option linter.unusedSimpArgs false
namespace Go.PV
open Go Go.RowKit

theorem get_nil (t : Nat) : Frame.get [] t = .undef := rfl
theorem get_cons (F : Frame) (k t : Nat) (p : PV) : Frame.get ((k, p) :: F) t = match k == t with | true => p | false => Frame.get F t := by
  simp only [Frame.get]; cases k == t <;> rfl

/-- A fork that is not looked into before its condition is known. -/
def ifW (b want : Bool) (yes no : Prop) : Prop := (b = want → yes) ∧ (b ≠ want → no)

@[congr] theorem ifW_congr {b b' want : Bool} {yes no : Prop} (h : b = b') : ifW b want yes no = ifW b' want yes no := by rw [h]
theorem ifW_tt (yes no : Prop) : ifW true true yes no = yes := by simp [ifW]
theorem ifW_ff (yes no : Prop) : ifW false false yes no = yes := by simp [ifW]
theorem ifW_tf (yes no : Prop) : ifW true false yes no = no := by simp [ifW]
theorem ifW_ft (yes no : Prop) : ifW false true yes no = no := by simp [ifW]

theorem ifW_split {b want : Bool} {yes no : Prop} (h1 : b = want → yes) (h2 : b = !want → no) : ifW b want yes no :=
  ⟨h1, fun h => h2 (by cases b <;> cases want <;> simp_all)⟩

theorem wantW_eq (all : List Oper) (F : Frame) (o : Oper) (yes no : Prop) : wantW all F o yes no = match o.guard with
    | none => yes
    | some (j, want) => match guardV all F j with
      | .bool b => ifW b want yes no
      | .tup [] => no
      | _ => False := by
  unfold wantW ifW
  rfl

section
variable {P : Program} {w w' : World} {ow ow' : Nat → Prop} {loc loc' : Locs} {n nt : Nat} {E : Entry} {H : Heap} {F : Frame} {a : Act} {tt : Tab} {rows : Nat → Option Row}

theorem ifW_dec {p : Prop} [inst : Decidable p] {want : Bool} {yes no : Prop} (h1 : p → ifW true want yes no) (h2 : ¬ p → ifW false want yes no) : ifW (decide p) want yes no := by
  by_cases h : p
  · rw [decide_eq_true h]; exact h1 h
  · rw [decide_eq_false h]; exact h2 h
theorem ifW_var {b want : Bool} {yes no : Prop} (h1 : b = true → ifW true want yes no) (h2 : b = false → ifW false want yes no) : ifW b want yes no := by
  cases b
  · exact h2 rfl
  · exact h1 rfl

theorem PW.cond_b {c : Operand} {b : Bool} {x y : Code} {Q : Exit → Frame → Heap → Prop} (h : ev F.get c = .bool b) (h1 : b = true → PW P E nt x Q F H) (h2 : b = false → PW P E nt y Q F H) : PW P E nt (.cond c x y) Q F H :=
  PW.cond (by rw [h]; exact ⟨h1, h2⟩)
theorem PW.cond_t {c : Operand} {x y : Code} {Q : Exit → Frame → Heap → Prop} (h : ev F.get c = .bool true) (h1 : PW P E nt x Q F H) : PW P E nt (.cond c x y) Q F H :=
  PW.cond_b h (fun _ => h1) (fun h => by cases h)
theorem PW.cond_f {c : Operand} {x y : Code} {Q : Exit → Frame → Heap → Prop} (h : ev F.get c = .bool false) (h1 : PW P E nt y Q F H) : PW P E nt (.cond c x y) Q F H :=
  PW.cond_b h (fun h => by cases h) (fun _ => h1)
theorem PW.cond_d {c : Operand} {p : Prop} {inst : Decidable p} {x y : Code} {Q : Exit → Frame → Heap → Prop} (h : ev F.get c = .bool (@decide p inst)) (h1 : p → PW P E nt x Q F H) (h2 : ¬ p → PW P E nt y Q F H) : PW P E nt (.cond c x y) Q F H :=
  PW.cond_b h (fun h => h1 (of_decide_eq_true h)) (fun h => h2 (of_decide_eq_false h))
theorem PW.cond_n {c : Operand} {p : Prop} {inst : Decidable p} {x y : Code} {Q : Exit → Frame → Heap → Prop} (h : ev F.get c = .bool (!@decide p inst)) (h1 : ¬ p → PW P E nt x Q F H) (h2 : p → PW P E nt y Q F H) : PW P E nt (.cond c x y) Q F H :=
  PW.cond_b h (fun h => h1 (by simpa using h)) (fun h => h2 (by simpa using h))

@[congr] theorem PW_congr {c : Code} {Q : Exit → Frame → Heap → Prop} {F F' : Frame} {H H' : Heap} (hF : F = F') (hH : H = H') : PW P E nt c Q F H = PW P E nt c Q F' H' := by rw [hF, hH]

/-- A fork of the code; simp looks into its condition alone. -/
def condE (p : PV) (x y : Prop) : Prop := condW p x y
@[congr] theorem condE_congr {p p' : PV} {x y : Prop} (h : p = p') : condE p x y = condE p' x y := by rw [h]
theorem condE_t (x y : Prop) : condE (.bool true) x y = x := by simp [condE, condW]
theorem condE_f (x y : Prop) : condE (.bool false) x y = y := by simp [condE, condW]
theorem PW.fork {c : Operand} {x y : Code} {Q : Exit → Frame → Heap → Prop} (h : condE (ev F.get c) (PW P E nt x Q F H) (PW P E nt y Q F H)) : PW P E nt (.cond c x y) Q F H := PW.cond h
theorem condE_dec {p : Prop} [inst : Decidable p] {x y : Prop} (h1 : p → x) (h2 : ¬ p → y) : condE (.bool (decide p)) x y :=
  ⟨fun h => h1 (of_decide_eq_true h), fun h => h2 (of_decide_eq_false h)⟩
theorem condE_not {p : Prop} [inst : Decidable p] {x y : Prop} (h1 : ¬ p → x) (h2 : p → y) : condE (.bool (!decide p)) x y :=
  ⟨fun h => h1 (by simpa using h), fun h => h2 (by simpa using h)⟩
theorem condE_var {b : Bool} {x y : Prop} (h1 : b = true → x) (h2 : b = false → y) : condE (.bool b) x y := ⟨h1, h2⟩

/-- One more round. -/
def Again (E : Entry) (nt : Nat) (I : Nat → Frame → Heap → Prop) (n : Nat) (F : Frame) (H : Heap) : Prop := ∃ n' F' H', n' < n ∧ Sub E nt F H F' H' ∧ I n' F' H'
@[congr] theorem Again_congr {I : Nat → Frame → Heap → Prop} {n : Nat} {F F' : Frame} {H H' : Heap} (hF : F = F') (hH : H = H') : Again E nt I n F H = Again E nt I n F' H' := by rw [hF, hH]
theorem Again.mk {I : Nat → Frame → Heap → Prop} {n : Nat} {F : Frame} {H : Heap} (n' : Nat) (F' : Frame) (H' : Heap) (h1 : n' < n) (h2 : Sub E nt F H F' H') (h3 : I n' F' H') : Again E nt I n F H := ⟨n', F', H', h1, h2, h3⟩

theorem PW.loopA {c : Code} {Q : Exit → Frame → Heap → Prop} (I : Nat → Frame → Heap → Prop) (n₀ : Nat) (F₀ : Frame) (H₀ : Heap) (h0 : Sub E nt F H F₀ H₀) (hI : I n₀ F₀ H₀)
    (round : ∀ n F H, I n F H → PW P E nt c (thenQ (Again E nt I n) Q) F H) : PW P E nt (.loop c) Q F H := PW.loop I n₀ h0 hI round

/-- The end of a function. -/
def Fin (tt : Tab) (rs : List ResultVar) (res : PV) (e : Exit) (F : Frame) (H : Heap) : Prop :=
  (match e with | .ret | .normal => True | _ => False) ∧ resVs tt F H rs fun ps => res = oneOf ps

theorem Fin_ret {rs : List ResultVar} {res : PV} : Fin tt rs res .ret F H = resVs tt F H rs fun ps => res = oneOf ps := by simp [Fin]
theorem Fin_normal {rs : List ResultVar} {res : PV} : Fin tt rs res .normal F H = resVs tt F H rs fun ps => res = oneOf ps := by simp [Fin]

theorem meets_by (hT : TabOk P tt) {f : FuncId} {fn : Func} {c : Code} {rs : Array ResultVar} {nt : Nat} (hf : P.funcs[f]? = some fn) (hn : fn.ntmps = nt) (hrs : fn.results = rs) (hname : (fn.name == "runtime.NumGoroutine") = false) (hb : fn.body = some c) {args : List PV} {res : PV} (hlen : Nat.ble args.length nt = true) (hdat : args.all dataB = true)
    (h : ∀ E, PW P E nt c (Fin tt rs.toList res) (argsFrame 0 args) ⟨0, [], []⟩) : Meets P f args res :=
  meets_of hT hf hname hb (by rw [hn]; exact Nat.le_of_ble_eq_true hlen) hdat fun E => by rw [hn, hrs]; exact h E

@[congr] theorem callB_congr {f : FuncId} {args args' : List PV} {F F' : Frame} {H H' : Heap} {K : PV → Frame → Heap → Prop} (h1 : args = args') (h2 : F = F') (h3 : H = H') : callB P f args F H K = callB P f args' F' H' K := by rw [h1, h2, h3]

/-- A call by the callee's contract. -/
theorem call_by {f : FuncId} {args : List PV} {res : PV} {K : PV → Frame → Heap → Prop} (hm : Meets P f args res) (hv : args.map (view H.get) = args) (ho : okViews H.get args) (hfl : (flatB res || args.all dataB) = true) (h : K res F H) : callB P f args F H K :=
  .inl ⟨ho, res, by rw [hv]; exact hm, by rw [hfl]; exact h⟩
/-- .. that is handed rows of the caller's own. -/
theorem call_by' {f : FuncId} {args args' : List PV} {res : PV} {K : PV → Frame → Heap → Prop} (hv : args.map (view H.get) = args') (hm : Meets P f args' res) (ho : okViews H.get args) (hfl : (flatB res || args.all dataB) = true) (h : K res F H) : callB P f args F H K :=
  .inl ⟨ho, res, by rw [hv]; exact hm, by rw [hfl]; exact h⟩
/-- .. by a contract that tells of rows. -/
theorem call_h {f : FuncId} {args : List PV} {R : PV → Heap → Prop} {K : PV → Frame → Heap → Prop} (hm : HMeets P f args ⟨H.nx, H.rows, F :: H.g⟩ R) (h : ∀ res H', R res H' → ∃ F' g', H'.g = F' :: g' ∧ K res F' ⟨H'.nx, H'.rows, g'⟩) : callB P f args F H K :=
  .inr fun E ow loc w vs hs hl ha => by
    have mono : ∀ (R R' : Value → World → Prop), (∀ v w', R v w' → R' v w') → CallsTo P f vs w R → CallsTo P f vs w R' := fun R R' hR hc => by
      rcases hc with ⟨h1, h2⟩ | ⟨v, w', h1, h2⟩
      · exact .inl ⟨h1, h2.mono fun e w' ⟨v, he, hr⟩ => ⟨v, he, hR _ _ hr⟩⟩
      · exact .inr ⟨v, w', h1, hR _ _ h2⟩
    exact mono _ _ (fun v w' ⟨res, H', ow', loc', hR, rest⟩ => ⟨res, H', ow', loc', h res H' hR, rest⟩) (hm E ow loc w vs hs hl ha)

theorem load_int (rows : Nat → Option Row) (sz : Nat) (k : IntKind) (n : Int) (K : PV → Prop) : loadW rows false sz (.rptr (.int k n) 0) K = K (.int k n) := by
  simp [loadW, partW, cellsOf]
end

theorem wrap_i64' (n : Int) : IntKind.wrap .i64 n = if n % 18446744073709551616 ≥ 9223372036854775808 then n % 18446744073709551616 - 18446744073709551616 else n % 18446744073709551616 := by
  simp [IntKind.wrap, IntKind.signed, IntKind.bits]
theorem wrap_i64 {n : Int} (h : -9223372036854775808 ≤ n ∧ n ≤ 9223372036854775807) : IntKind.wrap .i64 n = n := by
  rw [wrap_i64']; split <;> omega
theorem wrap_u64' (n : Int) : IntKind.wrap .u64 n = n % 18446744073709551616 := by
  simp [IntKind.wrap, IntKind.signed, IntKind.bits]
theorem wrap_u64 {n : Int} (h : 0 ≤ n ∧ n ≤ 18446744073709551615) : IntKind.wrap .u64 n = n := by
  rw [wrap_u64']; omega
theorem wrap_u8' (n : Int) : IntKind.wrap .u8 n = n % 256 := by
  simp [IntKind.wrap, IntKind.signed, IntKind.bits]
theorem wrap_u8 {n : Int} (h : 0 ≤ n ∧ n ≤ 255) : IntKind.wrap .u8 n = n := by
  rw [wrap_u8']; omega
end Go.PV

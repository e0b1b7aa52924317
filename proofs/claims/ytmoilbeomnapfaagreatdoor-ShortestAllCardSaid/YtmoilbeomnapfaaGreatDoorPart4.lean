/- Contracts and laws that the row leans on, part 4: texts that were built one by one, laid together. -/
import Derived.Test.YtmoilbeomnapfaaGreatDoorPart3
import Derived.LaidSub
import Derived.Lib.LaidTab
import Derived.Scope
import Derived.Test.YtmoilbeomnapfaaGreatDoorProg
set_option linter.unusedVariables false
set_option linter.defProp false
set_option maxRecDepth 4000
namespace Go.PV
open Go
def wkA := And.intro @opsW.eq_1 <|
  And.intro @opsW.eq_2 <|
  And.intro @opsD.eq_1 <|
  And.intro @opsD.eq_2 <|
  And.intro @stepD.eq_1 <|
  And.intro @wantW_eq <|
  And.intro @opW.eq_1 <|
  And.intro @qw.eq_1 <|
  And.intro @qw.eq_2 <|
  And.intro @qw.eq_3 <|
  And.intro @qw.eq_4 <|
  And.intro @qw.eq_5 <|
  And.intro @qw.eq_6 <|
  And.intro @qw.eq_7 <|
  And.intro @qw.eq_8 <|
  And.intro @qw.eq_9 <|
  And.intro @qw.eq_10 <|
  And.intro @qw.eq_11 <|
  And.intro @qw.eq_12 <|
  And.intro @qw.eq_13 <|
  And.intro @qw.eq_14 <|
  And.intro @qw.eq_15 <|
  And.intro @qw.eq_16 <|
  And.intro @qw.eq_17 <|
  And.intro @ev.eq_1 <|
  And.intro @ev.eq_2 <|
  And.intro @ev.eq_3 <|
  And.intro @toPV.eq_1 <|
  And.intro @toPV.eq_2 <|
  And.intro @toPV0.eq_1 <|
  And.intro @toPV0.eq_2 <|
  And.intro @toPV0.eq_3 <|
  And.intro @toPV0.eq_4 <|
  And.intro @toPV0.eq_5 <|
  And.intro @toPV0.eq_6 <|
  And.intro @toPV0.eq_7 <|
  And.intro @qw.eq_18 <|
  And.intro @ifaceW.eq_1 <|
  And.intro @invW.eq_1 <|
  And.intro @thenQ.eq_1 <|
  And.intro @thenQ.eq_2 <|
  And.intro @blockQ.eq_1 <|
  And.intro @blockQ.eq_2 <|
  And.intro @Frame.put.eq_1 <|
  And.intro @Frame.put.eq_2 <|
  And.intro @get_cons <|
  And.intro @guardV.eq_1 <|
  And.intro @dstAt.eq_1 <|
  And.intro @isEffect.eq_1 <|
  And.intro @isEffect.eq_2 <|
  And.intro @isEffect.eq_3 <|
  And.intro @lenW.eq_1 <|
  And.intro @lenW.eq_2 <|
  And.intro @lenW.eq_3 <|
  And.intro @lenW.eq_4 <|
  And.intro @lenW.eq_5 <|
  And.intro @lenW.eq_6 <|
  And.intro @binT.eq_1 <|
  And.intro @asB.eq_1 <|
  And.intro @asB.eq_2 <|
  And.intro @boolT.eq_1 <|
  And.intro @binW.eq_1 <|
  And.intro @binW.eq_2 <|
  And.intro @binW.eq_3 <|
  And.intro @binW.eq_4 <|
  And.intro @binW.eq_5 <|
  And.intro @binW.eq_6 <|
  And.intro @binW.eq_7 <|
  And.intro @binW.eq_8 <|
  And.intro @binW.eq_9 <|
  And.intro @binW.eq_10 <|
  And.intro @binW.eq_11 <|
  And.intro @binW.eq_12 <|
  And.intro @binW.eq_13 <|
  And.intro @binW.eq_14 <|
  And.intro @binW.eq_15 <|
  And.intro @binW.eq_16 <|
  And.intro @binW.eq_17 <|
  And.intro @binW.eq_18 <|
  And.intro @binW.eq_19 <|
  And.intro @binW.eq_20 <|
  And.intro @binW.eq_21 <|
  And.intro @binW.eq_22 <|
  And.intro @binW.eq_23 <|
  And.intro @binW.eq_24 <|
  And.intro @binW.eq_25 <|
  And.intro @binW.eq_26 <|
  And.intro @binW.eq_27 <|
  And.intro @binW.eq_28 <|
  And.intro @binW.eq_29 <|
  And.intro @binW.eq_30 <|
  And.intro @binW.eq_31 <|
  And.intro @binW.eq_32 <|
  And.intro @binW.eq_33 <|
  And.intro @binW.eq_34 <|
  And.intro @binW.eq_35 <|
  And.intro @binW.eq_36 <|
  And.intro @binW.eq_37 <|
  And.intro @binW.eq_38 <|
  And.intro @binW.eq_39 <|
  And.intro @binW.eq_40 <|
  And.intro @binW.eq_41 <|
  And.intro @unW.eq_1 <|
  And.intro @unW.eq_2 <|
  And.intro @unW.eq_3 <|
  And.intro @unW.eq_4 <|
  And.intro @unW.eq_5 <|
  And.intro @unW.eq_6 <|
  And.intro @unW.eq_7 <|
  And.intro @idxW.eq_1 <|
  And.intro @idxW.eq_2 <|
  And.intro @idxW.eq_3 <|
  And.intro @idxW.eq_4 <|
  And.intro @arrW.eq_1 <|
  And.intro @arrW.eq_2 <|
  And.intro @load_int <|
  And.intro @rowSz.eq_1 <|
  And.intro @rowSz.eq_2 <|
  And.intro @rowSz.eq_3 <|
  And.intro @rowSz.eq_4 <|
  And.intro @rowLen.eq_1 <|
  And.intro @rowLen.eq_2 <|
  And.intro @rowLen.eq_3 <|
  And.intro @rowLen.eq_4 <|
  And.intro @loadW.eq_1 <|
  And.intro @loadW.eq_2 <|
  And.intro @loadW.eq_3 <|
  And.intro @partW.eq_1 <|
  And.intro @partW.eq_2 <|
  And.intro @cellsOf.eq_1 <|
  And.intro @cellsOf.eq_2 <|
  And.intro @isOther.eq_1 <|
  And.intro @isOther.eq_2 <|
  And.intro @isStruct.eq_1 <|
  And.intro @isStruct.eq_2 <|
  And.intro @isStruct.eq_3 <|
  And.intro @resHs.eq_1 <|
  And.intro @resHs.eq_2 <|
  And.intro @resH.eq_1 <|
  And.intro @resH.eq_2 <|
  And.intro @resVs.eq_1 <|
  And.intro @resVs.eq_2 <|
  And.intro @resV.eq_1 <|
  And.intro @resV.eq_2 <|
  And.intro @view.eq_1 <|
  And.intro @view.eq_2 <|
  And.intro @view0.eq_1 <|
  And.intro @view0.eq_2 <|
  And.intro @view0.eq_3 <|
  And.intro @view0.eq_4 <|
  And.intro @view0.eq_5 <|
  And.intro @view0.eq_6 <|
  And.intro @okView.eq_1 <|
  And.intro @okView.eq_2 <|
  And.intro @okView0.eq_1 <|
  And.intro @okView0.eq_2 <|
  And.intro @oneOf.eq_1 <|
  And.intro @oneOf.eq_2 <|
  And.intro @extractW.eq_1 <|
  And.intro @extractW.eq_2 <|
  And.intro @sliceW.eq_1 <|
  And.intro @sliceW.eq_2 <|
  And.intro @sliceW.eq_3 <|
  And.intro @sliceW.eq_4 <|
  And.intro @sliceW.eq_5 <|
  And.intro @sliceW.eq_6 <|
  And.intro @elemSize.eq_1 <|
  And.intro @elemSize.eq_2 <|
  And.intro @cutW.eq_1 <|
  And.intro @cutL.eq_1 <|
  And.intro @cutL.eq_2 <|
  And.intro @cutL.eq_3 <|
  And.intro @cutL.eq_4 <|
  And.intro @cutL.eq_5 <|
  And.intro @optI.eq_1 <|
  And.intro @optI.eq_2 <|
  And.intro @optI.eq_3 <|
  And.intro @litW.eq_1 <|
  And.intro @litD.eq_1 <|
  And.intro @intsOf.eq_1 <|
  And.intro @intsOf.eq_2 <|
  And.intro @intsOf.eq_3 <|
  And.intro @builtinW.eq_1 <|
  And.intro @builtinW.eq_2 <|
  And.intro @builtinW.eq_3 <|
  And.intro @appW.eq_1 <|
  And.intro @notInt.eq_1 <|
  And.intro @notInt.eq_2 <|
  And.intro @notInt.eq_3 <|
  And.intro @baseI.eq_1 <|
  And.intro @baseI.eq_2 <|
  And.intro @baseI.eq_3 <|
  And.intro @srcI.eq_1 <|
  And.intro @srcI.eq_2 <|
  And.intro @srcI.eq_3 <|
  And.intro @srcI.eq_4 <|
  And.intro @srcI.eq_5 <|
  And.intro @putRes.eq_1 <|
  And.intro @putRes.eq_2 <|
  And.intro @Heap.new.eq_1 <|
  And.intro @Heap.newT.eq_1 <|
  And.intro @elemT.eq_1 <|
  And.intro @Heap.move.eq_1 <|
  And.intro @Heap.moveT.eq_1 <|
  And.intro @Heap.set.eq_1 <|
  And.intro @Heap.get.eq_1 <|
  And.intro @killF.eq_1 <|
  And.intro @killF.eq_2 <|
  And.intro @kill.eq_1 <|
  And.intro @kill.eq_2 <|
  And.intro @kill1.eq_1 <|
  And.intro @kill1.eq_2 <|
  And.intro @kill0.eq_1 <|
  And.intro @kill0.eq_2 <|
  And.intro @kill0.eq_3 <|
  And.intro @kill0.eq_4 <|
  And.intro @kill0.eq_5 <|
  And.intro @convW.eq_1 <|
  And.intro @strOf.eq_1 <|
  And.intro @strOf.eq_2 <|
  And.intro @strOf.eq_3 <|
  And.intro @strOf.eq_4 <|
  And.intro @indexW.eq_1 <|
  And.intro @indexW.eq_2 <|
  And.intro @copyW.eq_1 <|
  And.intro @storeW.eq_def <|
  And.intro @nilCheckW.eq_1 <|
  And.intro @nilCheckW.eq_2 <|
  And.intro @nilCheckW.eq_3 <|
  And.intro @fieldAddrW.eq_1 <|
  And.intro @fieldAddrW.eq_2 <|
  And.intro @fieldAddrW.eq_3 <|
  And.intro @setL.eq_1 <|
  And.intro @setL.eq_2 <|
  And.intro @dataB.eq_1 <|
  And.intro @dataB.eq_2 <|
  And.intro @dataB0.eq_1 <|
  And.intro @dataB0.eq_2 <|
  And.intro @dataB0.eq_3 <|
  And.intro @dataB0.eq_4 <|
  And.intro @dataB0.eq_5 <|
  And.intro @dataB0.eq_6 <|
  And.intro @makeW.eq_1 <|
  And.intro @isBytes.eq_1 <|
  And.intro @Go.IntKind.bits.eq_1 <|
  And.intro @Go.IntKind.bits.eq_2 <|
  And.intro @Go.IntKind.bits.eq_3 <|
  And.intro @Go.IntKind.bits.eq_4 <|
  And.intro @Go.IntKind.bits.eq_5 <|
  And.intro @Go.IntKind.bits.eq_6 <|
  And.intro @Go.IntKind.bits.eq_7 <|
  And.intro @Go.IntKind.bits.eq_8 <|
  And.intro @okViews0.eq_1 <|
  @okViews0.eq_2
section
variable {K : Bool → Prop} {ks : List EK} {l l' m m' : List PV}
theorem eqW_n : eqW [] [] [] K = K true := rfl
theorem eqW_b {a b : Bool} : eqW (.b :: ks) (.bool a :: l) (.bool b :: m) K = eqW ks l m fun r => K ((a == b) && r) := rfl
theorem eqW_i {k k' : IntKind} {a b : Int} : eqW (.i :: ks) (.int k a :: l) (.int k' b :: m) K = (k = k' ∧ eqW ks l m fun r => K (decide (a = b) && r)) := rfl
theorem eqW_s {a b : List Int} : eqW (.s :: ks) (.str a :: l) (.str b :: m) K = eqW ks l m fun r => K (decide (a = b) && r) := rfl
@[congr] theorem eqW_congr (h1 : l = l') (h2 : m = m') : eqW ks l m K = eqW ks l' m' K := by rw [h1, h2]
end
def wkE := And.intro @asA.eq_1 <| And.intro @asA.eq_2 <| And.intro @eqsT.eq_1 <| And.intro @someE.eq_2 <| And.intro @eqW_n <| And.intro @eqW_b <| And.intro @eqW_i @eqW_s
def wkB := And.intro @get_nil <|
  And.intro @List.getElem?_cons_succ.{0} <|
  And.intro @List.getElem?_cons_zero.{0} <|
  And.intro @Option.bind_some.{0, 0} <|
  And.intro @List.getD_cons_zero.{0} <|
  And.intro @List.getD_cons_succ.{0} <|
  And.intro @ifW_tt <|
  And.intro @ifW_ff <|
  And.intro @ifW_tf <|
  And.intro @ifW_ft <|
  And.intro @condE_t <|
  And.intro @condE_f <|
  And.intro @true_and <|
  And.intro @and_true <|
  And.intro @cond_true.{1} <|
  And.intro @cond_false.{1} <|
  And.intro @decide_true <|
  And.intro @decide_false <|
  And.intro @Bool.not_true <|
  And.intro @Bool.not_false <|
  And.intro @Fin_ret <|
  And.intro @Fin_normal <|
  And.intro @FinH_ret <|
  And.intro @FinH_normal <|
  And.intro @List.map_cons.{0, 0} <|
  And.intro @List.map_nil.{0, 0} <|
  And.intro @Option.map_some.{0, 0} <|
  And.intro @Option.map_none.{0, 0} <|
  And.intro @inOrder.eq_1 <|
  And.intro @inOrder.eq_2 <|
  And.intro @Bool.true_and <|
  And.intro @Bool.and_true <|
  And.intro @decide_eq_true_eq <|
  And.intro @dropT.eq_1 <|
  And.intro @dropT.eq_2 <|
  And.intro @hasT.eq_1 <|
  And.intro @hasT.eq_2 <|
  And.intro @getT.eq_1 <|
  And.intro @getT.eq_2 <|
  And.intro @setRow.eq_1 <|
  And.intro @setRow.eq_2 <|
  And.intro @killRows.eq_1 <|
  And.intro @killRows.eq_2 <|
  And.intro @killRow.eq_1 <|
  And.intro @killRow.eq_2 <|
  And.intro @getRow.eq_1 <|
  And.intro @getRow.eq_2 <|
  And.intro @Frame.kill.eq_1 <|
  And.intro @Frame.kill.eq_2 <|
  And.intro @List.length_cons.{0} <|
  And.intro @List.length_nil.{0} <|
  And.intro @List.length_append.{0} <|
  And.intro @List.drop_zero.{0} <|
  And.intro @List.take_length.{0} <|
  And.intro @List.cons_append.{0} <|
  And.intro @List.nil_append.{0} <|
  And.intro @List.set_cons_zero.{0} <|
  And.intro @List.set_cons_succ.{0} <|
  And.intro @known.eq_1 <|
  And.intro @known.eq_2 <|
  And.intro @known.eq_3 <|
  And.intro @List.append_assoc.{0} <|
  And.intro @Nat.zero_add <|
  And.intro @List.map_append.{0, 0} <|
  And.intro @beq_self_eq_true.{0} <|
  And.intro @List.take_succ_cons.{0} <|
  And.intro @List.take_zero.{0} <|
  And.intro @Int.toNat_natCast <|
  And.intro @toNat_add <|
  And.intro @fillW.eq_1 <|
  And.intro @fillW.eq_2 <|
  And.intro @List.all_cons.{0} <|
  And.intro @List.all_nil.{0} <|
  And.intro @Go.Value.oneCell'.eq_1 <|
  And.intro @Go.Value.oneCell'.eq_2 <|
  And.intro @Go.Value.oneCell'.eq_3 <|
  And.intro @bytesI_mk <|
  And.intro @Int.cast_ofNat_Int <|
  @ofNat_cast
def wkI := And.intro @ifW_tt <| And.intro @ifW_ff <| And.intro @ifW_tf <| And.intro @ifW_ft <| And.intro @decide_true <| And.intro @decide_false <| And.intro @Bool.not_true @Bool.not_false
def wkW := And.intro @toNat_add <|
  And.intro @Int.toNat_natCast <|
  And.intro @Nat.min_eq_left <|
  And.intro @wrap_i64 <|
  And.intro @wrap_u64 <|
  And.intro @wrap_u8 <|
  And.intro @and7_u8 <|
  And.intro @fdiv_pos <|
  And.intro @tdiv_pos <|
  @tmod_pos
end Go.PV
set_option linter.unusedSimpArgs false
namespace Go.PV
open Go Go.RowKit
theorem bits64 {a : Int} (ha : 0 ≤ a ∧ a < 18446744073709551616) : (a % ((2 ^ 64 : Nat) : Int)).toNat = a.toNat := by rw [Int.emod_eq_of_lt ha.1 (by simp; omega)]
theorem ibits_or_u64 {a b : Int} (ha : 0 ≤ a ∧ a < 18446744073709551616) (hb : 0 ≤ b ∧ b < 18446744073709551616) : ibits .or .u64 a b = ((a.toNat ||| b.toNat : Nat) : Int) := by
  change IntKind.wrap .u64 (((BitVec.ofInt 64 a ||| BitVec.ofInt 64 b).toNat : Nat) : Int) = _
  rw [BitVec.toNat_or, BitVec.toNat_ofInt, BitVec.toNat_ofInt, bits64 ha, bits64 hb]
  refine wrap_u64 ⟨by omega, ?_⟩
  have := Nat.or_lt_two_pow (n := 64) (show a.toNat < 2 ^ 64 by omega) (show b.toNat < 2 ^ 64 by omega)
  omega
theorem or_apart {a b : Int} (p : Nat) (ha : 0 ≤ a ∧ a < 2 ^ p) (hb : 0 ≤ b ∧ b < 18446744073709551616) (hd : b % 2 ^ p = 0) (ha2 : a < 18446744073709551616) : ibits .or .u64 a b = a + b := by
  rw [ibits_or_u64 ⟨ha.1, ha2⟩ hb]
  obtain ⟨x, rfl⟩ := Int.eq_ofNat_of_zero_le ha.1
  obtain ⟨y, rfl⟩ := Int.eq_ofNat_of_zero_le hb.1
  have hp : ((2 : Int) ^ p) = ((2 ^ p : Nat) : Int) := by simp
  rw [hp] at hd ha
  have hdvd : y % 2 ^ p = 0 := by
    have : ((y % 2 ^ p : Nat) : Int) = 0 := by rw [Int.natCast_emod]; exact hd
    omega
  have hx : x < 2 ^ p := by omega
  obtain ⟨q, rfl⟩ : ∃ q, y = 2 ^ p * q := ⟨y / 2 ^ p, by have := Nat.div_add_mod y (2 ^ p); omega⟩
  rw [Int.toNat_natCast, Int.toNat_natCast, Nat.or_comm, ← Nat.two_pow_add_eq_or_of_lt hx]
  omega
theorem and_low {a : Int} (m : Nat) (hm : m ≤ 64) (ha : 0 ≤ a ∧ a < 18446744073709551616) : ibits .and .u64 a ((2 ^ m - 1 : Nat) : Int) = a % 2 ^ m := by
  have h2 : 2 ^ m ≤ 2 ^ 64 := Nat.pow_le_pow_right (by omega) hm
  have h0 : 0 < 2 ^ m := Nat.pow_pos (by omega)
  rw [ibits_and_u64 ⟨ha.1, by omega⟩ ⟨by omega, by omega⟩, Int.toNat_natCast, and_mask]
  obtain ⟨x, rfl⟩ := Int.eq_ofNat_of_zero_le ha.1
  simp
theorem ibits_andNot_u64 {a b : Int} (ha : 0 ≤ a ∧ a < 18446744073709551616) (hb : 0 ≤ b ∧ b < 18446744073709551616) : ibits .andNot .u64 a b = ((a.toNat - (a.toNat &&& b.toNat) : Nat) : Int) := by
  change IntKind.wrap .u64 (((BitVec.ofInt 64 a &&& ~~~(BitVec.ofInt 64 b)).toNat : Nat) : Int) = _
  have e : (BitVec.ofInt 64 a &&& ~~~(BitVec.ofInt 64 b)).toNat = a.toNat - (a.toNat &&& b.toNat) := by
    have h1 : (BitVec.ofInt 64 a &&& ~~~(BitVec.ofInt 64 b)) + (BitVec.ofInt 64 a &&& BitVec.ofInt 64 b) = BitVec.ofInt 64 a := by
      rw [BitVec.add_eq_or_of_and_eq_zero _ _ (by ext i; simp; intro _ h2 _; exact h2)]
      ext i
      simp
      cases (BitVec.ofInt 64 a)[i] <;> simp
    have h2 := congrArg BitVec.toNat h1
    rw [BitVec.toNat_add_of_and_eq_zero (by ext i; simp; intro _ h2 _; exact h2), BitVec.toNat_and (x := BitVec.ofInt 64 a) (y := BitVec.ofInt 64 b), BitVec.toNat_ofInt, BitVec.toNat_ofInt, bits64 ha, bits64 hb] at h2
    omega
  rw [e]
  exact wrap_u64 ⟨by omega, by omega⟩
theorem laidVars_mem {P : Program} {w : World} {x : String × DataW Unit} : ∀ {l : List (String × DataW Unit)} {ps : List MemPlace}, DataW.LaidVars P w l ps → x ∈ l → ∃ g t cs fuel p, P.globalNamed x.1 = some g ∧ (P.globals[g]?).map (·.type) = some t ∧ w.var? P x.1 = some cs ∧ DataW.trod (fun _ => ()) P w 0 (fun _ => true) false fuel t cs.toList = some (x.2, p)
  | [], _, _, h => by cases h
  | (n, d) :: r, ps, ⟨g, t, cs, fuel, p, q, h1, h2, h3, h4, h5, _⟩, h => by
    rcases List.mem_cons.1 h with rfl | h
    · exact ⟨g, t, cs, fuel, p, h1, h2, h3, h4⟩
    · exact laidVars_mem h5 h
theorem tabOf_eq {n : String} {tab : IntKind × List Int} (h : tabOf n = some tab) : (n = "math/bits.deBruijn64tab" ∧ tab = (.u8, Lib.deBruijn64tab.map fun k : Nat => (k : Int))) ∨ (n = "internal/strconv.uint64pow10" ∧ tab = (.u64, (List.range 20).map fun i => ((10 ^ i : Nat) : Int))) := by
  unfold tabOf at h
  split at h
  · rename_i e
    injection h with h
    exact .inl ⟨e, h.symm⟩
  · split at h
    · rename_i e
      injection h with h
      exact .inr ⟨e, h.symm⟩
    · cases h
theorem tab_laid {P : Program} {laid : List (String × DataW Unit)} {w : World} (h : laidMetH P laid w) (name : String) (k : IntKind) (zs : List Int) (g0 : Nat) (t e : TypeId) (n : Nat) (hu : (P.globals.toList.zipIdx.all fun x => x.1.name != name || x.2 == g0) = true) (hg0 : P.globalNamed name = some g0)
    (ht : (P.globals[g0]?).map (·.type) = some t) (hta : P.underlying t = some (.array n e)) (hte : P.underlying e = some (.int k)) (hc : P.cellsOf e = 1) (hct : P.cellsOf t = n)
    (hm : (name, DataW.agg (zs.map fun z => .lit (.int k z))) ∈ laid) {g : Nat} {gl : Global} (hg : P.globals[g]? = some gl) (hn : gl.name = name) : ∃ el fr, w.heap[g]? = some (.cells (zs.map fun z => Value.int k z).toArray el fr) := by
  have hgg : g = g0 := by
    have hmem : (gl, g) ∈ P.globals.toList.zipIdx := by
      rw [List.mem_zipIdx_iff_getElem?]
      simpa using hg
    have := List.all_eq_true.1 hu _ hmem
    simp only [hn, bne_self_eq_false, Bool.false_or, beq_iff_eq] at this
    exact this
  subst hgg
  obtain ⟨⟨ps, hl, _, _⟩, _⟩ := laidMetH_iff.1 h
  obtain ⟨g', t', cs, fuel, p, k1, k2, k3, k4⟩ := laidVars_mem hl (List.mem_filter.2 ⟨hm, rfl⟩)
  simp only at k1 k3 k4
  rw [hg0] at k1
  injection k1 with k1
  subst k1
  rw [ht] at k2
  injection k2 with k2
  subst k2
  have hb := Lib.cells_of_tab hta hte hc hct k4
  unfold World.var? at k3
  rw [hg0] at k3
  simp only [Option.bind_some] at k3
  split at k3
  · rename_i cur ty fr hh
    injection k3 with k3
    subst k3
    refine ⟨ty, fr, ?_⟩
    rw [hh, ← hb]
  · cases k3
end Go.PV
namespace Go
section
variable {P : Program} {a : Act} {w : World} {Q : Exit → Act → World → Prop}
end
namespace PV
open Go.RowKit
section
variable {P : Program} {nt : Nat} {E : Entry P} {H : Heap} {F : Frame}
theorem PW.label {l : Nat} {Q : Exit → Frame → Heap → Prop} (h : Q .normal F H) : PW P E nt (.label l) Q F H := fun a w hst => wp_label ⟨F, H, h, hst⟩
theorem PW.goto {l : Nat} {Q : Exit → Frame → Heap → Prop} (h : Q (.goto l) F H) : PW P E nt (.goto l) Q F H := fun a w hst => wp_goto ⟨F, H, h, hst⟩
def straightQ (Q : Exit → Frame → Heap → Prop) : Exit → Frame → Heap → Prop
  | .goto _, _, _ => False
  | e, F, H => Q e F H
theorem straightQ_n {Q : Exit → Frame → Heap → Prop} : straightQ Q .normal F H = Q .normal F H := rfl
theorem straightQ_e {Q : Exit → Frame → Heap → Prop} {id : Nat} : straightQ Q (.exit id) F H = Q (.exit id) F H := rfl
theorem straightQ_r {Q : Exit → Frame → Heap → Prop} : straightQ Q .ret F H = Q .ret F H := rfl
theorem PW.scope {c : Code} {Q : Exit → Frame → Heap → Prop} (h : PW P E nt c (straightQ Q) F H) : PW P E nt (.scope c) Q F H := fun a w hst => by
  refine wp_scope_straight (wp_mono (h a w hst) fun e a' w' hq => ?_)
  obtain ⟨F', H', h1, h2⟩ := hq
  cases e <;> first | exact h1.elim | exact ⟨F', H', h1, h2⟩
def jumpQ (J : Nat → Frame → Heap → Prop) (Q : Exit → Frame → Heap → Prop) : Exit → Frame → Heap → Prop
  | .goto l, F, H => J l F H
  | e, F, H => Q e F H
theorem jumpQ_n {J : Nat → Frame → Heap → Prop} {Q : Exit → Frame → Heap → Prop} : jumpQ J Q .normal F H = Q .normal F H := rfl
theorem jumpQ_e {J : Nat → Frame → Heap → Prop} {Q : Exit → Frame → Heap → Prop} {id : Nat} : jumpQ J Q (.exit id) F H = Q (.exit id) F H := rfl
theorem jumpQ_r {J : Nat → Frame → Heap → Prop} {Q : Exit → Frame → Heap → Prop} : jumpQ J Q .ret F H = Q .ret F H := rfl
theorem jumpQ_g {J : Nat → Frame → Heap → Prop} {Q : Exit → Frame → Heap → Prop} {l : Nat} : jumpQ J Q (.goto l) F H = J l F H := rfl
end
def wkJ := And.intro @straightQ_n <| And.intro @straightQ_e <| And.intro @straightQ_r <| And.intro @jumpQ_n <| And.intro @jumpQ_e <| And.intro @jumpQ_r @jumpQ_g
def wkD := And.intro @Heap.drop.eq_1 <| And.intro @List.flatMap_cons.{0, 0} <| And.intro @List.flatMap_nil.{0, 0} <| And.intro @ids.eq_1 <| And.intro @ids.eq_2 <| And.intro @ids0.eq_1 <| And.intro @ids0.eq_2 <| And.intro @List.append_nil.{0} <| And.intro @List.nil_append.{0} <| And.intro @List.cons_append.{0} <| And.intro @dropRows.eq_1 <| And.intro @dropRows.eq_2 <| And.intro @List.contains_cons.{0} <| And.intro @List.contains_nil.{0} <| And.intro @Bool.or_false <| And.intro @Bool.or_true <| And.intro @Bool.true_or <| And.intro @Bool.false_or <| And.intro @cond_true.{1} @cond_false.{1}
end PV
end Go
namespace Go.PV
open Go Go.RowKit
def allocOf : Op → Option TypeId
  | .alloc t => some t
  | _ => none
def shapeA (ops : List Oper) : Bool :=
  ops.zipIdx.all fun x => bif x.2 + 1 == ops.length then (storeOf x.1.op).isSome && (x.1.guard.isNone && (x.1.dst.isNone && (List.range x.2).all fun j => waits x.1 j))
    else (storeOf x.1.op).isNone && (x.1.dst.isSome && (!(allocOf x.1.op).isSome || x.1.guard.isNone))
def opsA (P : Program) (tt : Tab) (all : List Oper) (nx : Nat) : List Oper → Frame → Heap → (Frame → Prop) → Prop
  | [], F, H, K => K F
  | o :: rest, F, H, K => match storeOf o.op with
    | some _ => opsA P tt all nx rest F H K
    | none => match allocOf o.op with
      | some _ => opsA P tt all nx rest (F.put o.dst (.ptr nx 0 0)) H K
      | none => wantW all F o (stepD P tt o (ev F.get) H fun q => opsA P tt all nx rest (F.put o.dst q) H K) (opsA P tt all nx rest (F.put o.dst (.tup [])) H K)
section
variable {P : Program} {w w' : World} {ow ow' : Nat → Prop} {loc loc' : Locs} {n nt : Nat} {E : Entry P} {H : Heap} {F : Frame} {a : Act} {tt : Tab} {rows : Nat → Option Row}
theorem opsA_nil {all : List Oper} {nx : Nat} {K : Frame → Prop} : opsA P tt all nx [] F H K = K F := rfl
theorem opsA_cons {all : List Oper} {nx : Nat} {o : Oper} {rest : List Oper} {K : Frame → Prop} : opsA P tt all nx (o :: rest) F H K = match o.op with
    | .store _ _ _ => opsA P tt all nx rest F H K
    | .alloc _ => opsA P tt all nx rest (F.put o.dst (.ptr nx 0 0)) H K
    | _ => wantW all F o (stepD P tt o (ev F.get) H fun q => opsA P tt all nx rest (F.put o.dst q) H K) (opsA P tt all nx rest (F.put o.dst (.tup [])) H K) := by
  obtain ⟨dst, op, type, pos, after, guard⟩ := o
  cases op <;> rfl
theorem traceA {all : List Oper} {nx : Nat} : ∀ (rest : List Oper) (F : Frame) {K : Frame → Prop}, (∀ o ∈ rest, (storeOf o.op).isSome = true → o.dst = none) → opsA P tt all nx rest F H K →
    ∃ qs : Nat → PV, (∀ k o, rest[k]? = some o → (storeOf o.op = none → (allocOf o.op).isSome = true → qs k = .ptr nx 0 0) ∧ (storeOf o.op = none → allocOf o.op = none → yieldsD P tt all o (frameAt F rest qs k) H (qs k))) ∧ K (frameAt F rest qs rest.length)
  | [], F, K, _, h => ⟨fun _ => .undef, fun k o ho => by simp at ho, h⟩
  | o :: rest, F, K, hd, h => by
    have hd' : ∀ o ∈ rest, (storeOf o.op).isSome = true → o.dst = none := fun o ho => hd o (List.mem_cons_of_mem _ ho)
    have fin : ∀ (q : PV), opsA P tt all nx rest (F.put o.dst q) H K → ((storeOf o.op = none → (allocOf o.op).isSome = true → q = .ptr nx 0 0) ∧ (storeOf o.op = none → allocOf o.op = none → yieldsD P tt all o F H q)) →
        ∃ qs : Nat → PV, (∀ k o', (o :: rest)[k]? = some o' → (storeOf o'.op = none → (allocOf o'.op).isSome = true → qs k = .ptr nx 0 0) ∧ (storeOf o'.op = none → allocOf o'.op = none → yieldsD P tt all o' (frameAt F (o :: rest) qs k) H (qs k))) ∧ K (frameAt F (o :: rest) qs (o :: rest).length) := fun q hq hy => by
      obtain ⟨qs, h3, h4⟩ := traceA rest _ hd' hq
      refine ⟨fun | 0 => q | j + 1 => qs j, fun k o' ho => ?_, h4⟩
      cases k with
      | zero =>
        simp only [List.getElem?_cons_zero, Option.some.injEq] at ho
        subst ho
        exact hy
      | succ k =>
        simp only [List.getElem?_cons_succ] at ho
        exact h3 k o' ho
    unfold opsA at h
    cases hso : storeOf o.op with
    | some x =>
      rw [hso] at h
      simp only at h
      have hdn : o.dst = none := hd o (by simp) (by rw [hso]; rfl)
      refine fin .undef (by rw [hdn]; exact h) ⟨fun hn => (by rw [hso] at hn; cases hn), fun hn => (by rw [hso] at hn; cases hn)⟩
    | none =>
      rw [hso] at h
      simp only at h
      cases hal : allocOf o.op with
      | some t =>
        rw [hal] at h
        simp only at h
        exact fin _ h ⟨fun _ _ => rfl, fun _ hn => (by rw [hal] at hn; cases hn)⟩
      | none =>
        rw [hal] at h
        simp only at h
        rcases wantW_or h with ⟨h1, h2⟩ | ⟨h1, h2⟩
        · obtain ⟨q, hq, hs⟩ := stepD_pt o _ H _ h1
          exact fin q hq ⟨fun _ hn => (by rw [hal] at hn; cases hn), fun _ _ => h2 _ _ hs⟩
        · exact fin _ h1 ⟨fun _ hn => (by rw [hal] at hn; cases hn), fun _ _ => h2 _ _ rfl⟩
theorem anyM_sound (hT : TabOk P tt) {ops : Array Oper} (hr : RegOk ops.toList) (hd : ops.toList.all (fun o => dstOk nt o.dst) = true) {Q : Exit → Act → World → Prop} {F0 : Frame} {qs : Nat → PV} (hp : Array Bool → Heap)
    (hstep : ∀ (listed : Array Bool) (F : Frame) (i : Nat) (o : Oper), Inv ops.toList F0 qs listed F → ops.toList[i]? = some o → listed.getD i false = false → i < listed.size → (∀ e ∈ o.after, Region.binds .any e = true → listed.getD e.on false = true) →
      wantW ops.toList F o (opL P tt o F (hp listed) fun F' H' => F' = F.put o.dst (qs i) ∧ H' = hp (listed.setIfInBounds i true)) (PV.tup [] = qs i ∧ hp listed = hp (listed.setIfInBounds i true)))
    (hk : ∀ (listed : Array Bool), (∀ i, i < ops.toList.length → listed.getD i false = true) → ∀ a' w', St E nt (frameAt F0 ops.toList qs ops.toList.length) (hp listed) a' w' → Q .normal a' w') :
    ∀ (fuel : Nat) (listed : Array Bool) (F : Frame) (a : Act) (w : World), Inv ops.toList F0 qs listed F → St E nt F (hp listed) a w →
      ((List.range ops.size).filter fun i => listed.getD i false = false).length ≤ fuel → wpAny P .any ops Q fuel listed a w := by
  have fin : ∀ (listed : Array Bool) (F : Frame) (a : Act) (w : World), Inv ops.toList F0 qs listed F → St E nt F (hp listed) a w → (∀ i, i < ops.toList.length → listed.getD i false = true) → Q .normal a w := by
    intro listed F a w hi hs hall
    exact hk _ hall _ _ (hs.get (hi.fin hr hall))
  have readyNil : ∀ (listed : Array Bool) (F : Frame), Inv ops.toList F0 qs listed F → Region.ready .any ops listed = [] → ∀ i, i < ops.toList.length → listed.getD i false = true := by
    intro listed F hi hnil i
    induction i using Nat.strongRecOn with
    | _ i ih =>
      intro hlt
      cases hl : listed.getD i false with
      | true => rfl
      | false =>
        have hlt' : i < ops.size := by simpa using hlt
        have hmem : i ∈ Region.ready .any ops listed := by
          rw [mem_ready]
          refine ⟨?_, ops[i], Array.getElem?_eq_getElem hlt', fun e he hb => ?_⟩
          · have hsz : i < listed.size := by rw [hi.size]; exact hlt
            simp only [Array.getD_eq_getD_getElem?, Array.getElem?_eq_getElem hsz, Option.getD_some] at hl ⊢
            exact hl
          · have hb' := hr.back i ops[i] (by rw [Array.getElem?_toList]; exact Array.getElem?_eq_getElem hlt') e he hb
            exact ih e.on hb' (by omega)
        rw [hnil] at hmem
        cases hmem
  intro fuel
  induction fuel with
  | zero =>
    intro listed F a w hi hst0 hlen
    have hall : ∀ i, i < ops.toList.length → listed.getD i false = true := by
      intro i hlt
      cases hl : listed.getD i false with
      | true => rfl
      | false =>
        have : i ∈ (List.range ops.size).filter fun i => listed.getD i false = false := List.mem_filter.2 ⟨List.mem_range.2 (by simpa using hlt), by simpa using hl⟩
        rw [List.length_eq_zero_iff.1 (Nat.le_zero.1 hlen)] at this
        cases this
    refine ⟨?_, fin _ _ _ _ hi hst0 hall⟩
    cases hready : Region.ready .any ops listed with
    | nil => rfl
    | cons y ys =>
      have hx : y ∈ Region.ready .any ops listed := by rw [hready]; simp
      obtain ⟨hun, o, ho, _⟩ := mem_ready.1 hx
      have hlt : y < ops.toList.length := by have := (Array.getElem?_eq_some_iff.1 ho).1; simpa using this
      have := hall y hlt
      have hsz : y < listed.size := by rw [hi.size]; exact hlt
      simp only [Array.getD_eq_getD_getElem?, Array.getElem?_eq_getElem hsz, Option.getD_some] at this hun
      rw [this] at hun; cases hun
  | succ fuel ih =>
    intro listed F a w hi hst0 hlen
    refine ⟨fun hnil => fin _ _ _ _ hi hst0 (readyNil listed F hi hnil), fun i hmem => ?_⟩
    obtain ⟨hun0, o, ho, hready⟩ := mem_ready.1 hmem
    have ho' : ops.toList[i]? = some o := by rw [Array.getElem?_toList]; exact ho
    have hlt : i < ops.size := (Array.getElem?_eq_some_iff.1 ho).1
    have hsz : i < listed.size := by rw [hi.size]; simpa using hlt
    have hun : listed.getD i false = false := by
      simp only [Array.getD_eq_getD_getElem?, Array.getElem?_eq_getElem hsz, Option.getD_some] at hun0 ⊢
      exact hun0
    have hi' := hi.step hr ho' hun hready
    have hdk : dstOk nt o.dst = true := List.all_eq_true.1 hd o (by exact List.mem_of_getElem? ho')
    have hlen' : ((List.range ops.size).filter fun k => (listed.setIfInBounds i true).getD k false = false).length ≤ fuel := by
      have hsub : ((List.range ops.size).filter fun k => (listed.setIfInBounds i true).getD k false = false).length < ((List.range ops.size).filter fun k => listed.getD k false = false).length := by
        have h1 : ((List.range ops.size).filter fun k => (listed.setIfInBounds i true).getD k false = false) = ((List.range ops.size).filter fun k => listed.getD k false = false).filter fun k => !(k == i) := by
          rw [List.filter_filter]
          refine List.filter_congr fun k hkm => ?_
          by_cases e : k = i
          · subst e
            simp [hsz]
          · rw [getD_set_ne false (Ne.symm e)]
            simp [e]
        rw [h1]
        refine List.length_filter_lt_length_iff_exists.2 ⟨i, List.mem_filter.2 ⟨List.mem_range.2 hlt, by simpa using hun⟩, by simp⟩
      omega
    have hlooks := fun t ht => hi.reads hr ho' hun hready (t := t) ht
    have hw0 := hstep listed F i o hi ho' hun hsz hready
    obtain ⟨ow, loc, hs, hf, hszt⟩ := hst0
    unfold wpOp
    simp only [ho]
    rcases wanted_of hf.vals hw0 with ⟨hw, hyes⟩ | ⟨hw, hno⟩
    · rw [if_pos hw]
      left
      refine opL_sound hT hdk hs hf hszt hyes fun F' H' a' w' hK hst' => ?_
      obtain ⟨rfl, rfl⟩ := hK
      exact ih _ _ a' w' hi' hst' hlen'
    · rw [if_neg (by rw [hw]; simp)]
      have hst' : St E nt (F.put o.dst (.tup [])) (hp listed) (a.put o.dst undef) w := put_st hs hf hszt hdk undef_ok (.tup [] fun i hi => by simp at hi)
      rw [hno.1, hno.2] at hst'
      exact ih _ _ _ w hi' hst' hlen'
theorem PW.regionA' {id : Nat} {ops : Array Oper} {Q : Exit → Frame → Heap → Prop} {ta : TypeId} {ti : TI} {x : TypeId × Operand × Operand} (hT : TabOk P tt) (hm : P.follows .mixedOrders = true) (hsh : shapeA ops.toList = true) (hr : regOk ops.toList = true) (hd : ops.toList.all (fun o => dstOk nt o.dst) = true)
    (hta : ops.toList.filterMap (fun o => allocOf o.op) = [ta]) (hti : tt ta = some ti) (hkn : known (toPV ti.z) = true) (hx : (ops.toList.getLast?).bind (fun o => storeOf o.op) = some x)
    (h : opsA P tt ops.toList H.nx ops.toList F H fun F' => opsA P tt ops.toList H.nx ops.toList F (H.newT ta (.var (cellsOf (toPV ti.z)))) (fun F'' => Same F' F'' ∧ storeW tt x.1 (ev F'.get x.2.1) (ev F'.get x.2.2) (H.newT ta (.var (cellsOf (toPV ti.z)))) fun H2 => Q .normal F' H2)) :
    PW P E nt (.region id ops true) Q F H := fun a w hst => by
  have hR := regOk_spec hr
  obtain ⟨H1, hH1⟩ : ∃ H1, H.newT ta (.var (cellsOf (toPV ti.z))) = H1 := ⟨_, rfl⟩
  rw [hH1] at h
  -- the shape
  have hall : ∀ (k : Nat) (o : Oper), ops.toList[k]? = some o → (k + 1 = ops.toList.length → (storeOf o.op).isSome = true ∧ o.guard = none ∧ o.dst = none ∧ ∀ j, j < k → waits o j = true) ∧ (k + 1 ≠ ops.toList.length → storeOf o.op = none ∧ o.dst.isSome = true ∧ ((allocOf o.op).isSome = true → o.guard = none)) := fun k o ho => by
    unfold shapeA at hsh
    have hmem : (o, k) ∈ ops.toList.zipIdx := by rw [List.mem_zipIdx_iff_getElem?]; exact ho
    have := List.all_eq_true.1 hsh _ hmem
    simp only at this
    refine ⟨fun e => ?_, fun e => ?_⟩
    · rw [beq_iff_eq.2 e, cond_true] at this
      simp only [Bool.and_eq_true, Option.isNone_iff_eq_none, List.all_eq_true, List.mem_range] at this
      exact ⟨this.1, this.2.1, this.2.2.1, this.2.2.2⟩
    · rw [beq_eq_false_iff_ne.2 e, cond_false] at this
      simp only [Bool.and_eq_true, Option.isNone_iff_eq_none, Bool.or_eq_true, Bool.not_eq_true'] at this
      refine ⟨this.1, this.2.1, fun ha => ?_⟩
      rcases this.2.2 with h1 | h1
      · rw [ha] at h1; cases h1
      · exact h1
  have hdn : ∀ o ∈ ops.toList, (storeOf o.op).isSome = true → o.dst = none := fun o ho hs => by
    obtain ⟨k, hk⟩ := List.getElem?_of_mem ho
    by_cases e : k + 1 = ops.toList.length
    · exact ((hall k o hk).1 e).2.2.1
    · have := ((hall k o hk).2 e).1; rw [this] at hs; cases hs
  obtain ⟨qs, hy, hrest⟩ := traceA _ _ hdn h
  obtain ⟨qs', hy', hsame, hstore⟩ := traceA _ _ hdn hrest
  -- the last
  obtain ⟨ol, hol, hsx⟩ : ∃ ol, ops.toList.getLast? = some ol ∧ storeOf ol.op = some x := by
    cases hl : ops.toList.getLast? with
    | none => rw [hl] at hx; cases hx
    | some ol => rw [hl] at hx; exact ⟨ol, rfl, hx⟩
  obtain ⟨jl, hjl⟩ : ∃ jl, jl + 1 = ops.toList.length := by
    cases hop : ops.toList with
    | nil => rw [hop] at hol; cases hol
    | cons y ys => exact ⟨ys.length, rfl⟩
  have hjo : ops.toList[jl]? = some ol := by rw [List.getLast?_eq_getElem?, ← hjl, Nat.add_sub_cancel] at hol; exact hol
  -- the variable
  obtain ⟨ja, oa, hja, haa⟩ : ∃ (ja : Nat) (oa : Oper), ops.toList[ja]? = some oa ∧ allocOf oa.op = some ta := by
    have hm : ta ∈ ops.toList.filterMap (fun o => allocOf o.op) := by rw [hta]; simp
    obtain ⟨oa, h1, h2⟩ := List.mem_filterMap.1 hm
    obtain ⟨ja, h3⟩ := List.getElem?_of_mem h1
    exact ⟨ja, oa, h3, h2⟩
  have hopa : oa.op = .alloc ta := by
    revert haa
    cases oa.op <;> intro haa <;> simp only [allocOf] at haa <;> cases haa
    rfl
  have honly : ∀ k o, ops.toList[k]? = some o → k ≠ ja → allocOf o.op = none := by
    intro k o ho hne
    cases hk : allocOf o.op with
    | none => rfl
    | some tb =>
      exfalso
      have hklt : k < ops.toList.length := (List.getElem?_eq_some_iff.1 ho).1
      have hjlt : ja < ops.toList.length := (List.getElem?_eq_some_iff.1 hja).1
      have hcount : 2 ≤ (ops.toList.filterMap fun o => allocOf o.op).length := by
        have hsub : [ops.toList[min k ja]'(by omega), ops.toList[max k ja]'(by omega)].Sublist ops.toList := by
          have hlt : min k ja < max k ja := by omega
          have e := List.take_append_drop (max k ja) ops.toList
          have s1 : [ops.toList[min k ja]'(by omega)].Sublist (ops.toList.take (max k ja)) := by
            rw [List.singleton_sublist]
            refine List.mem_of_getElem? (i := min k ja) ?_
            rw [List.getElem?_take_of_lt hlt, List.getElem?_eq_getElem]
          have s2 : [ops.toList[max k ja]'(by omega)].Sublist (ops.toList.drop (max k ja)) := by
            rw [List.singleton_sublist]
            refine List.mem_of_getElem? (i := 0) ?_
            rw [List.getElem?_drop, Nat.add_zero, List.getElem?_eq_getElem]
          have := s1.append s2
          rw [e] at this
          exact this
        have hf := hsub.filterMap fun o => allocOf o.op
        have ek : ops.toList[k]'hklt = o := by
          have := List.getElem?_eq_getElem hklt; rw [ho] at this; exact (Option.some.inj this).symm
        have ea : ops.toList[ja]'hjlt = oa := by
          have := List.getElem?_eq_getElem hjlt; rw [hja] at this; exact (Option.some.inj this).symm
        have b1 : ∃ t, allocOf (ops.toList[min k ja]'(by omega)).op = some t := by
          rcases Nat.le_total k ja with h | h
          · exact ⟨tb, by simp only [Nat.min_eq_left h, ek, hk]⟩
          · exact ⟨ta, by simp only [Nat.min_eq_right h, ea, haa]⟩
        have b2 : ∃ t, allocOf (ops.toList[max k ja]'(by omega)).op = some t := by
          rcases Nat.le_total k ja with h | h
          · exact ⟨ta, by simp only [Nat.max_eq_right h, ea, haa]⟩
          · exact ⟨tb, by simp only [Nat.max_eq_left h, ek, hk]⟩
        obtain ⟨t1, b1⟩ := b1
        obtain ⟨t2, b2⟩ := b2
        simp only [List.filterMap_cons, b1, b2, List.filterMap_nil] at hf
        exact hf.length_le
      rw [hta] at hcount
      simp at hcount
  have hlastS := (hall jl ol hjo).1 hjl
  have hne : ja ≠ jl := fun e => by
    subst e
    rw [hja] at hjo
    cases hjo
    rw [hopa] at hsx
    cases hsx
  have hjalt : ja < jl := by have := (List.getElem?_eq_some_iff.1 hja).1; omega
  have hns : ∀ k o, ops.toList[k]? = some o → k ≠ jl → storeOf o.op = none := fun k o ho hk => ((hall k o ho).2 (by omega)).1
  have hga : oa.guard = none := ((hall ja oa hja).2 (by omega)).2.2 (by rw [haa]; rfl)
  -- both ways hand on the same
  have hqq : ∀ k, k < ops.toList.length → k ≠ jl → qs k = qs' k := by
    intro k hk hkl
    have hko : ops.toList[k]? = some (ops.toList[k]'hk) := List.getElem?_eq_getElem _
    obtain ⟨t, ht⟩ := Option.isSome_iff_exists.1 ((hall k _ hko).2 (by omega)).2.1
    have hdst : dstAt ops.toList k = some t := by unfold dstAt; rw [hko]; exact ht
    have huniq : ∀ i, i ≠ k → dstAt ops.toList i ≠ some t := fun i hi hit => by
      obtain ⟨oi, hoi, hdi⟩ := dstAt_some hit
      exact hR.one i oi k _ t hoi hko hi ht hdi
    have g1 := frameAt_some ops.toList F qs ops.toList.length t k hk hdst huniq
    have g2 := frameAt_some ops.toList F qs' ops.toList.length t k hk hdst huniq
    have hsame' : frameAt F ops.toList qs ops.toList.length = frameAt F ops.toList qs' ops.toList.length := hsame
    rw [← g1, ← g2, hsame']
  obtain ⟨H2, hQ, hst2⟩ := storeW_pt hstore
  refine wp_region_any hm ?_
  let hp : Array Bool → Heap := fun l => bif l.getD jl false then H2 else bif l.getD ja false then H1 else H
  refine anyM_sound (F0 := F) (qs := qs) hT hR hd hp ?_ (fun listed hfull a' w' hst' => ⟨_, _, ?_, hst'⟩) ops.size (Array.replicate ops.size false) F a _ ⟨by simp, ?_, fun t _ => rfl, ?_⟩ ?_ (Nat.le_trans (List.length_filter_le _ _) (by simp))
  · intro listed F1 i o hi ho hun hsz hready
    have hlooks := fun t ht => hi.reads hR ho hun hready (t := t) ht
    have hev := ev_congr (o := o) hlooks
    have hjun : listed.getD jl false = true → ∀ j, j < jl → listed.getD j false = true := fun hl j hj => by
      obtain ⟨e, he, hb, hon⟩ := waits_spec (hlastS.2.2.2 j hj)
      have := hi.down jl ol hjo hl e he hb
      rw [hon] at this
      exact this
    have hilt : i < ops.toList.length := (List.getElem?_eq_some_iff.1 ho).1
    by_cases hil : i = jl
    · -- the store
      subst hil
      rw [hjo] at ho
      cases ho
      have hjad : listed.getD ja false = true := by
        obtain ⟨e, he, hb, hon⟩ := waits_spec (hlastS.2.2.2 ja hjalt)
        have := hready e he hb
        rw [hon] at this
        exact this
      have e0 : hp listed = H1 := by simp only [hp]; rw [hun, hjad]; rfl
      have e1 : hp (listed.setIfInBounds i true) = H2 := by
        simp only [hp]
        have : (listed.setIfInBounds i true).getD i false = true := by simp [hsz]
        rw [this]; rfl
      rw [e0, e1]
      have hop := storeOf_some hsx
      -- what it reads is what the end of the text's order has
      have hfull : ∀ t ∈ looks ops.toList ol, F1.get t = (frameAt F ops.toList qs ops.toList.length).get t := fun t ht => by
        rw [hlooks t ht]
        by_cases hw : ∃ j, dstAt ops.toList j = some t
        · obtain ⟨j, hj⟩ := hw
          obtain ⟨oj, hoj, hdj⟩ := dstAt_some hj
          have hjlt : j < ops.toList.length := (List.getElem?_eq_some_iff.1 hoj).1
          have hji : j ≠ i := fun e => by
            subst e
            rw [hjo] at hoj
            cases hoj
            rw [hlastS.2.2.1] at hdj
            cases hdj
          have huniq : ∀ k, k ≠ j → dstAt ops.toList k ≠ some t := fun k hk hkt => by
            obtain ⟨ok, hok, hdk⟩ := dstAt_some hkt
            exact hR.one k ok j oj t hok hoj hk hdj hdk
          rw [frameAt_some ops.toList F qs i t j (by omega) hj huniq, frameAt_some ops.toList F qs ops.toList.length t j hjlt hj huniq]
        · have hno : ∀ j, dstAt ops.toList j ≠ some t := fun j hj => hw ⟨j, hj⟩
          rw [frameAt_none ops.toList F qs i t fun j _ => hno j, frameAt_none ops.toList F qs ops.toList.length t fun j _ => hno j]
      have hev2 := ev_congr (o := ol) hfull
      have m1 : x.2.1 ∈ ol.op.operands := by rw [hop]; simp [Op.operands]
      have m2 : x.2.2 ∈ ol.op.operands := by rw [hop]; simp [Op.operands]
      unfold wantW
      rw [hlastS.2.1]
      simp only
      unfold opL
      left
      unfold opW
      rw [hop]
      simp only
      rw [hev2 _ m1, hev2 _ m2, hlastS.2.2.1]
      have mono : ∀ {K K' : Heap → Prop}, (∀ X, K X → K' X) → ∀ {p q : PV}, storeW tt x.1 p q H1 K → storeW tt x.1 p q H1 K' := by
        intro K K' hKK p q h
        obtain ⟨X, hX, hp⟩ := storeW_pt h
        unfold storeW at hp ⊢
        split at hp
        · obtain ⟨a1, a2, a3⟩ := hp
          refine ⟨a1, a2, ?_⟩
          split at a3
          · split at a3
            · exact ⟨a3.1, a3.2.1, a3.2.2.1, by rw [a3.2.2.2]; exact hKK _ hX⟩
            · exact a3.elim
          · obtain ⟨b1, b2, b3⟩ := a3
            refine ⟨b1, b2, ?_⟩
            split at b3
            · rw [b3]; exact hKK _ hX
            · exact ⟨b3.1, by rw [b3.2]; exact hKK _ hX⟩
          · exact ⟨a3.1, a3.2.1, by rw [a3.2.2]; exact hKK _ hX⟩
          · exact a3.elim
        · exact hp.elim
      exact mono (fun X hX => ⟨rfl, hX⟩) hst2
    · have hjlun : listed.getD jl false = false := by
        cases hl : listed.getD jl false with
        | false => rfl
        | true => have := hjun hl i (by omega); rw [hun] at this; cases this
      have ej : (listed.setIfInBounds i true).getD jl false = false := by rw [getD_set_ne false hil]; exact hjlun
      by_cases hia : i = ja
      · subst hia
        rw [hja] at ho
        cases ho
        have e0 : hp listed = H := by simp only [hp]; rw [hjlun, hun]; rfl
        have e1 : hp (listed.setIfInBounds i true) = H1 := by
          simp only [hp]
          have : (listed.setIfInBounds i true).getD i false = true := by simp [hsz]
          rw [ej, this]; rfl
        rw [e0, e1]
        unfold wantW
        rw [hga]
        simp only
        unfold opL
        left
        unfold opW
        rw [hopa]
        simp only
        rw [hti]
        simp only
        refine ⟨hkn, ?_, hH1⟩
        rw [(hy i oa hja).1 (hns i oa hja hil) (by rw [haa]; rfl)]
      · have e1 : hp (listed.setIfInBounds i true) = hp listed := by
          simp only [hp]
          rw [ej, hjlun, getD_set_ne false hia]
        rw [e1]
        have hyi : yieldsD P tt ops.toList o F1 (hp listed) (qs i) := by
          refine yields_congr hlooks ?_
          have y0 := (hy i o ho).2 (hns i o ho hil) (honly i o ho hia)
          have y1 := (hy' i o ho).2 (hns i o ho hil) (honly i o ho hia)
          rw [← hqq i hilt hil, ← frameAt_congr ops.toList F qs qs' i (by omega) fun j hj => hqq j (by omega) (by omega)] at y1
          simp only [hp]
          rw [hjlun]
          cases listed.getD ja false with
          | true => exact y1
          | false => exact y0
        unfold yieldsD at hyi
        exact wantW_imp (fun hyes => opL_of_stepD (by exact hyes _ ⟨rfl, rfl⟩)) (fun hno => ⟨hno, rfl⟩) hyi
  · intro j t _ hl
    rcases Nat.lt_or_ge j ops.size with hj | hj
    · simp [hj] at hl
    · simp [hj] at hl
  · intro j oj _ hl
    rcases Nat.lt_or_ge j ops.size with hj | hj
    · simp [hj] at hl
    · simp [hj] at hl
  · have hjl' : jl < ops.size := by simp at hjl; omega
    have hja' : ja < ops.size := by omega
    have e : hp (Array.replicate ops.size false) = H := by
      simp only [hp]
      simp [hjl', hja']
    rw [e]
    exact hst.drawn
  · have hl := hfull jl (by omega)
    simp only [hp] at hst' ⊢
    rw [hl]
    exact hQ
theorem PW.regionA {id : Nat} {ops : Array Oper} {Q : Exit → Frame → Heap → Prop} {ta t : TypeId} {ti : TI} {p v : Operand} (hT : TabOk P tt) (hm : P.follows .mixedOrders = true) (hsh : shapeA ops.toList = true) (hr : regOk ops.toList = true) (hd : ops.toList.all (fun o => dstOk nt o.dst) = true)
    (hta : ops.toList.filterMap (fun o => allocOf o.op) = [ta]) (hti : tt ta = some ti) (hkn : known (toPV ti.z) = true) (hx : (ops.toList.getLast?).bind (fun o => storeOf o.op) = some (t, p, v))
    (h : opsA P tt ops.toList H.nx ops.toList F H fun F' => opsA P tt ops.toList H.nx ops.toList F (H.newT ta (.var (cellsOf (toPV ti.z)))) (fun F'' => Same F' F'' ∧ storeW tt t (ev F'.get p) (ev F'.get v) (H.newT ta (.var (cellsOf (toPV ti.z)))) fun H2 => Q .normal F' H2)) :
    PW P E nt (.region id ops true) Q F H := PW.regionA' hT hm hsh hr hd hta hti hkn hx h
end
end Go.PV
set_option maxHeartbeats 4000000
set_option exponentiation.threshold 300000
namespace Go.PV
theorem cj {a b : Prop} (x : a) (y : b) : a ∧ b := ⟨x, y⟩
theorem andI {a b : Prop} (h : b) (ha : a := by first | omega | decide | (simp (disch := omega) only [wkW, Int.reduceToNat, Int.reducePow] <;> omega) | (simp <;> omega)) : a ∧ b := ⟨ha, h⟩
structure Kept (q : Prop) : Prop where
  out : q
theorem walk {p : Prop} (h : p := by
    repeat' first
      | (with_reducible first | refine PW.seq ?_ | refine PW.block ?_ | refine PW.fork ?_ | refine PW.skip ?_ | refine PW.exit ?_ | refine PW.ret ?_ | refine PW.scope ?_ | refine PW.label ?_ | refine PW.goto ?_)
      | (simp only [W])
      | ((with_reducible refine PW.region ttOk ?_ ?_); rfl)
      | ((with_reducible refine PW.regionD ttOk mixed ?_ ?_ ?_); rfl; rfl)
      | (with_reducible refine ifW_dec (fun g => ?_) (fun g => ?_) <;> first | (exfalso; omega) | (simp -dsimp only [g, wkI]))
      | ((with_reducible first | refine condE_dec (fun g => ?_) (fun g => ?_) | refine condE_not (fun g => ?_) (fun g => ?_)) <;> try (exfalso; omega))
      | (simp -dsimp -dsimp only [↓wkA, ↓wkE, ↓wkJ, wkB, ↓tt, Nat.reduceBEq, Nat.reduceEqDiff, ↓reduceIte, Nat.reduceLT, Array.toList, Nat.reduceAdd, Nat.reduceMul, Int.reduceToNat, Int.reducePow, UInt8.reduceToNat])
      | (refine call_by (by assumption) (views_data rfl) (by simp only [okViews, okView, okViews0, okView0, and_self]) (by rfl) ?_)
      | (refine callD_by (by assumption) (views_data rfl) (by simp only [okViews, okView, okViews0, okView0, and_self]) (by rfl) ?_)
      | (simp -dsimp (disch := first | assumption | omega) only [dec_t, dec_f])
      | (refine andI ?_)
      | (simp (disch := omega) only [wkW, Int.reduceToNat, Int.reducePow])
      | (simp only [eq_self, decide_true, beq_self_eq_true, Bool.not_true, Bool.not_false])) : p := h
theorem walk1 {p q : Prop} (k : q) (h : Kept q → p := by
    intro kk
    repeat' first
      | (with_reducible first | refine PW.seq ?_ | refine PW.block ?_ | refine PW.fork ?_ | refine PW.skip ?_ | refine PW.exit ?_ | refine PW.ret ?_ | refine PW.scope ?_ | refine PW.label ?_ | refine PW.goto ?_)
      | (simp only [W])
      | ((with_reducible refine PW.region ttOk ?_ ?_); rfl)
      | ((with_reducible refine PW.regionD ttOk mixed ?_ ?_ ?_); rfl; rfl)
      | (with_reducible refine ifW_dec (fun g => ?_) (fun g => ?_) <;> first | (exfalso; omega) | (simp -dsimp only [g, wkI]))
      | ((with_reducible first | refine condE_dec (fun g => ?_) (fun g => ?_) | refine condE_not (fun g => ?_) (fun g => ?_)) <;> try (exfalso; omega))
      | (simp -dsimp -dsimp only [↓wkA, ↓wkE, ↓wkJ, wkB, ↓tt, Nat.reduceBEq, Nat.reduceEqDiff, ↓reduceIte, Nat.reduceLT, Array.toList, Nat.reduceAdd, Nat.reduceMul, Int.reduceToNat, Int.reducePow, UInt8.reduceToNat])
      | (refine call_by (by assumption) (views_data rfl) (by simp only [okViews, okView, okViews0, okView0, and_self]) (by rfl) ?_)
      | (refine callD_by (by assumption) (views_data rfl) (by simp only [okViews, okView, okViews0, okView0, and_self]) (by rfl) ?_)
      | (simp -dsimp (disch := first | assumption | omega) only [dec_t, dec_f])
      | (refine andI ?_)
      | (simp (disch := omega) only [wkW, Int.reduceToNat, Int.reducePow])
      | (simp only [eq_self, decide_true, beq_self_eq_true, Bool.not_true, Bool.not_false])
    exact kk.out) : p := h ⟨k⟩
end Go.PV
namespace Go.Proofs.YtmoilbeomnapfaaGreatDoor
open Go Go.PV
def tt : Tab
  | 2 => some ⟨.int .i64, 1, 8, (.int .i64 0), []⟩
  | 3 => some ⟨.int .i64, 1, 8, (.int .i64 0), []⟩
  | 4 => some ⟨.bool, 1, 1, (.bool false), []⟩
  | 5 => some ⟨.int .u8, 1, 1, (.int .u8 0), []⟩
  | 9 => some ⟨.str, 1, 16, (.string ⟨#[]⟩), []⟩
  | 12 => some ⟨.int .u64, 1, 8, (.int .u64 0), []⟩
  | 13 => some ⟨.struct [(0, 1, false), (1, 1, false)], 2, 24, (.agg #[(.string ⟨#[]⟩), (.int .u64 0)]), []⟩
  | 20 => some ⟨.iface, 1, 16, .nilIface, []⟩
  | 21 => some ⟨.int .i32, 1, 4, (.int .i32 0), []⟩
  | 22 => some ⟨.slice 33, 1, 24, (.slice none 0 0), []⟩
  | 25 => some ⟨.int .u64, 1, 8, (.int .u64 0), []⟩
  | 30 => some ⟨.struct [(0, 1, false), (1, 1, false), (2, 1, false)], 3, 32, (.agg #[(.bool false), (.string ⟨#[]⟩), (.int .i64 0)]), [.b, .s, .i]⟩
  | 31 => some ⟨.struct [(0, 1, false), (1, 1, false), (2, 1, false)], 3, 32, (.agg #[(.bool false), (.string ⟨#[]⟩), (.int .i64 0)]), [.b, .s, .i]⟩
  | 32 => some ⟨.struct [(0, 1, false), (1, 1, false), (2, 1, false), (3, 3, true)], 6, 56, (.agg #[(.int .i64 0), (.int .u64 0), (.int .i64 0), (.bool false), (.string ⟨#[]⟩), (.int .i64 0)]), []⟩
  | 33 => some ⟨.struct [(0, 1, false), (1, 1, false), (2, 1, false), (3, 3, true)], 6, 56, (.agg #[(.int .i64 0), (.int .u64 0), (.int .i64 0), (.bool false), (.string ⟨#[]⟩), (.int .i64 0)]), []⟩
  | 36 => some ⟨.int .i64, 1, 8, (.int .i64 0), []⟩
  | 54 => some ⟨.struct [(0, 1, false), (1, 1, false), (2, 1, false), (3, 1, false), (4, 1, false)], 5, 40, (.agg #[(.int .u64 0), (.int .u64 0), (.int .u64 0), (.int .i64 0), (.bool false)]), [.i, .i, .i, .i, .b]⟩
  | 55 => some ⟨.struct [(0, 1, false), (1, 1, false), (2, 1, false), (3, 1, false), (4, 1, false)], 5, 40, (.agg #[(.int .u64 0), (.int .u64 0), (.int .u64 0), (.int .i64 0), (.bool false)]), [.i, .i, .i, .i, .b]⟩
  | 58 => some ⟨.slice 25, 1, 24, (.slice none 0 0), []⟩
  | 65 => some ⟨.int .u64, 1, 8, (.int .u64 0), []⟩
  | 69 => some ⟨.ptr 72, 1, 8, (.pointer none), []⟩
  | 70 => some ⟨.slice 5, 1, 24, (.slice none 0 0), []⟩
  | 71 => some ⟨.struct [(0, 1, false), (1, 1, false)], 2, 32, (.agg #[(.pointer none), (.slice none 0 0)]), []⟩
  | 72 => some ⟨.struct [(0, 1, false), (1, 1, false)], 2, 32, (.agg #[(.pointer none), (.slice none 0 0)]), []⟩
  | 74 => some ⟨.iface, 1, 16, .nilIface, []⟩
  | 75 => some ⟨.iface, 1, 16, .nilIface, []⟩
  | 80 => some ⟨.struct [(0, 1, false), (1, 1, false), (2, 1, false), (3, 1, false)], 4, 32, (.agg #[(.bool false), (.int .i64 0), (.int .u64 0), (.int .i64 0)]), [.b, .i, .i, .i]⟩
  | 81 => some ⟨.struct [(0, 1, false), (1, 1, false), (2, 1, false), (3, 1, false)], 4, 32, (.agg #[(.bool false), (.int .i64 0), (.int .u64 0), (.int .i64 0)]), [.b, .i, .i, .i]⟩
  | 84 => some ⟨.struct [(0, 1, false), (1, 1, false), (2, 1, false), (3, 1, false), (4, 1, false)], 5, 104, (.agg #[(.slice none 0 0), (.slice none 0 0), (.slice none 0 0), (.slice none 0 0), (.bool false)]), []⟩
  | 85 => some ⟨.struct [(0, 1, false), (1, 1, false), (2, 1, false), (3, 1, false), (4, 1, false)], 5, 104, (.agg #[(.slice none 0 0), (.slice none 0 0), (.slice none 0 0), (.slice none 0 0), (.bool false)]), []⟩
  | 109 => some ⟨.int .u32, 1, 4, (.int .u32 0), []⟩
  | 114 => some ⟨.ptr 5, 1, 8, (.pointer none), []⟩
  | 129 => some ⟨.slice 58, 1, 24, (.slice none 0 0), []⟩
  | 137 => some ⟨.arr 24 5 [(0, 1, false), (1, 1, false), (2, 1, false), (3, 1, false), (4, 1, false), (5, 1, false), (6, 1, false), (7, 1, false), (8, 1, false), (9, 1, false), (10, 1, false), (11, 1, false), (12, 1, false), (13, 1, false), (14, 1, false), (15, 1, false), (16, 1, false), (17, 1, false), (18, 1, false), (19, 1, false), (20, 1, false), (21, 1, false), (22, 1, false), (23, 1, false)], 24, 24, (.agg #[(.int .u8 0), (.int .u8 0), (.int .u8 0), (.int .u8 0), (.int .u8 0), (.int .u8 0), (.int .u8 0), (.int .u8 0), (.int .u8 0), (.int .u8 0), (.int .u8 0), (.int .u8 0), (.int .u8 0), (.int .u8 0), (.int .u8 0), (.int .u8 0), (.int .u8 0), (.int .u8 0), (.int .u8 0), (.int .u8 0), (.int .u8 0), (.int .u8 0), (.int .u8 0), (.int .u8 0)]), [.i, .i, .i, .i, .i, .i, .i, .i, .i, .i, .i, .i, .i, .i, .i, .i, .i, .i, .i, .i, .i, .i, .i, .i]⟩
  | 156 => some ⟨.ptr 152, 1, 8, (.pointer none), []⟩
  | 164 => some ⟨.arr 20 25 [(0, 1, false), (1, 1, false), (2, 1, false), (3, 1, false), (4, 1, false), (5, 1, false), (6, 1, false), (7, 1, false), (8, 1, false), (9, 1, false), (10, 1, false), (11, 1, false), (12, 1, false), (13, 1, false), (14, 1, false), (15, 1, false), (16, 1, false), (17, 1, false), (18, 1, false), (19, 1, false)], 20, 160, (.agg #[(.int .u64 0), (.int .u64 0), (.int .u64 0), (.int .u64 0), (.int .u64 0), (.int .u64 0), (.int .u64 0), (.int .u64 0), (.int .u64 0), (.int .u64 0), (.int .u64 0), (.int .u64 0), (.int .u64 0), (.int .u64 0), (.int .u64 0), (.int .u64 0), (.int .u64 0), (.int .u64 0), (.int .u64 0), (.int .u64 0)]), [.i, .i, .i, .i, .i, .i, .i, .i, .i, .i, .i, .i, .i, .i, .i, .i, .i, .i, .i, .i]⟩
  | 173 => some ⟨.arr 32 5 [(0, 1, false), (1, 1, false), (2, 1, false), (3, 1, false), (4, 1, false), (5, 1, false), (6, 1, false), (7, 1, false), (8, 1, false), (9, 1, false), (10, 1, false), (11, 1, false), (12, 1, false), (13, 1, false), (14, 1, false), (15, 1, false), (16, 1, false), (17, 1, false), (18, 1, false), (19, 1, false), (20, 1, false), (21, 1, false), (22, 1, false), (23, 1, false), (24, 1, false), (25, 1, false), (26, 1, false), (27, 1, false), (28, 1, false), (29, 1, false), (30, 1, false), (31, 1, false)], 32, 32, (.agg #[(.int .u8 0), (.int .u8 0), (.int .u8 0), (.int .u8 0), (.int .u8 0), (.int .u8 0), (.int .u8 0), (.int .u8 0), (.int .u8 0), (.int .u8 0), (.int .u8 0), (.int .u8 0), (.int .u8 0), (.int .u8 0), (.int .u8 0), (.int .u8 0), (.int .u8 0), (.int .u8 0), (.int .u8 0), (.int .u8 0), (.int .u8 0), (.int .u8 0), (.int .u8 0), (.int .u8 0), (.int .u8 0), (.int .u8 0), (.int .u8 0), (.int .u8 0), (.int .u8 0), (.int .u8 0), (.int .u8 0), (.int .u8 0)]), [.i, .i, .i, .i, .i, .i, .i, .i, .i, .i, .i, .i, .i, .i, .i, .i, .i, .i, .i, .i, .i, .i, .i, .i, .i, .i, .i, .i, .i, .i, .i, .i]⟩
  | 176 => some ⟨.struct [(0, 1, false), (1, 1, false)], 2, 2, (.agg #[(.int .u8 0), (.int .u8 0)]), [.i, .i]⟩
  | 177 => some ⟨.struct [(0, 1, false), (1, 1, false)], 2, 2, (.agg #[(.int .u8 0), (.int .u8 0)]), [.i, .i]⟩
  | 178 => some ⟨.arr 16 177 [(0, 2, true), (2, 2, true), (4, 2, true), (6, 2, true), (8, 2, true), (10, 2, true), (12, 2, true), (14, 2, true), (16, 2, true), (18, 2, true), (20, 2, true), (22, 2, true), (24, 2, true), (26, 2, true), (28, 2, true), (30, 2, true)], 32, 32, (.agg #[(.int .u8 0), (.int .u8 0), (.int .u8 0), (.int .u8 0), (.int .u8 0), (.int .u8 0), (.int .u8 0), (.int .u8 0), (.int .u8 0), (.int .u8 0), (.int .u8 0), (.int .u8 0), (.int .u8 0), (.int .u8 0), (.int .u8 0), (.int .u8 0), (.int .u8 0), (.int .u8 0), (.int .u8 0), (.int .u8 0), (.int .u8 0), (.int .u8 0), (.int .u8 0), (.int .u8 0), (.int .u8 0), (.int .u8 0), (.int .u8 0), (.int .u8 0), (.int .u8 0), (.int .u8 0), (.int .u8 0), (.int .u8 0)]), []⟩
  | 194 => some ⟨.struct [(0, 1, false)], 1, 16, (.agg #[(.string ⟨#[]⟩)]), [.s]⟩
  | _ => none
theorem ok2 : TIOk Tryz.prog 2 ⟨.int .i64, 1, 8, (.int .i64 0), []⟩ := ⟨by kernel_rfl, by kernel_rfl, by kernel_rfl, by kernel_rfl⟩
theorem ok3 : TIOk Tryz.prog 3 ⟨.int .i64, 1, 8, (.int .i64 0), []⟩ := ⟨by kernel_rfl, by kernel_rfl, by kernel_rfl, by kernel_rfl⟩
theorem ok4 : TIOk Tryz.prog 4 ⟨.bool, 1, 1, (.bool false), []⟩ := ⟨by kernel_rfl, by kernel_rfl, by kernel_rfl, by kernel_rfl⟩
theorem ok5 : TIOk Tryz.prog 5 ⟨.int .u8, 1, 1, (.int .u8 0), []⟩ := ⟨by kernel_rfl, by kernel_rfl, by kernel_rfl, by kernel_rfl⟩
theorem ok9 : TIOk Tryz.prog 9 ⟨.str, 1, 16, (.string ⟨#[]⟩), []⟩ := ⟨by kernel_rfl, by kernel_rfl, by kernel_rfl, by kernel_rfl⟩
theorem ok12 : TIOk Tryz.prog 12 ⟨.int .u64, 1, 8, (.int .u64 0), []⟩ := ⟨by kernel_rfl, by kernel_rfl, by kernel_rfl, by kernel_rfl⟩
theorem ok13 : TIOk Tryz.prog 13 ⟨.struct [(0, 1, false), (1, 1, false)], 2, 24, (.agg #[(.string ⟨#[]⟩), (.int .u64 0)]), []⟩ := ⟨by kernel_rfl, by kernel_rfl, by kernel_rfl, by kernel_rfl⟩
theorem ok20 : TIOk Tryz.prog 20 ⟨.iface, 1, 16, .nilIface, []⟩ := ⟨by kernel_rfl, by kernel_rfl, by kernel_rfl, by kernel_rfl⟩
theorem ok21 : TIOk Tryz.prog 21 ⟨.int .i32, 1, 4, (.int .i32 0), []⟩ := ⟨by kernel_rfl, by kernel_rfl, by kernel_rfl, by kernel_rfl⟩
theorem ok22 : TIOk Tryz.prog 22 ⟨.slice 33, 1, 24, (.slice none 0 0), []⟩ := ⟨by kernel_rfl, by kernel_rfl, by kernel_rfl, by kernel_rfl⟩
theorem ok25 : TIOk Tryz.prog 25 ⟨.int .u64, 1, 8, (.int .u64 0), []⟩ := ⟨by kernel_rfl, by kernel_rfl, by kernel_rfl, by kernel_rfl⟩
theorem ok30 : TIOk Tryz.prog 30 ⟨.struct [(0, 1, false), (1, 1, false), (2, 1, false)], 3, 32, (.agg #[(.bool false), (.string ⟨#[]⟩), (.int .i64 0)]), [.b, .s, .i]⟩ := ⟨by kernel_rfl, by kernel_rfl, by kernel_rfl, by kernel_rfl⟩
theorem ok31 : TIOk Tryz.prog 31 ⟨.struct [(0, 1, false), (1, 1, false), (2, 1, false)], 3, 32, (.agg #[(.bool false), (.string ⟨#[]⟩), (.int .i64 0)]), [.b, .s, .i]⟩ := ⟨by kernel_rfl, by kernel_rfl, by kernel_rfl, by kernel_rfl⟩
theorem ok32 : TIOk Tryz.prog 32 ⟨.struct [(0, 1, false), (1, 1, false), (2, 1, false), (3, 3, true)], 6, 56, (.agg #[(.int .i64 0), (.int .u64 0), (.int .i64 0), (.bool false), (.string ⟨#[]⟩), (.int .i64 0)]), []⟩ := ⟨by kernel_rfl, by kernel_rfl, by kernel_rfl, by kernel_rfl⟩
theorem ok33 : TIOk Tryz.prog 33 ⟨.struct [(0, 1, false), (1, 1, false), (2, 1, false), (3, 3, true)], 6, 56, (.agg #[(.int .i64 0), (.int .u64 0), (.int .i64 0), (.bool false), (.string ⟨#[]⟩), (.int .i64 0)]), []⟩ := ⟨by kernel_rfl, by kernel_rfl, by kernel_rfl, by kernel_rfl⟩
theorem ok36 : TIOk Tryz.prog 36 ⟨.int .i64, 1, 8, (.int .i64 0), []⟩ := ⟨by kernel_rfl, by kernel_rfl, by kernel_rfl, by kernel_rfl⟩
theorem ok54 : TIOk Tryz.prog 54 ⟨.struct [(0, 1, false), (1, 1, false), (2, 1, false), (3, 1, false), (4, 1, false)], 5, 40, (.agg #[(.int .u64 0), (.int .u64 0), (.int .u64 0), (.int .i64 0), (.bool false)]), [.i, .i, .i, .i, .b]⟩ := ⟨by kernel_rfl, by kernel_rfl, by kernel_rfl, by kernel_rfl⟩
theorem ok55 : TIOk Tryz.prog 55 ⟨.struct [(0, 1, false), (1, 1, false), (2, 1, false), (3, 1, false), (4, 1, false)], 5, 40, (.agg #[(.int .u64 0), (.int .u64 0), (.int .u64 0), (.int .i64 0), (.bool false)]), [.i, .i, .i, .i, .b]⟩ := ⟨by kernel_rfl, by kernel_rfl, by kernel_rfl, by kernel_rfl⟩
theorem ok58 : TIOk Tryz.prog 58 ⟨.slice 25, 1, 24, (.slice none 0 0), []⟩ := ⟨by kernel_rfl, by kernel_rfl, by kernel_rfl, by kernel_rfl⟩
theorem ok65 : TIOk Tryz.prog 65 ⟨.int .u64, 1, 8, (.int .u64 0), []⟩ := ⟨by kernel_rfl, by kernel_rfl, by kernel_rfl, by kernel_rfl⟩
theorem ok69 : TIOk Tryz.prog 69 ⟨.ptr 72, 1, 8, (.pointer none), []⟩ := ⟨by kernel_rfl, by kernel_rfl, by kernel_rfl, by kernel_rfl⟩
theorem ok70 : TIOk Tryz.prog 70 ⟨.slice 5, 1, 24, (.slice none 0 0), []⟩ := ⟨by kernel_rfl, by kernel_rfl, by kernel_rfl, by kernel_rfl⟩
theorem ok71 : TIOk Tryz.prog 71 ⟨.struct [(0, 1, false), (1, 1, false)], 2, 32, (.agg #[(.pointer none), (.slice none 0 0)]), []⟩ := ⟨by kernel_rfl, by kernel_rfl, by kernel_rfl, by kernel_rfl⟩
theorem ok72 : TIOk Tryz.prog 72 ⟨.struct [(0, 1, false), (1, 1, false)], 2, 32, (.agg #[(.pointer none), (.slice none 0 0)]), []⟩ := ⟨by kernel_rfl, by kernel_rfl, by kernel_rfl, by kernel_rfl⟩
theorem ok74 : TIOk Tryz.prog 74 ⟨.iface, 1, 16, .nilIface, []⟩ := ⟨by kernel_rfl, by kernel_rfl, by kernel_rfl, by kernel_rfl⟩
theorem ok75 : TIOk Tryz.prog 75 ⟨.iface, 1, 16, .nilIface, []⟩ := ⟨by kernel_rfl, by kernel_rfl, by kernel_rfl, by kernel_rfl⟩
theorem ok80 : TIOk Tryz.prog 80 ⟨.struct [(0, 1, false), (1, 1, false), (2, 1, false), (3, 1, false)], 4, 32, (.agg #[(.bool false), (.int .i64 0), (.int .u64 0), (.int .i64 0)]), [.b, .i, .i, .i]⟩ := ⟨by kernel_rfl, by kernel_rfl, by kernel_rfl, by kernel_rfl⟩
theorem ok81 : TIOk Tryz.prog 81 ⟨.struct [(0, 1, false), (1, 1, false), (2, 1, false), (3, 1, false)], 4, 32, (.agg #[(.bool false), (.int .i64 0), (.int .u64 0), (.int .i64 0)]), [.b, .i, .i, .i]⟩ := ⟨by kernel_rfl, by kernel_rfl, by kernel_rfl, by kernel_rfl⟩
theorem ok84 : TIOk Tryz.prog 84 ⟨.struct [(0, 1, false), (1, 1, false), (2, 1, false), (3, 1, false), (4, 1, false)], 5, 104, (.agg #[(.slice none 0 0), (.slice none 0 0), (.slice none 0 0), (.slice none 0 0), (.bool false)]), []⟩ := ⟨by kernel_rfl, by kernel_rfl, by kernel_rfl, by kernel_rfl⟩
theorem ok85 : TIOk Tryz.prog 85 ⟨.struct [(0, 1, false), (1, 1, false), (2, 1, false), (3, 1, false), (4, 1, false)], 5, 104, (.agg #[(.slice none 0 0), (.slice none 0 0), (.slice none 0 0), (.slice none 0 0), (.bool false)]), []⟩ := ⟨by kernel_rfl, by kernel_rfl, by kernel_rfl, by kernel_rfl⟩
theorem ok109 : TIOk Tryz.prog 109 ⟨.int .u32, 1, 4, (.int .u32 0), []⟩ := ⟨by kernel_rfl, by kernel_rfl, by kernel_rfl, by kernel_rfl⟩
theorem ok114 : TIOk Tryz.prog 114 ⟨.ptr 5, 1, 8, (.pointer none), []⟩ := ⟨by kernel_rfl, by kernel_rfl, by kernel_rfl, by kernel_rfl⟩
theorem ok129 : TIOk Tryz.prog 129 ⟨.slice 58, 1, 24, (.slice none 0 0), []⟩ := ⟨by kernel_rfl, by kernel_rfl, by kernel_rfl, by kernel_rfl⟩
theorem ok137 : TIOk Tryz.prog 137 ⟨.arr 24 5 [(0, 1, false), (1, 1, false), (2, 1, false), (3, 1, false), (4, 1, false), (5, 1, false), (6, 1, false), (7, 1, false), (8, 1, false), (9, 1, false), (10, 1, false), (11, 1, false), (12, 1, false), (13, 1, false), (14, 1, false), (15, 1, false), (16, 1, false), (17, 1, false), (18, 1, false), (19, 1, false), (20, 1, false), (21, 1, false), (22, 1, false), (23, 1, false)], 24, 24, (.agg #[(.int .u8 0), (.int .u8 0), (.int .u8 0), (.int .u8 0), (.int .u8 0), (.int .u8 0), (.int .u8 0), (.int .u8 0), (.int .u8 0), (.int .u8 0), (.int .u8 0), (.int .u8 0), (.int .u8 0), (.int .u8 0), (.int .u8 0), (.int .u8 0), (.int .u8 0), (.int .u8 0), (.int .u8 0), (.int .u8 0), (.int .u8 0), (.int .u8 0), (.int .u8 0), (.int .u8 0)]), [.i, .i, .i, .i, .i, .i, .i, .i, .i, .i, .i, .i, .i, .i, .i, .i, .i, .i, .i, .i, .i, .i, .i, .i]⟩ := ⟨by kernel_rfl, by kernel_rfl, by kernel_rfl, by kernel_rfl⟩
theorem ok156 : TIOk Tryz.prog 156 ⟨.ptr 152, 1, 8, (.pointer none), []⟩ := ⟨by kernel_rfl, by kernel_rfl, by kernel_rfl, by kernel_rfl⟩
theorem ok164 : TIOk Tryz.prog 164 ⟨.arr 20 25 [(0, 1, false), (1, 1, false), (2, 1, false), (3, 1, false), (4, 1, false), (5, 1, false), (6, 1, false), (7, 1, false), (8, 1, false), (9, 1, false), (10, 1, false), (11, 1, false), (12, 1, false), (13, 1, false), (14, 1, false), (15, 1, false), (16, 1, false), (17, 1, false), (18, 1, false), (19, 1, false)], 20, 160, (.agg #[(.int .u64 0), (.int .u64 0), (.int .u64 0), (.int .u64 0), (.int .u64 0), (.int .u64 0), (.int .u64 0), (.int .u64 0), (.int .u64 0), (.int .u64 0), (.int .u64 0), (.int .u64 0), (.int .u64 0), (.int .u64 0), (.int .u64 0), (.int .u64 0), (.int .u64 0), (.int .u64 0), (.int .u64 0), (.int .u64 0)]), [.i, .i, .i, .i, .i, .i, .i, .i, .i, .i, .i, .i, .i, .i, .i, .i, .i, .i, .i, .i]⟩ := ⟨by kernel_rfl, by kernel_rfl, by kernel_rfl, by kernel_rfl⟩
theorem ok173 : TIOk Tryz.prog 173 ⟨.arr 32 5 [(0, 1, false), (1, 1, false), (2, 1, false), (3, 1, false), (4, 1, false), (5, 1, false), (6, 1, false), (7, 1, false), (8, 1, false), (9, 1, false), (10, 1, false), (11, 1, false), (12, 1, false), (13, 1, false), (14, 1, false), (15, 1, false), (16, 1, false), (17, 1, false), (18, 1, false), (19, 1, false), (20, 1, false), (21, 1, false), (22, 1, false), (23, 1, false), (24, 1, false), (25, 1, false), (26, 1, false), (27, 1, false), (28, 1, false), (29, 1, false), (30, 1, false), (31, 1, false)], 32, 32, (.agg #[(.int .u8 0), (.int .u8 0), (.int .u8 0), (.int .u8 0), (.int .u8 0), (.int .u8 0), (.int .u8 0), (.int .u8 0), (.int .u8 0), (.int .u8 0), (.int .u8 0), (.int .u8 0), (.int .u8 0), (.int .u8 0), (.int .u8 0), (.int .u8 0), (.int .u8 0), (.int .u8 0), (.int .u8 0), (.int .u8 0), (.int .u8 0), (.int .u8 0), (.int .u8 0), (.int .u8 0), (.int .u8 0), (.int .u8 0), (.int .u8 0), (.int .u8 0), (.int .u8 0), (.int .u8 0), (.int .u8 0), (.int .u8 0)]), [.i, .i, .i, .i, .i, .i, .i, .i, .i, .i, .i, .i, .i, .i, .i, .i, .i, .i, .i, .i, .i, .i, .i, .i, .i, .i, .i, .i, .i, .i, .i, .i]⟩ := ⟨by kernel_rfl, by kernel_rfl, by kernel_rfl, by kernel_rfl⟩
theorem ok176 : TIOk Tryz.prog 176 ⟨.struct [(0, 1, false), (1, 1, false)], 2, 2, (.agg #[(.int .u8 0), (.int .u8 0)]), [.i, .i]⟩ := ⟨by kernel_rfl, by kernel_rfl, by kernel_rfl, by kernel_rfl⟩
theorem ok177 : TIOk Tryz.prog 177 ⟨.struct [(0, 1, false), (1, 1, false)], 2, 2, (.agg #[(.int .u8 0), (.int .u8 0)]), [.i, .i]⟩ := ⟨by kernel_rfl, by kernel_rfl, by kernel_rfl, by kernel_rfl⟩
theorem ok178 : TIOk Tryz.prog 178 ⟨.arr 16 177 [(0, 2, true), (2, 2, true), (4, 2, true), (6, 2, true), (8, 2, true), (10, 2, true), (12, 2, true), (14, 2, true), (16, 2, true), (18, 2, true), (20, 2, true), (22, 2, true), (24, 2, true), (26, 2, true), (28, 2, true), (30, 2, true)], 32, 32, (.agg #[(.int .u8 0), (.int .u8 0), (.int .u8 0), (.int .u8 0), (.int .u8 0), (.int .u8 0), (.int .u8 0), (.int .u8 0), (.int .u8 0), (.int .u8 0), (.int .u8 0), (.int .u8 0), (.int .u8 0), (.int .u8 0), (.int .u8 0), (.int .u8 0), (.int .u8 0), (.int .u8 0), (.int .u8 0), (.int .u8 0), (.int .u8 0), (.int .u8 0), (.int .u8 0), (.int .u8 0), (.int .u8 0), (.int .u8 0), (.int .u8 0), (.int .u8 0), (.int .u8 0), (.int .u8 0), (.int .u8 0), (.int .u8 0)]), []⟩ := ⟨by kernel_rfl, by kernel_rfl, by kernel_rfl, by kernel_rfl⟩
theorem ok194 : TIOk Tryz.prog 194 ⟨.struct [(0, 1, false)], 1, 16, (.agg #[(.string ⟨#[]⟩)]), [.s]⟩ := ⟨by kernel_rfl, by kernel_rfl, by kernel_rfl, by kernel_rfl⟩
theorem ttOk : TabOk Tryz.prog tt := by
  intro t ti h
  unfold tt at h
  split at h
  · cases h; exact ok2
  · cases h; exact ok3
  · cases h; exact ok4
  · cases h; exact ok5
  · cases h; exact ok9
  · cases h; exact ok12
  · cases h; exact ok13
  · cases h; exact ok20
  · cases h; exact ok21
  · cases h; exact ok22
  · cases h; exact ok25
  · cases h; exact ok30
  · cases h; exact ok31
  · cases h; exact ok32
  · cases h; exact ok33
  · cases h; exact ok36
  · cases h; exact ok54
  · cases h; exact ok55
  · cases h; exact ok58
  · cases h; exact ok65
  · cases h; exact ok69
  · cases h; exact ok70
  · cases h; exact ok71
  · cases h; exact ok72
  · cases h; exact ok74
  · cases h; exact ok75
  · cases h; exact ok80
  · cases h; exact ok81
  · cases h; exact ok84
  · cases h; exact ok85
  · cases h; exact ok109
  · cases h; exact ok114
  · cases h; exact ok129
  · cases h; exact ok137
  · cases h; exact ok156
  · cases h; exact ok164
  · cases h; exact ok173
  · cases h; exact ok176
  · cases h; exact ok177
  · cases h; exact ok178
  · cases h; exact ok194
  · cases h
theorem mixed : Tryz.prog.follows .mixedOrders = true := by kernel_rfl
theorem tabsOk {laid : List (String × DataW Unit)} {w : World} (h : laidMetH Tryz.prog laid w) (hm0 : ("math/bits.deBruijn64tab", DataW.agg ((Lib.deBruijn64tab.map fun k : Nat => (k : Int)).map fun z => .lit (.int .u8 z))) ∈ laid) (hm1 : ("internal/strconv.uint64pow10", DataW.agg (((List.range 20).map fun i => ((10 ^ i : Nat) : Int)).map fun z => .lit (.int .u64 z))) ∈ laid) : Tabs Tryz.prog w := by
  intro g gl tab hg htab
  rcases tabOf_eq htab with ⟨hn, rfl⟩ | ⟨hn, rfl⟩
  · exact tab_laid h "math/bits.deBruijn64tab" .u8 _ 5 174 5 64 (by kernel_rfl) (by kernel_rfl) (by kernel_rfl) (by kernel_rfl) (by kernel_rfl) (by kernel_rfl) (by kernel_rfl) hm0 hg hn
  · exact tab_laid h "internal/strconv.uint64pow10" .u64 _ 1 164 25 20 (by kernel_rfl) (by kernel_rfl) (by kernel_rfl) (by kernel_rfl) (by kernel_rfl) (by kernel_rfl) (by kernel_rfl) hm1 hg hn
def sizeN (l : List Int) : Nat → Nat
  | 0 => 0
  | n + 1 => if l.getD n 0 = 0 then sizeN l n else n + 1
theorem sizeN_le (l : List Int) : ∀ n, sizeN l n ≤ n
  | 0 => Nat.le_refl _
  | n + 1 => by have := sizeN_le l n; unfold sizeN; split <;> omega
def size (l : List Int) : Nat := sizeN l l.length
theorem size_le (l : List Int) : size l ≤ l.length := sizeN_le l l.length
def trim (l : List Int) : List Int := l.take (size l)
theorem nat_size (l : List Int) (hl : l.length ≤ 9223372036854775807) : Meets Tryz.prog 90 [.ints .u64 l] (.int .i64 (size l)) := by
  refine meets_by ttOk Tryz.func90 Tryz.ntmps90 Tryz.results90 (by kernel_rfl) (c := _) rfl rfl rfl fun E => ?_
  simp only [argsFrame]
  repeat' first
    | (with_reducible first | refine PW.seq ?_ | refine PW.block ?_ | refine PW.fork ?_ | refine PW.skip ?_ | refine PW.exit ?_ | refine PW.ret ?_ | refine PW.scope ?_ | refine PW.label ?_ | refine PW.goto ?_)
    | (with_reducible refine PW.region ttOk ?_ ?_
       · rfl)
    | (with_reducible refine PW.regionD ttOk mixed ?_ ?_ ?_
       · rfl
       · rfl)
    | (with_reducible refine ifW_dec (fun g => ?_) (fun g => ?_) <;> first | (exfalso; omega) | (simp -dsimp only [g, wkI]))
    | (with_reducible refine condE_dec (fun g => ?_) (fun g => ?_) <;> try (exfalso; omega))
    | (with_reducible refine condE_not (fun g => ?_) (fun g => ?_) <;> try (exfalso; omega))
    | (simp -dsimp only [↓wkA, ↓wkE, ↓wkJ, wkB, ↓tt, Nat.reduceBEq, Nat.reduceEqDiff, ↓reduceIte, Nat.reduceLT, Array.toList, Nat.reduceAdd, Nat.reduceMul, Int.reduceToNat, Int.reducePow, UInt8.reduceToNat])
    | (simp -dsimp (disch := first | assumption | omega) only [dec_t, dec_f])
    | (refine andI ?_)
    | (simp (disch := omega) only [wkW, Int.reduceToNat, Int.reducePow])
    | fail
  refine PW.loopA (fun n F H => n ≤ l.length ∧ sizeN l n = size l ∧ F = [(3, .int .i64 n), (0, .ints .u64 l)] ∧ H = ⟨0, [], [], []⟩) l.length [(3, .int .i64 l.length), (0, .ints .u64 l)] ⟨0, [], [], []⟩ (Sub.frame ⟨rfl, rfl, trivial⟩) ⟨Nat.le_refl _, rfl, rfl, rfl⟩ ?_
  rintro n F H ⟨hn, hs, rfl, rfl⟩
  cases n with
  | zero =>
    repeat' first
      | (with_reducible first | refine PW.seq ?_ | refine PW.block ?_ | refine PW.fork ?_ | refine PW.skip ?_ | refine PW.exit ?_ | refine PW.ret ?_ | refine PW.scope ?_ | refine PW.label ?_ | refine PW.goto ?_)
      | (with_reducible refine PW.region ttOk ?_ ?_
         · rfl)
      | (with_reducible refine PW.regionD ttOk mixed ?_ ?_ ?_
         · rfl
         · rfl)
      | (with_reducible refine ifW_dec (fun g => ?_) (fun g => ?_) <;> first | (exfalso; omega) | (simp -dsimp only [g, wkI]))
      | (with_reducible refine condE_dec (fun g => ?_) (fun g => ?_) <;> try (exfalso; omega))
      | (with_reducible refine condE_not (fun g => ?_) (fun g => ?_) <;> try (exfalso; omega))
      | (simp -dsimp only [↓wkA, ↓wkE, ↓wkJ, wkB, ↓tt, Nat.reduceBEq, Nat.reduceEqDiff, ↓reduceIte, Nat.reduceLT, Array.toList, Nat.reduceAdd, Nat.reduceMul, Int.reduceToNat, Int.reducePow, UInt8.reduceToNat])
      | (simp -dsimp (disch := first | assumption | omega) only [dec_t, dec_f])
      | (refine andI ?_)
      | (simp (disch := omega) only [wkW, Int.reduceToNat, Int.reducePow])
      | fail
    rw [← hs]; rfl
  | succ n =>
    have e1 : (((n + 1 : Nat) : Int) - 1) = n := by omega
    repeat' first
      | (with_reducible first | refine PW.seq ?_ | refine PW.block ?_ | refine PW.fork ?_ | refine PW.skip ?_ | refine PW.exit ?_ | refine PW.ret ?_ | refine PW.scope ?_ | refine PW.label ?_ | refine PW.goto ?_)
      | (with_reducible refine PW.region ttOk ?_ ?_
         · rfl)
      | (with_reducible refine PW.regionD ttOk mixed ?_ ?_ ?_
         · rfl
         · rfl)
      | (with_reducible refine ifW_dec (fun g => ?_) (fun g => ?_) <;> first | (exfalso; omega) | (simp -dsimp only [g, wkI]))
      | (with_reducible refine condE_dec (fun g => ?_) (fun g => ?_) <;> try (exfalso; omega))
      | (with_reducible refine condE_not (fun g => ?_) (fun g => ?_) <;> try (exfalso; omega))
      | (simp -dsimp only [↓wkA, ↓wkE, ↓wkJ, wkB, ↓tt, Nat.reduceBEq, Nat.reduceEqDiff, ↓reduceIte, Nat.reduceLT, Array.toList, Nat.reduceAdd, Nat.reduceMul, Int.reduceToNat, Int.reducePow, UInt8.reduceToNat])
      | (simp -dsimp (disch := first | assumption | omega) only [dec_t, dec_f])
      | (refine andI ?_)
      | (simp (disch := omega) only [wkW, Int.reduceToNat, Int.reducePow])
      | fail
    all_goals simp (disch := omega) only [e1, Int.toNat_natCast, wkW, Int.reduceToNat, Int.reducePow] at *
    · have h2 : sizeN l n = size l := by rw [← hs, sizeN, if_pos (by assumption)]
      exact Again.mk n [(3, .int .i64 n), (0, .ints .u64 l)] ⟨0, [], [], []⟩ (by omega) (Sub.frame ⟨rfl, rfl, trivial⟩) ⟨by omega, h2, rfl, rfl⟩
    · rw [← hs, sizeN, if_neg (by assumption)]
theorem nat_big (l : List Int) (hl : l.length ≤ 9223372036854775807) : Meets Tryz.prog 97 [.ints .u64 l] (.bool (decide (4096 < size l))) := by
  refine meets_by ttOk Tryz.func97 Tryz.ntmps97 Tryz.results97 (by kernel_rfl) (c := _) rfl rfl rfl fun E => ?_
  simp only [argsFrame]
  repeat' first
    | (with_reducible first | refine PW.seq ?_ | refine PW.block ?_ | refine PW.fork ?_ | refine PW.skip ?_ | refine PW.exit ?_ | refine PW.ret ?_ | refine PW.scope ?_ | refine PW.label ?_ | refine PW.goto ?_)
    | (with_reducible refine PW.region ttOk ?_ ?_
       · rfl)
    | (with_reducible refine PW.regionD ttOk mixed ?_ ?_ ?_
       · rfl
       · rfl)
    | (with_reducible refine ifW_dec (fun g => ?_) (fun g => ?_) <;> first | (exfalso; omega) | (simp -dsimp only [g, wkI]))
    | (with_reducible refine condE_dec (fun g => ?_) (fun g => ?_) <;> try (exfalso; omega))
    | (with_reducible refine condE_not (fun g => ?_) (fun g => ?_) <;> try (exfalso; omega))
    | (simp -dsimp only [↓wkA, ↓wkE, ↓wkJ, wkB, ↓tt, Nat.reduceBEq, Nat.reduceEqDiff, ↓reduceIte, Nat.reduceLT, Array.toList, Nat.reduceAdd, Nat.reduceMul, Int.reduceToNat, Int.reducePow, UInt8.reduceToNat])
    | (refine call_by (nat_size _ (by first | assumption | omega)) (views_data rfl) ⟨trivial, trivial⟩ rfl ?_)
    | (simp -dsimp (disch := first | assumption | omega) only [dec_t, dec_f])
    | (refine andI ?_)
    | (simp (disch := omega) only [wkW, Int.reduceToNat, Int.reducePow])
    | fail
  simp only [PV.bool.injEq, decide_eq_decide]; omega
theorem nat_cut (l : List Int) (hl : l.length ≤ 9223372036854775807) : Meets Tryz.prog 99 [.ints .u64 l] (.tup (if 4096 < size l then [.nil, .int .i64 2] else [.ints .u64 (trim l), .int .i64 0])) := by
  refine meets_by ttOk Tryz.func99 Tryz.ntmps99 Tryz.results99 (by kernel_rfl) (c := _) rfl rfl rfl fun E => ?_
  simp only [argsFrame]
  have hsz := size_le l
  repeat' first
    | (with_reducible first | refine PW.seq ?_ | refine PW.block ?_ | refine PW.fork ?_ | refine PW.skip ?_ | refine PW.exit ?_ | refine PW.ret ?_ | refine PW.scope ?_ | refine PW.label ?_ | refine PW.goto ?_)
    | (with_reducible refine PW.region ttOk ?_ ?_
       · rfl)
    | (with_reducible refine PW.regionD ttOk mixed ?_ ?_ ?_
       · rfl
       · rfl)
    | (with_reducible refine ifW_dec (fun g => ?_) (fun g => ?_) <;> first | (exfalso; omega) | (simp -dsimp only [g, wkI]))
    | (with_reducible refine condE_dec (fun g => ?_) (fun g => ?_) <;> try (exfalso; omega))
    | (with_reducible refine condE_not (fun g => ?_) (fun g => ?_) <;> try (exfalso; omega))
    | (simp -dsimp only [↓wkA, ↓wkE, ↓wkJ, wkB, ↓tt, Nat.reduceBEq, Nat.reduceEqDiff, ↓reduceIte, Nat.reduceLT, Array.toList, Nat.reduceAdd, Nat.reduceMul, Int.reduceToNat, Int.reducePow, UInt8.reduceToNat])
    | (refine call_by (nat_size _ (by first | assumption | omega)) (views_data rfl) ⟨trivial, trivial⟩ rfl ?_)
    | (simp -dsimp (disch := first | assumption | omega) only [dec_t, dec_f])
    | (refine andI ?_)
    | (simp (disch := omega) only [wkW, Int.reduceToNat, Int.reducePow])
    | fail
  · rw [if_pos (by omega)]
  · rw [if_neg (by omega)]; rfl
theorem nat_trim (l : List Int) (hl : l.length ≤ 17592186043904) : Meets Tryz.prog 125 [.ints .u64 l] (.ints .u64 (trim l)) := by
  refine meets_by ttOk Tryz.func125 Tryz.ntmps125 Tryz.results125 (by kernel_rfl) (c := _) rfl rfl rfl fun E => ?_
  simp only [argsFrame]
  have hsz := size_le l
  repeat' first
    | (with_reducible first | refine PW.seq ?_ | refine PW.block ?_ | refine PW.fork ?_ | refine PW.skip ?_ | refine PW.exit ?_ | refine PW.ret ?_ | refine PW.scope ?_ | refine PW.label ?_ | refine PW.goto ?_)
    | (with_reducible refine PW.region ttOk ?_ ?_
       · rfl)
    | (with_reducible refine PW.regionD ttOk mixed ?_ ?_ ?_
       · rfl
       · rfl)
    | (with_reducible refine ifW_dec (fun g => ?_) (fun g => ?_) <;> first | (exfalso; omega) | (simp -dsimp only [g, wkI]))
    | (with_reducible refine condE_dec (fun g => ?_) (fun g => ?_) <;> try (exfalso; omega))
    | (with_reducible refine condE_not (fun g => ?_) (fun g => ?_) <;> try (exfalso; omega))
    | (simp -dsimp only [↓wkA, ↓wkE, ↓wkJ, wkB, ↓tt, Nat.reduceBEq, Nat.reduceEqDiff, ↓reduceIte, Nat.reduceLT, Array.toList, Nat.reduceAdd, Nat.reduceMul, Int.reduceToNat, Int.reducePow, UInt8.reduceToNat])
    | (refine call_by (nat_size _ (by first | assumption | omega)) (views_data rfl) ⟨trivial, trivial⟩ rfl ?_)
    | (simp -dsimp (disch := first | assumption | omega) only [dec_t, dec_f])
    | (refine andI ?_)
    | (simp (disch := omega) only [wkW, Int.reduceToNat, Int.reducePow])
    | fail
  rw [List.length_take, Nat.min_eq_left (by omega : size l ≤ l.length), Nat.min_self, List.take_take, Nat.min_self, List.drop_of_length_le (by simp), List.append_nil, List.take_take, Nat.min_self]
  rfl
def Limbs (l : List Int) : Prop := ∀ x ∈ l, 0 ≤ x ∧ x < 18446744073709551616
abbrev B64 : Int := 18446744073709551616
theorem getD_limb {l : List Int} (hb : Limbs l) (i : Nat) : 0 ≤ l.getD i 0 ∧ l.getD i 0 < B64 := by
  rw [List.getD_eq_getElem?_getD]
  cases h : l[i]? with
  | none => simp [B64]
  | some x => exact hb x (List.mem_of_getElem? h)
def vt (l : List Int) : Nat → Int
  | 0 => 0
  | n + 1 => vt l n + B64 ^ n * l.getD n 0
def val (l : List Int) : Int := vt l l.length
theorem pow_pos64 (n : Nat) : (0 : Int) < B64 ^ n := Int.pow_pos (by decide)
theorem pow_mono64 {m n : Nat} (h : m ≤ n) : B64 ^ m ≤ B64 ^ n := by
  have e : B64 = ((18446744073709551616 : Nat) : Int) := rfl
  rw [e, ← Int.natCast_pow, ← Int.natCast_pow]
  exact Int.ofNat_le.2 (Nat.pow_le_pow_right (by decide) h)
theorem vt_bound {l : List Int} (hb : Limbs l) : ∀ n, 0 ≤ vt l n ∧ vt l n < B64 ^ n
  | 0 => by simp [vt]
  | n + 1 => by
    have ih := vt_bound hb n
    have hd := getD_limb hb n
    have hp := pow_pos64 n
    have h1 : 0 ≤ B64 ^ n * l.getD n 0 := Int.mul_nonneg (Int.le_of_lt hp) hd.1
    have h2 : B64 ^ n * l.getD n 0 ≤ B64 ^ n * (B64 - 1) := Int.mul_le_mul_of_nonneg_left (by omega) (Int.le_of_lt hp)
    have h3 : B64 ^ (n + 1) = B64 ^ n * (B64 - 1) + B64 ^ n := by rw [Int.pow_succ]; simp only [B64]; omega
    simp only [vt]
    rw [h3]
    constructor <;> omega
theorem vt_sizeN (l : List Int) : ∀ n, vt l (sizeN l n) = vt l n
  | 0 => rfl
  | n + 1 => by
    unfold sizeN
    split
    · rename_i h
      rw [vt_sizeN l n]; simp only [vt, h]; omega
    · rfl
theorem vt_size (l : List Int) : vt l (size l) = val l := vt_sizeN l l.length
theorem vt_top {a b : List Int} (ha : Limbs a) (hb : Limbs b) {i : Nat} (h : a.getD i 0 < b.getD i 0) : ∀ n, i < n → (∀ j, i < j → j < n → a.getD j 0 = b.getD j 0) → vt a n < vt b n
  | 0, hi, _ => by omega
  | n + 1, hi, he => by
    by_cases hin : i = n
    · subst hin
      have h1 := vt_bound ha i
      have h2 := vt_bound hb i
      have hp := pow_pos64 i
      have h3 : B64 ^ i * (a.getD i 0 + 1) ≤ B64 ^ i * b.getD i 0 := Int.mul_le_mul_of_nonneg_left (by omega) (Int.le_of_lt hp)
      have h4 : B64 ^ i * (a.getD i 0 + 1) = B64 ^ i * a.getD i 0 + B64 ^ i := by rw [Int.mul_add, Int.mul_one]
      simp only [vt]
      omega
    · have := vt_top ha hb h n (by omega) fun j h1 h2 => he j h1 (by omega)
      simp only [vt, he n (by omega) (by omega)]
      omega
theorem sizeN_top (l : List Int) : ∀ n, sizeN l n ≠ 0 → l.getD (sizeN l n - 1) 0 ≠ 0
  | 0, h => absurd rfl h
  | n + 1, h => by
    unfold sizeN at h ⊢
    split
    · rename_i h0
      rw [if_pos h0] at h
      exact sizeN_top l n h
    · rename_i h0
      simpa using h0
theorem size_lt_val {a b : List Int} (ha : Limbs a) (hb : Limbs b) (h : size a < size b) : val a < val b := by
  rw [← vt_size a, ← vt_size b]
  obtain ⟨m, hm⟩ : ∃ m, size b = m + 1 := ⟨size b - 1, by omega⟩
  have h1 := (vt_bound ha (size a)).2
  have h2 := (vt_bound hb m).1
  have htop := sizeN_top b b.length (by have : size b ≠ 0 := by omega
                                        exact this)
  have htop' : b.getD m 0 ≠ 0 := by
    have : sizeN b b.length - 1 = m := by have : size b = m + 1 := hm; unfold size at this; omega
    rwa [this] at htop
  have hd := getD_limb hb m
  have hle : B64 ^ size a ≤ B64 ^ m := pow_mono64 (by omega)
  have hp := pow_pos64 m
  have h5 : B64 ^ m * 1 ≤ B64 ^ m * b.getD m 0 := Int.mul_le_mul_of_nonneg_left (by omega) (Int.le_of_lt hp)
  rw [hm]
  simp only [vt]
  omega
def cmpN (a b : List Int) : Int := if val a < val b then -1 else if val b < val a then 1 else 0
theorem vt_same {a b : List Int} : ∀ n, (∀ j, j < n → a.getD j 0 = b.getD j 0) → vt a n = vt b n
  | 0, _ => rfl
  | n + 1, h => by simp only [vt]; rw [vt_same n fun j hj => h j (by omega), h n (by omega)]
theorem nat_cmp (a b : List Int) (ha : Limbs a) (hb : Limbs b) (hla : a.length ≤ 9223372036854775807) (hlb : b.length ≤ 9223372036854775807) : Meets Tryz.prog 55 [.ints .u64 a, .ints .u64 b] (.int .i64 (cmpN a b)) := by
  refine meets_by ttOk Tryz.func55 Tryz.ntmps55 Tryz.results55 (by kernel_rfl) (c := _) rfl rfl rfl fun E => ?_
  simp only [argsFrame]
  have hsa := size_le a
  have hsb := size_le b
  repeat' first
    | (with_reducible first | refine PW.seq ?_ | refine PW.block ?_ | refine PW.fork ?_ | refine PW.skip ?_ | refine PW.exit ?_ | refine PW.ret ?_ | refine PW.scope ?_ | refine PW.label ?_ | refine PW.goto ?_)
    | (with_reducible refine PW.region ttOk ?_ ?_
       · rfl)
    | (with_reducible refine PW.regionD ttOk mixed ?_ ?_ ?_
       · rfl
       · rfl)
    | (with_reducible refine ifW_dec (fun g => ?_) (fun g => ?_) <;> first | (exfalso; omega) | (simp -dsimp only [g, wkI]))
    | (with_reducible refine condE_dec (fun g => ?_) (fun g => ?_) <;> try (exfalso; omega))
    | (with_reducible refine condE_not (fun g => ?_) (fun g => ?_) <;> try (exfalso; omega))
    | (simp -dsimp only [↓wkA, ↓wkE, ↓wkJ, wkB, ↓tt, Nat.reduceBEq, Nat.reduceEqDiff, ↓reduceIte, Nat.reduceLT, Array.toList, Nat.reduceAdd, Nat.reduceMul, Int.reduceToNat, Int.reducePow, UInt8.reduceToNat])
    | (refine call_by (nat_size _ (by first | assumption | omega)) (views_data rfl) ⟨trivial, trivial⟩ rfl ?_)
    | (simp -dsimp (disch := first | assumption | omega) only [dec_t, dec_f])
    | (refine andI ?_)
    | (simp (disch := omega) only [wkW, Int.reduceToNat, Int.reducePow])
    | fail
  · rw [cmpN, if_pos (size_lt_val ha hb (by omega))]
  · rw [cmpN, if_neg (by have := size_lt_val hb ha (by omega); omega), if_pos (size_lt_val hb ha (by omega))]
  have hss : size a = size b := by omega
  refine PW.loopA (fun n F H => n ≤ size a ∧ (∀ j, n ≤ j → j < size a → a.getD j 0 = b.getD j 0) ∧ F = [(7, .int .i64 ((n : Int) - 1)), (1, .ints .u64 b), (0, .ints .u64 a)] ∧ H = ⟨0, [], [], []⟩) (size a) [(7, .int .i64 ((size a : Nat) - 1 : Int)), (1, .ints .u64 b), (0, .ints .u64 a)] ⟨0, [], [], []⟩ (Sub.frame ⟨?_, rfl, rfl, trivial⟩) ⟨Nat.le_refl _, fun j h1 h2 => by omega, rfl, rfl⟩ ?_
  · simp (disch := omega) only [↓wkA, ↓wkE, ↓wkJ, wkB, ↓tt, Nat.reduceBEq, Nat.reduceEqDiff, ↓reduceIte, Nat.reduceLT, Array.toList, Nat.reduceAdd, Nat.reduceMul, Int.reduceToNat, Int.reducePow, UInt8.reduceToNat, wkW, Int.reduceToNat, Int.reducePow]
  rintro n F H ⟨hn, he, rfl, rfl⟩
  cases n with
  | zero =>
    have : vt a (size a) = vt b (size a) := vt_same _ fun j hj => he j (by omega) hj
    have hv : val a = val b := by rw [← vt_size a, ← vt_size b, ← hss, this]
    repeat' first
      | (with_reducible first | refine PW.seq ?_ | refine PW.block ?_ | refine PW.fork ?_ | refine PW.skip ?_ | refine PW.exit ?_ | refine PW.ret ?_ | refine PW.scope ?_ | refine PW.label ?_ | refine PW.goto ?_)
      | (with_reducible refine PW.region ttOk ?_ ?_
         · rfl)
      | (with_reducible refine PW.regionD ttOk mixed ?_ ?_ ?_
         · rfl
         · rfl)
      | (with_reducible refine ifW_dec (fun g => ?_) (fun g => ?_) <;> first | (exfalso; omega) | (simp -dsimp only [g, wkI]))
      | (with_reducible refine condE_dec (fun g => ?_) (fun g => ?_) <;> try (exfalso; omega))
      | (with_reducible refine condE_not (fun g => ?_) (fun g => ?_) <;> try (exfalso; omega))
      | (simp -dsimp only [↓wkA, ↓wkE, ↓wkJ, wkB, ↓tt, Nat.reduceBEq, Nat.reduceEqDiff, ↓reduceIte, Nat.reduceLT, Array.toList, Nat.reduceAdd, Nat.reduceMul, Int.reduceToNat, Int.reducePow, UInt8.reduceToNat])
      | (simp -dsimp (disch := first | assumption | omega) only [dec_t, dec_f])
      | (refine andI ?_)
      | (simp (disch := omega) only [wkW, Int.reduceToNat, Int.reducePow])
      | fail
    rw [cmpN, hv]; simp
  | succ n =>
    have e1 : (((n + 1 : Nat) : Int) - 1) = n := by omega
    rw [e1]
    repeat' first
      | (with_reducible first | refine PW.seq ?_ | refine PW.block ?_ | refine PW.fork ?_ | refine PW.skip ?_ | refine PW.exit ?_ | refine PW.ret ?_ | refine PW.scope ?_ | refine PW.label ?_ | refine PW.goto ?_)
      | (with_reducible refine PW.region ttOk ?_ ?_
         · rfl)
      | (with_reducible refine PW.regionD ttOk mixed ?_ ?_ ?_
         · rfl
         · rfl)
      | (with_reducible refine ifW_dec (fun g => ?_) (fun g => ?_) <;> first | (exfalso; omega) | (simp -dsimp only [g, wkI]))
      | (with_reducible refine condE_dec (fun g => ?_) (fun g => ?_) <;> try (exfalso; omega))
      | (with_reducible refine condE_not (fun g => ?_) (fun g => ?_) <;> try (exfalso; omega))
      | (simp -dsimp only [↓wkA, ↓wkE, ↓wkJ, wkB, ↓tt, Nat.reduceBEq, Nat.reduceEqDiff, ↓reduceIte, Nat.reduceLT, Array.toList, Nat.reduceAdd, Nat.reduceMul, Int.reduceToNat, Int.reducePow, UInt8.reduceToNat])
      | (simp -dsimp (disch := first | assumption | omega) only [dec_t, dec_f])
      | (refine andI ?_)
      | (simp (disch := omega) only [wkW, Int.reduceToNat, Int.reducePow])
      | fail
    · have h1 := vt_top ha hb (by assumption) (size a) (by omega) fun j h1 h2 => he j (by omega) h2
      rw [cmpN, if_pos (by rw [← vt_size a, ← vt_size b, ← hss]; exact h1)]
    · have h1 := vt_top hb ha (i := n) (by omega) (size a) (by omega) fun j h1 h2 => (he j (by omega) h2).symm
      have h2 : val b < val a := by rw [← vt_size a, ← vt_size b, ← hss]; exact h1
      rw [cmpN, if_neg (by omega), if_pos h2]
    · try simp (disch := omega) only [wkW, Int.reduceToNat, Int.reducePow]
      exact Again.mk n [(7, .int .i64 ((n : Int) - 1)), (1, .ints .u64 b), (0, .ints .u64 a)] ⟨0, [], [], []⟩ (by omega) (Sub.frame ⟨rfl, rfl, rfl, trivial⟩) ⟨by omega, fun j h1 h2 => by
        by_cases hj : j = n
        · subst hj; assumption
        · exact he j (by omega) h2, rfl, rfl⟩
theorem and32 {a : Int} (ha : 0 ≤ a ∧ a ≤ 18446744073709551615) : ibits .and .u64 a 4294967295 = a % 4294967296 := by
  rw [ibits_and_u64 ha (by omega)]
  have h := and_mask (a := a.toNat) 32
  simp only [Nat.reducePow, Nat.reduceSub] at h
  rw [show (4294967295 : Int).toNat = 4294967295 from rfl, h]
  omega
theorem fdiv32 (a : Int) : a.fdiv (2 ^ min 32 64) = a / 4294967296 := by
  have : (2 : Int) ^ min 32 64 = 4294967296 := by decide
  rw [this]; exact fdiv_pos (by decide)
theorem mul64 (x y : Int) (hx : 0 ≤ x ∧ x < B64) (hy : 0 ≤ y ∧ y < B64) : Meets Tryz.prog 85 [.int .u64 x, .int .u64 y] (.tup [.int .u64 (x * y / B64), .int .u64 (x * y % B64)]) := by
  refine meets_by ttOk Tryz.func85 Tryz.ntmps85 Tryz.results85 (by kernel_rfl) (c := _) rfl rfl rfl fun E => ?_
  simp only [argsFrame]
  refine walk1 ?_
  have hx0 : 0 ≤ x % 4294967296 ∧ x % 4294967296 ≤ 4294967295 := by omega
  have hx1 : 0 ≤ x / 4294967296 ∧ x / 4294967296 ≤ 4294967295 := by simp only [B64] at hx; omega
  have hy0 : 0 ≤ y % 4294967296 ∧ y % 4294967296 ≤ 4294967295 := by omega
  have hy1 : 0 ≤ y / 4294967296 ∧ y / 4294967296 ≤ 4294967295 := by simp only [B64] at hy; omega
  have ex : x = 4294967296 * (x / 4294967296) + x % 4294967296 := by omega
  have ey : y = 4294967296 * (y / 4294967296) + y % 4294967296 := by omega
  simp only [fdiv32, and32 (a := x) (by simp only [B64] at hx; omega), and32 (a := y) (by simp only [B64] at hy; omega)]
  generalize x % 4294967296 = x0 at *
  generalize x / 4294967296 = x1 at *
  generalize y % 4294967296 = y0 at *
  generalize y / 4294967296 = y1 at *
  have hm : x * y = 18446744073709551616 * (x1 * y1) + 4294967296 * (x1 * y0) + 4294967296 * (x0 * y1) + x0 * y0 := by
    rw [ex, ey]; grind
  have bd : ∀ u v : Int, 0 ≤ u ∧ u ≤ 4294967295 → 0 ≤ v ∧ v ≤ 4294967295 → 0 ≤ u * v ∧ u * v ≤ 18446744065119617025 := fun u v hu hv =>
    ⟨Int.mul_nonneg hu.1 hv.1, Int.le_trans (Int.mul_le_mul hu.2 hv.2 hv.1 (by omega)) (by decide)⟩
  have b00 := bd x0 y0 hx0 hy0
  have b10 := bd x1 y0 hx1 hy0
  have b01 := bd x0 y1 hx0 hy1
  have b11 := bd x1 y1 hx1 hy1
  rw [wrap_u64' (x * y), hm]
  generalize x0 * y0 = p00 at *
  generalize x1 * y0 = p10 at *
  generalize x0 * y1 = p01 at *
  generalize x1 * y1 = p11 at *
  have w00 : IntKind.wrap .u64 p00 = p00 := wrap_u64 (by omega)
  have w10 : IntKind.wrap .u64 p10 = p10 := wrap_u64 (by omega)
  have w01 : IntKind.wrap .u64 p01 = p01 := wrap_u64 (by omega)
  have w11 : IntKind.wrap .u64 p11 = p11 := wrap_u64 (by omega)
  have wt : IntKind.wrap .u64 (p10 + p00 / 4294967296) = p10 + p00 / 4294967296 := wrap_u64 (by omega)
  rw [w00, w10, w01, w11, wt, and32 (by omega)]
  have ww : IntKind.wrap .u64 ((p10 + p00 / 4294967296) % 4294967296 + p01) = (p10 + p00 / 4294967296) % 4294967296 + p01 := wrap_u64 (by omega)
  rw [ww, wrap_u64 (n := p11 + (p10 + p00 / 4294967296) / 4294967296) (by omega)]
  rw [wrap_u64 (by omega)]
  have e1 : (18446744073709551616 * p11 + 4294967296 * p10 + 4294967296 * p01 + p00) / B64 = p11 + (p10 + p00 / 4294967296) / 4294967296 + ((p10 + p00 / 4294967296) % 4294967296 + p01) / 4294967296 := by simp only [B64]; omega
  rw [e1]
theorem add64 {x y c : Int} (hx : 0 ≤ x) (hy : 0 ≤ y) (hc : 0 ≤ c ∧ c ≤ 1) : Meets Tryz.prog 98 [.int .u64 x, .int .u64 y, .int .u64 c] (.tup [.int .u64 ((x + y + c) % 18446744073709551616), .int .u64 ((x + y + c) / 18446744073709551616)]) :=
  add64_meets Tryz.func98 (by kernel_rfl) (by kernel_rfl) (by kernel_rfl) (by kernel_rfl) hx hy hc
theorem getD_set (l : List Int) (k j : Nat) (v : Int) (hk : k < l.length) : (l.set k v).getD j 0 = if j = k then v else l.getD j 0 := by
  simp only [List.getD_eq_getElem?_getD, List.getElem?_set]
  by_cases h : k = j
  · subst h; simp [hk]
  · rw [if_neg h, if_neg (fun e => h e.symm)]
theorem vt_set_ge (l : List Int) (k n : Nat) (v : Int) (hk : k < l.length) (h : n ≤ k) : vt (l.set k v) n = vt l n :=
  vt_same n fun j hj => by rw [getD_set l k j v hk, if_neg (by omega)]
theorem limbs_set {l : List Int} (h : Limbs l) (k : Nat) {v : Int} (hv : 0 ≤ v ∧ v < B64) : Limbs (l.set k v) := fun x hx => by
  rcases List.mem_or_eq_of_mem_set hx with h1 | h1
  · exact h x h1
  · subst h1; exact hv
theorem limbs_take {l : List Int} (h : Limbs l) (n : Nat) : Limbs (l.take n) := fun x hx => h x (List.mem_of_mem_take hx)
structure MulIn (a b o0 o : List Int) (i j : Nat) (c : Int) : Prop where
  len : o.length = a.length + b.length
  lim : Limbs o
  car : 0 ≤ c ∧ c < B64
  eq : vt o (i + j) + B64 ^ (i + j) * c = vt o0 (i + j) + B64 ^ i * (a.getD i 0 * vt b j)
  rest : ∀ k, i + j ≤ k → o.getD k 0 = o0.getD k 0
structure MulOut (a b o : List Int) (i : Nat) : Prop where
  len : o.length = a.length + b.length
  lim : Limbs o
  eq : vt o (i + b.length) = vt a i * vt b b.length
  rest : ∀ k, i + b.length ≤ k → o.getD k 0 = 0
theorem MulIn.start {a b o : List Int} {i : Nat} (h : MulOut a b o i) : MulIn a b o o i 0 0 :=
  ⟨h.len, h.lim, by decide, by simp [vt], fun _ _ => rfl⟩
theorem mul_bound {x y : Int} (hx : 0 ≤ x ∧ x < B64) (hy : 0 ≤ y ∧ y < B64) : 0 ≤ x * y ∧ x * y ≤ 340282366920938463426481119284349108225 :=
  ⟨Int.mul_nonneg hx.1 hy.1, Int.le_trans (Int.mul_le_mul (c := 18446744073709551615) (d := 18446744073709551615) (by simp only [B64] at hx; omega) (by simp only [B64] at hy; omega) hy.1 (by omega)) (by decide)⟩
theorem MulIn.step {a b o0 o : List Int} {i j : Nat} {c s : Int} (h : MulIn a b o0 o i j c) (hi : i < a.length) (hj : j < b.length) (hs : s = a.getD i 0 * b.getD j 0 + o.getD (i + j) 0 + c) (hr : 0 ≤ s / B64 ∧ s / B64 < B64) :
    MulIn a b o0 (o.set (i + j) (s % B64)) i (j + 1) (s / B64) := by
  have hlt : i + j < o.length := by rw [h.len]; omega
  have hmod : 0 ≤ s % B64 ∧ s % B64 < B64 := ⟨Int.emod_nonneg _ (by decide), Int.emod_lt_of_pos _ (by decide)⟩
  refine ⟨by rw [List.length_set, h.len], limbs_set h.lim _ hmod, hr, ?_, fun k hk => ?_⟩
  · have e0 : i + (j + 1) = (i + j) + 1 := by omega
    rw [e0]
    simp only [vt]
    rw [vt_set_ge _ _ _ _ hlt (Nat.le_refl _), getD_set _ _ _ _ hlt, if_pos rfl, Int.pow_succ]
    have hsum : B64 * (s / B64) + s % B64 = s := Int.mul_ediv_add_emod s B64
    have h1 := h.eq
    have h2 := h.rest (i + j) (Nat.le_refl _)
    have e1 : B64 ^ (i + j) = B64 ^ i * B64 ^ j := Int.pow_add _ _ _
    rw [← h2]
    generalize s / B64 = q at *
    generalize s % B64 = r at *
    generalize vt o (i + j) = A at *
    generalize vt o0 (i + j) = A0 at *
    generalize o.getD (i + j) 0 = d at *
    generalize a.getD i 0 = x at *
    generalize b.getD j 0 = y at *
    generalize vt b j = V at *
    rw [e1] at *
    generalize B64 ^ i = p at *
    generalize B64 ^ j = t at *
    generalize B64 = B at *
    grind
  · rw [getD_set _ _ _ _ hlt, if_neg (by omega)]
    exact h.rest k (by omega)
theorem MulIn.fin {a b o0 o : List Int} {i : Nat} {c : Int} (h0 : MulOut a b o0 i) (h : MulIn a b o0 o i b.length c) (hi : i < a.length) : MulOut a b (o.set (i + b.length) c) (i + 1) := by
  have hlt : i + b.length < o.length := by rw [h.len]; omega
  refine ⟨by rw [List.length_set, h.len], limbs_set h.lim _ h.car, ?_, fun k hk => ?_⟩
  · have e0 : i + 1 + b.length = (i + b.length) + 1 := by omega
    rw [e0]
    simp only [vt]
    rw [vt_set_ge _ _ _ _ hlt (Nat.le_refl _), getD_set _ _ _ _ hlt, if_pos rfl]
    have h1 := h.eq
    have h2 := h0.eq
    rw [h1, h2]
    generalize B64 ^ i = p at *
    generalize a.getD i 0 = x at *
    generalize vt a i = A at *
    generalize vt b b.length = V at *
    grind
  · rw [getD_set _ _ _ _ hlt, if_neg (by omega), h.rest k (by omega)]
    exact h0.rest k (by omega)
theorem vt_inj {a b : List Int} (ha : Limbs a) (hb : Limbs b) : ∀ n, vt a n = vt b n → ∀ j, j < n → a.getD j 0 = b.getD j 0
  | 0, _, j, h => by omega
  | n + 1, h, j, hj => by
    have e : a.getD n 0 = b.getD n 0 := by
      rcases Int.lt_trichotomy (a.getD n 0) (b.getD n 0) with h1 | h1 | h1
      · have := vt_top ha hb h1 (n + 1) (by omega) fun j h1 h2 => by omega
        omega
      · exact h1
      · have := vt_top hb ha h1 (n + 1) (by omega) fun j h1 h2 => by omega
        omega
    by_cases hjn : j = n
    · subst hjn; exact e
    · simp only [vt, e] at h
      exact vt_inj ha hb n (by omega) j (by omega)
theorem val_inj {a b : List Int} (ha : Limbs a) (hb : Limbs b) (hl : a.length = b.length) (h : val a = val b) : a = b := by
  refine List.ext_getElem hl fun i h1 h2 => ?_
  have := vt_inj ha hb a.length (by unfold val at h; rw [h, hl]) i h1
  simpa [List.getD_eq_getElem?_getD, List.getElem?_eq_getElem h1, List.getElem?_eq_getElem h2] using this
def limbsOf (n v : Nat) : List Int := (List.range n).map fun i => ((v / 18446744073709551616 ^ i % 18446744073709551616 : Nat) : Int)
theorem limbsOf_length (n v : Nat) : (limbsOf n v).length = n := by simp [limbsOf]
theorem limbsOf_limbs (n v : Nat) : Limbs (limbsOf n v) := by
  intro x hx
  obtain ⟨i, _, rfl⟩ := List.mem_map.1 hx
  have := Nat.mod_lt (v / 18446744073709551616 ^ i) (show 18446744073709551616 > 0 by decide)
  omega
theorem limbsOf_getD {n v i : Nat} (h : i < n) : (limbsOf n v).getD i 0 = ((v / 18446744073709551616 ^ i % 18446744073709551616 : Nat) : Int) := by
  unfold limbsOf; rw [List.getD_eq_getElem?_getD, List.getElem?_map, List.getElem?_range h]; simp only [Option.map_some, Option.getD_some]
theorem limbsOf_vt (n v : Nat) : ∀ k, k ≤ n → vt (limbsOf n v) k = ((v % 18446744073709551616 ^ k : Nat) : Int)
  | 0, _ => by simp [vt, Nat.mod_one]
  | k + 1, h => by
    simp only [vt]
    rw [limbsOf_vt n v k (by omega), limbsOf_getD (by omega), Nat.pow_succ, Nat.mod_mul]
    have e : B64 ^ k = ((18446744073709551616 ^ k : Nat) : Int) := by rw [Int.natCast_pow]; rfl
    rw [e]
    generalize 18446744073709551616 ^ k = q
    generalize v / q % 18446744073709551616 = d
    rw [Int.natCast_add, Int.natCast_mul]
theorem limbsOf_val {n v : Nat} (h : v < 18446744073709551616 ^ n) : val (limbsOf n v) = v := by
  unfold val
  rw [limbsOf_length, limbsOf_vt n v n (Nat.le_refl _), Nat.mod_eq_of_lt h]
def MulO (a b : List Int) (n : Nat) (F : PV.Frame) (H : PV.Heap) : Prop :=
  ∃ (i : Nat) (o : List Int), i + n = a.length ∧ MulOut a b o i ∧ F = [(52, .int .i64 i), (51, .int .i64 a.length), (50, .ints .u64 a), (6, .sl 0 0 (a.length + b.length) true), (1, .ints .u64 b), (0, .ints .u64 a)] ∧ H = ⟨1, [(0, .ints .u64 o)], [], []⟩
def MulI (a b o0 : List Int) (i : Nat) (n : Nat) (F : PV.Frame) (H : PV.Heap) : Prop :=
  ∃ (j : Nat) (o : List Int) (c : Int), j + n = b.length ∧ MulIn a b o0 o i j c ∧ F = [(59, .int .i64 j), (58, .int .i64 b.length), (57, .ints .u64 b), (9, .int .u64 c), (8, .int .u64 (a.getD i 0)), (7, .int .i64 i), (52, .int .i64 i), (51, .int .i64 a.length), (50, .ints .u64 a), (6, .sl 0 0 (a.length + b.length) true), (1, .ints .u64 b), (0, .ints .u64 a)] ∧ H = ⟨1, [(0, .ints .u64 o)], [], []⟩
theorem vt_zeros (n : Nat) : ∀ k, vt (List.replicate n 0) k = 0
  | 0 => rfl
  | k + 1 => by
    simp only [vt]
    rw [vt_zeros n k]
    have : (List.replicate n (0 : Int)).getD k 0 = 0 := by simp [List.getD_eq_getElem?_getD, List.getElem?_replicate]; split <;> rfl
    rw [this]; simp
theorem mul_begin (a b : List Int) : MulOut a b (List.replicate (a.length + b.length) 0) 0 :=
  ⟨by simp, fun x hx => by have := List.eq_of_mem_replicate hx; subst this; decide, by rw [vt_zeros]; simp [vt], fun k _ => by simp [List.getD_eq_getElem?_getD, List.getElem?_replicate]; split <;> rfl⟩
set_option maxHeartbeats 4000000 in
theorem nat_mul (a0 b0 : List Int) (ha0 : Limbs a0) (hb0 : Limbs b0) (hla : a0.length ≤ 9223372036854775807) (hlb : b0.length ≤ 9223372036854775807) (hsa : size a0 ≤ 4096) (hsb : size b0 ≤ 4096) (h0a : 0 < size a0) (h0b : 0 < size b0) (hsum : size a0 + size b0 ≤ 4097)
    (p : List Int) (hp : p = limbsOf (size a0 + size b0) (val a0 * val b0).toNat) : Meets Tryz.prog 116 [.ints .u64 a0, .ints .u64 b0] (.tup (if 4096 < size p then [.nil, .int .i64 2] else [.ints .u64 (trim p), .int .i64 0])) := by
  refine meets_by ttOk Tryz.func116 Tryz.ntmps116 Tryz.results116 (by kernel_rfl) (c := _) rfl rfl rfl fun E => ?_
  simp only [argsFrame]
  have hsa' := size_le a0
  have hsb' := size_le b0
  have hba : decide (4096 < size a0) = false := by simp; omega
  have hbb : decide (4096 < size b0) = false := by simp; omega
  have hal : (List.take (size a0) a0).length = size a0 := by simp; omega
  have hbl : (List.take (size b0) b0).length = size b0 := by simp; omega
  have hva : vt (List.take (size a0) a0) (size a0) = val a0 := by
    rw [← vt_size a0]; exact vt_same _ fun j hj => by simp [List.getD_eq_getElem?_getD, List.getElem?_take, hj]
  have hvb : vt (List.take (size b0) b0) (size b0) = val b0 := by
    rw [← vt_size b0]; exact vt_same _ fun j hj => by simp [List.getD_eq_getElem?_getD, List.getElem?_take, hj]
  have ha := limbs_take ha0 (size a0)
  have hb := limbs_take hb0 (size b0)
  repeat' first
    | (with_reducible first | refine PW.seq ?_ | refine PW.block ?_ | refine PW.fork ?_ | refine PW.skip ?_ | refine PW.exit ?_ | refine PW.ret ?_ | refine PW.scope ?_ | refine PW.label ?_ | refine PW.goto ?_)
    | (with_reducible refine PW.region ttOk ?_ ?_
       · rfl)
    | (with_reducible refine PW.regionD ttOk mixed ?_ ?_ ?_
       · rfl
       · rfl)
    | (with_reducible refine ifW_dec (fun g => ?_) (fun g => ?_) <;> first | (exfalso; omega) | (simp -dsimp only [g, wkI]))
    | (with_reducible refine condE_dec (fun g => ?_) (fun g => ?_) <;> try (exfalso; omega))
    | (with_reducible refine condE_not (fun g => ?_) (fun g => ?_) <;> try (exfalso; omega))
    | (simp -dsimp only [↓wkA, ↓wkE, ↓wkJ, wkB, ↓tt, Nat.reduceBEq, Nat.reduceEqDiff, ↓reduceIte, Nat.reduceLT, Array.toList, Nat.reduceAdd, Nat.reduceMul, Int.reduceToNat, Int.reducePow, UInt8.reduceToNat])
    | (refine call_by (nat_big _ (by first | assumption | omega)) (views_data rfl) ⟨trivial, trivial⟩ rfl ?_)
    | (refine callD_by (nat_size _ (by first | assumption | omega)) (views_data rfl) ⟨trivial, trivial⟩ rfl ?_)
    | (simp -dsimp only [hba, hbb])
    | (simp -dsimp (disch := first | assumption | omega) only [dec_t, dec_f])
    | (refine andI ?_)
    | (simp (disch := omega) only [wkW, Int.reduceToNat, Int.reducePow])
    | fail
  · exfalso; simp (disch := omega) only [wkW, Int.reduceToNat, Int.reducePow] at *; omega
  generalize List.take (size a0) a0 = a at *
  generalize List.take (size b0) b0 = b at *
  refine PW.loopA (MulO a b) a.length [(52, .int .i64 (0 : Nat)), (51, .int .i64 a.length), (50, .ints .u64 a), (6, .sl 0 0 (a.length + b.length) true), (1, .ints .u64 b), (0, .ints .u64 a)] ⟨1, [(0, .ints .u64 (List.replicate (a.length + b.length) 0))], [], []⟩ (Sub.norm ⟨rfl, rfl, rfl, ?_, rfl, rfl, trivial⟩ ⟨?_, trivial⟩ (by simp) rfl rfl rfl rfl) ⟨0, _, by omega, mul_begin a b, rfl, rfl⟩ ?_
  · simp (disch := omega) only [↓wkA, ↓wkE, ↓wkJ, wkB, ↓tt, Nat.reduceBEq, Nat.reduceEqDiff, ↓reduceIte, Nat.reduceLT, Array.toList, Nat.reduceAdd, Nat.reduceMul, Int.reduceToNat, Int.reducePow, UInt8.reduceToNat, wkW, Int.reduceToNat, Int.reducePow]
  · simp (disch := omega) only [↓wkA, ↓wkE, ↓wkJ, wkB, ↓tt, Nat.reduceBEq, Nat.reduceEqDiff, ↓reduceIte, Nat.reduceLT, Array.toList, Nat.reduceAdd, Nat.reduceMul, Int.reduceToNat, Int.reducePow, UInt8.reduceToNat, wkW, Int.reduceToNat, Int.reducePow]
  rintro n F H ⟨i, o, hn, ho, rfl, rfl⟩
  have hol := ho.len
  by_cases hi : i < a.length
  · skip
    refine walk1 ?_
    refine PW.loopA (MulI a b o i) b.length [(59, .int .i64 (0 : Nat)), (58, .int .i64 b.length), (57, .ints .u64 b), (9, .int .u64 0), (8, .int .u64 (a.getD i 0)), (7, .int .i64 i), (52, .int .i64 i), (51, .int .i64 a.length), (50, .ints .u64 a), (6, .sl 0 0 (a.length + b.length) true), (1, .ints .u64 b), (0, .ints .u64 a)] ⟨1, [(0, .ints .u64 o)], [], []⟩ (Sub.norm ⟨rfl, rfl, rfl, rfl, rfl, rfl, rfl, rfl, rfl, rfl, rfl, rfl, trivial⟩ ⟨rfl, trivial⟩ (Nat.le_refl _) rfl rfl rfl rfl) ⟨0, o, 0, by omega, MulIn.start ho, rfl, rfl⟩ ?_
    rintro m F H ⟨j, q, c, hm, hq, rfl, rfl⟩
    have hql := hq.len
    have hc := hq.car
    by_cases hj : j < b.length
    · have hx := getD_limb ha i
      have hy := getD_limb hb j
      have hd := getD_limb hq.lim (i + j)
      have hxy := mul_bound hx hy
      simp only [B64] at hc hx hy hd
      repeat' first
        | (with_reducible first | refine PW.seq ?_ | refine PW.block ?_ | refine PW.fork ?_ | refine PW.skip ?_ | refine PW.exit ?_ | refine PW.ret ?_ | refine PW.scope ?_ | refine PW.label ?_ | refine PW.goto ?_)
        | (with_reducible refine PW.region ttOk ?_ ?_
           · rfl)
        | (with_reducible refine PW.regionD ttOk mixed ?_ ?_ ?_
           · rfl
           · rfl)
        | (with_reducible refine ifW_dec (fun g => ?_) (fun g => ?_) <;> first | (exfalso; omega) | (simp -dsimp only [g, wkI]))
        | (with_reducible refine condE_dec (fun g => ?_) (fun g => ?_) <;> try (exfalso; omega))
        | (with_reducible refine condE_not (fun g => ?_) (fun g => ?_) <;> try (exfalso; omega))
        | (simp -dsimp only [↓wkA, ↓wkE, ↓wkJ, wkB, ↓tt, Nat.reduceBEq, Nat.reduceEqDiff, ↓reduceIte, Nat.reduceLT, Array.toList, Nat.reduceAdd, Nat.reduceMul, Int.reduceToNat, Int.reducePow, UInt8.reduceToNat])
        | (refine call_by (mul64 _ _ (by assumption) (by assumption)) (views_data rfl) ⟨trivial, trivial, trivial⟩ rfl ?_)
        | (refine call_by (add64 (by omega) (by omega) (by omega)) (views_data rfl) ⟨trivial, trivial, trivial, trivial⟩ rfl ?_)
        | (simp -dsimp only [B64])
        | (simp -dsimp (disch := first | assumption | omega) only [dec_t, dec_f])
        | (refine andI ?_)
        | (simp (disch := omega) only [wkW, Int.reduceToNat, Int.reducePow])
        | fail
      have hs1 : a.getD i 0 * b.getD j 0 / 18446744073709551616 + (a.getD i 0 * b.getD j 0 % 18446744073709551616 + q.getD (i + j) 0 + 0) / 18446744073709551616 + ((a.getD i 0 * b.getD j 0 % 18446744073709551616 + q.getD (i + j) 0 + 0) % 18446744073709551616 + c + 0) / 18446744073709551616 = (a.getD i 0 * b.getD j 0 + q.getD (i + j) 0 + c) / B64 := by
        simp only [B64]; omega
      have hs2 : ((a.getD i 0 * b.getD j 0 % 18446744073709551616 + q.getD (i + j) 0 + 0) % 18446744073709551616 + c + 0) % 18446744073709551616 = (a.getD i 0 * b.getD j 0 + q.getD (i + j) 0 + c) % B64 := by
        simp only [B64]; omega
      have hstep := hq.step hi hj (s := a.getD i 0 * b.getD j 0 + q.getD (i + j) 0 + c) rfl (by simp only [B64]; omega)
      rw [hs1, hs2]
      exact Again.mk (m - 1) [(59, .int .i64 (j + 1 : Nat)), (58, .int .i64 b.length), (57, .ints .u64 b), (9, .int .u64 ((a.getD i 0 * b.getD j 0 + q.getD (i + j) 0 + c) / B64)), (8, .int .u64 (a.getD i 0)), (7, .int .i64 i), (52, .int .i64 i), (51, .int .i64 a.length), (50, .ints .u64 a), (6, .sl 0 0 (a.length + b.length) true), (1, .ints .u64 b), (0, .ints .u64 a)] ⟨1, [(0, .ints .u64 (q.set (i + j) ((a.getD i 0 * b.getD j 0 + q.getD (i + j) 0 + c) % B64)))], [], []⟩ (by omega) (Sub.norm ⟨rfl, rfl, rfl, rfl, rfl, rfl, rfl, rfl, rfl, rfl, rfl, rfl, trivial⟩ ⟨rfl, trivial⟩ (Nat.le_refl _) rfl rfl rfl rfl) ⟨j + 1, _, _, by omega, hstep, rfl, rfl⟩
    · obtain rfl : j = b.length := by omega
      refine walk1 ?_
      exact Again.mk (n - 1) [(52, .int .i64 (i + 1 : Nat)), (51, .int .i64 a.length), (50, .ints .u64 a), (6, .sl 0 0 (a.length + b.length) true), (1, .ints .u64 b), (0, .ints .u64 a)] ⟨1, [(0, .ints .u64 (q.set (i + b.length) c))], [], []⟩ (by omega) (Sub.norm ⟨rfl, rfl, rfl, rfl, rfl, rfl, trivial⟩ ⟨rfl, trivial⟩ (Nat.le_refl _) rfl rfl rfl rfl) ⟨i + 1, _, by omega, hq.fin ho hi, rfl, rfl⟩
  · obtain rfl : i = a.length := by omega
    have hpo : p = o := by
      have hlt := Int.mul_nonneg (vt_bound ha (size a0)).1 (vt_bound hb (size b0)).1
      have hval : val o = val a0 * val b0 := by unfold val; rw [hol, ho.eq, hal, hbl, hva, hvb]; rfl
      rw [hva, hvb] at hlt
      have hup := (vt_bound ho.lim o.length).2
      refine hp.trans (val_inj (limbsOf_limbs _ _) ho.lim (by rw [limbsOf_length, hol, hal, hbl]) ?_)
      rw [limbsOf_val, Int.toNat_of_nonneg hlt, hval]
      have h2 : val o < B64 ^ o.length := hup
      rw [hval, hol, hal, hbl] at h2
      have e : B64 ^ (size a0 + size b0) = ((18446744073709551616 ^ (size a0 + size b0) : Nat) : Int) := by rw [Int.natCast_pow]; rfl
      rw [e] at h2
      omega
    subst hpo
    have hcut := nat_cut p (by omega)
    by_cases hbig : 4096 < size p
    · rw [if_pos hbig] at hcut ⊢
      repeat' first
        | (with_reducible first | refine PW.seq ?_ | refine PW.block ?_ | refine PW.fork ?_ | refine PW.skip ?_ | refine PW.exit ?_ | refine PW.ret ?_ | refine PW.scope ?_ | refine PW.label ?_ | refine PW.goto ?_)
        | (with_reducible refine PW.region ttOk ?_ ?_
           · rfl)
        | (with_reducible refine PW.regionD ttOk mixed ?_ ?_ ?_
           · rfl
           · rfl)
        | (with_reducible refine ifW_dec (fun g => ?_) (fun g => ?_) <;> first | (exfalso; omega) | (simp -dsimp only [g, wkI]))
        | (with_reducible refine condE_dec (fun g => ?_) (fun g => ?_) <;> try (exfalso; omega))
        | (with_reducible refine condE_not (fun g => ?_) (fun g => ?_) <;> try (exfalso; omega))
        | (simp -dsimp only [↓wkA, ↓wkE, ↓wkJ, wkB, ↓tt, Nat.reduceBEq, Nat.reduceEqDiff, ↓reduceIte, Nat.reduceLT, Array.toList, Nat.reduceAdd, Nat.reduceMul, Int.reduceToNat, Int.reducePow, UInt8.reduceToNat])
        | (refine call_by' (args' := [.ints .u64 p]) (by simp -dsimp only [↓wkA, ↓wkE, ↓wkJ, wkB, ↓tt, Nat.reduceBEq, Nat.reduceEqDiff, ↓reduceIte, Nat.reduceLT, Array.toList, Nat.reduceAdd, Nat.reduceMul, Int.reduceToNat, Int.reducePow, UInt8.reduceToNat] <;> rw [List.take_of_length_le (by omega)]) hcut (by simp -dsimp only [okViews, ↓wkA, ↓wkE, ↓wkJ, wkB, ↓tt, Nat.reduceBEq, Nat.reduceEqDiff, ↓reduceIte, Nat.reduceLT, Array.toList, Nat.reduceAdd, Nat.reduceMul, Int.reduceToNat, Int.reducePow, UInt8.reduceToNat] <;> omega) rfl ?_)
        | (simp -dsimp (disch := first | assumption | omega) only [dec_t, dec_f])
        | (refine andI ?_)
        | (simp (disch := omega) only [wkW, Int.reduceToNat, Int.reducePow])
        | fail
    · rw [if_neg hbig] at hcut ⊢
      repeat' first
        | (with_reducible first | refine PW.seq ?_ | refine PW.block ?_ | refine PW.fork ?_ | refine PW.skip ?_ | refine PW.exit ?_ | refine PW.ret ?_ | refine PW.scope ?_ | refine PW.label ?_ | refine PW.goto ?_)
        | (with_reducible refine PW.region ttOk ?_ ?_
           · rfl)
        | (with_reducible refine PW.regionD ttOk mixed ?_ ?_ ?_
           · rfl
           · rfl)
        | (with_reducible refine ifW_dec (fun g => ?_) (fun g => ?_) <;> first | (exfalso; omega) | (simp -dsimp only [g, wkI]))
        | (with_reducible refine condE_dec (fun g => ?_) (fun g => ?_) <;> try (exfalso; omega))
        | (with_reducible refine condE_not (fun g => ?_) (fun g => ?_) <;> try (exfalso; omega))
        | (simp -dsimp only [↓wkA, ↓wkE, ↓wkJ, wkB, ↓tt, Nat.reduceBEq, Nat.reduceEqDiff, ↓reduceIte, Nat.reduceLT, Array.toList, Nat.reduceAdd, Nat.reduceMul, Int.reduceToNat, Int.reducePow, UInt8.reduceToNat])
        | (refine call_drop (args' := [.ints .u64 p]) (by simp -dsimp only [↓wkA, ↓wkE, ↓wkJ, wkB, ↓tt, Nat.reduceBEq, Nat.reduceEqDiff, ↓reduceIte, Nat.reduceLT, Array.toList, Nat.reduceAdd, Nat.reduceMul, Int.reduceToNat, Int.reducePow, UInt8.reduceToNat] <;> rw [List.take_of_length_le (by omega)]) hcut (by simp -dsimp only [okViews, ↓wkA, ↓wkE, ↓wkJ, wkB, ↓tt, Nat.reduceBEq, Nat.reduceEqDiff, ↓reduceIte, Nat.reduceLT, Array.toList, Nat.reduceAdd, Nat.reduceMul, Int.reduceToNat, Int.reducePow, UInt8.reduceToNat] <;> omega) rfl ?_)
        | (simp -dsimp (disch := first | assumption | omega) only [dec_t, dec_f])
        | (refine andI ?_)
        | (simp (disch := omega) only [wkW, Int.reduceToNat, Int.reducePow])
        | fail
def bitlen (n : Nat) : Nat := if n = 0 then 0 else n.log2 + 1
theorem bitlen_eq {n k : Nat} (h1 : 2 ^ k ≤ n) (h2 : n < 2 ^ (k + 1)) : bitlen n = k + 1 := by
  have h0 : n ≠ 0 := by have := Nat.two_pow_pos k; omega
  unfold bitlen
  rw [if_neg h0, (Nat.log2_eq_iff h0).2 ⟨h1, h2⟩]
theorem bitlen_spec {n : Nat} (h : n ≠ 0) : ∃ k, bitlen n = k + 1 ∧ 2 ^ k ≤ n ∧ n < 2 ^ (k + 1) := by
  refine ⟨n.log2, by simp [bitlen, h], ?_⟩
  exact (Nat.log2_eq_iff h).1 rfl
theorem bitlen_div {n : Nat} (m : Nat) (h : 2 ^ m ≤ n) : bitlen n = bitlen (n / 2 ^ m) + m := by
  have hp := Nat.two_pow_pos m
  have h0 : n / 2 ^ m ≠ 0 := by
    have := Nat.div_pos h hp; omega
  obtain ⟨k, hk, h1, h2⟩ := bitlen_spec h0
  rw [hk]
  have h3 : 2 ^ (k + m) ≤ n := by
    rw [Nat.pow_add]; exact (Nat.le_div_iff_mul_le hp).1 h1
  have h4 : n < 2 ^ (k + m + 1) := by
    rw [show k + m + 1 = (k + 1) + m by omega, Nat.pow_add]
    exact (Nat.div_lt_iff_lt_mul hp).1 h2
  rw [bitlen_eq h3 h4]; omega
def len8 : List Int := (List.range 256).map fun k => ((bitlen k : Nat) : Int)
theorem len8_at (L : List Int) (hL : L = len8) (k : Nat) (hk : k < 256) : L.getD k 0 = ((bitlen k : Nat) : Int) := by
  subst hL
  simp [len8, hk]
theorem len8_len (L : List Int) (hL : L = len8) : L.length = 256 := by subst hL; simp [len8]
theorem u64_shr (x : Int) (hx : 0 ≤ x) (k : Nat) : (x / 2 ^ k).toNat = x.toNat / 2 ^ k := by
  obtain ⟨n, rfl⟩ := Int.eq_ofNat_of_zero_le hx
  have : ((n : Int) / 2 ^ k) = ((n / 2 ^ k : Nat) : Int) := by simp
  rw [this, Int.toNat_natCast, Int.toNat_natCast]
theorem bl_step (x : Int) (m : Nat) (M : Int) (hM : M = 2 ^ m) (hx : M ≤ x) : ((bitlen x.toNat : Nat) : Int) = ((bitlen (x / M).toNat : Nat) : Int) + m := by
  subst hM
  have hp : (0 : Int) < 2 ^ m := Int.pow_pos (by decide)
  rw [u64_shr x (by omega), bitlen_div m (n := x.toNat) (by
    have : ((2 ^ m : Nat) : Int) ≤ x := by simpa using hx
    omega)]
  omega
theorem bitlen_le {n : Nat} {k : Nat} (h : n < 2 ^ k) : bitlen n ≤ k := by
  by_cases h0 : n = 0
  · subst h0; simp [bitlen]
  · obtain ⟨j, hj, h1, _⟩ := bitlen_spec h0
    rw [hj]
    have : 2 ^ j < 2 ^ k := Nat.lt_of_le_of_lt h1 h
    have := (Nat.pow_lt_pow_iff_right (by decide)).1 this
    omega
theorem wrapbl (y : Int) (h : 0 ≤ y ∧ y < 256) : IntKind.wrap .i64 ((bitlen y.toNat : Nat) : Int) = ((bitlen y.toNat : Nat) : Int) := by
  have := bitlen_le (n := y.toNat) (k := 8) (by simp only [Nat.reducePow]; omega)
  exact wrap_i64 (by omega)
theorem wrapbl2 (c y : Int) (hc : 0 ≤ c ∧ c ≤ 100) (h : 0 ≤ y ∧ y < 256) : IntKind.wrap .i64 (c + ((bitlen y.toNat : Nat) : Int)) = c + ((bitlen y.toNat : Nat) : Int) := by
  have := bitlen_le (n := y.toNat) (k := 8) (by simp only [Nat.reducePow]; omega)
  exact wrap_i64 (by omega)
set_option maxRecDepth 100000 in
set_option maxHeartbeats 2000000 in
theorem len64 (x : Int) (hx : 0 ≤ x ∧ x < B64) : Meets Tryz.prog 91 [.int .u64 x] (.int .i64 ((bitlen x.toNat : Nat) : Int)) := by
  refine meets_by ttOk Tryz.func91 Tryz.ntmps91 Tryz.results91 (by kernel_rfl) (c := _) rfl rfl rfl fun E => ?_
  simp only [B64] at hx
  simp only [argsFrame]
  have h32 := fun h : 4294967296 ≤ x => bl_step x 32 4294967296 (by decide) h
  have h16 := fun (y : Int) (h : 65536 ≤ y) => bl_step y 16 65536 (by decide) h
  have h8 := fun (y : Int) (h : 256 ≤ y) => bl_step y 8 256 (by decide) h
  have bound := fun (y : Int) (h : 0 ≤ y) (h2 : y < 256) => bitlen_le (n := y.toNat) (k := 8) (by simp only [Nat.reducePow]; omega)
  repeat' first
    | (simp (disch := omega) only [wkW, Int.reduceToNat, Int.reducePow])
    | (with_reducible first | refine PW.seq ?_ | refine PW.block ?_ | refine PW.fork ?_ | refine PW.skip ?_ | refine PW.exit ?_ | refine PW.ret ?_ | refine PW.scope ?_ | refine PW.label ?_ | refine PW.goto ?_)
    | (with_reducible refine PW.region ttOk ?_ ?_
       · rfl)
    | (with_reducible refine PW.regionD ttOk mixed ?_ ?_ ?_
       · rfl
       · rfl)
    | (with_reducible refine ifW_dec (fun g => ?_) (fun g => ?_) <;> first | (exfalso; omega) | (simp -dsimp only [g, wkI]))
    | (with_reducible refine condE_dec (fun g => ?_) (fun g => ?_) <;> try (exfalso; omega))
    | (with_reducible refine condE_not (fun g => ?_) (fun g => ?_) <;> try (exfalso; omega))
    | (simp -dsimp only [↓wkA, ↓wkE, ↓wkJ, wkB, ↓tt, Nat.reduceBEq, Nat.reduceEqDiff, ↓reduceIte, Nat.reduceLT, Array.toList, Nat.reduceAdd, Nat.reduceMul, Int.reduceToNat, Int.reducePow, UInt8.reduceToNat])
    | (rw [len8_len _ (by decide +kernel)])
    | (simp -dsimp (disch := first | assumption | omega) only [dec_t, dec_f])
    | (refine andI ?_)
    | (simp (disch := omega) only [wkW, Int.reduceToNat, Int.reducePow])
    | fail
  all_goals
    rw [len8_at _ (by decide +kernel) _ (by omega)]
    refine congrArg _ ?_
    try rw [h32 (by assumption)]
    try rw [h16 _ (by assumption)]
    try rw [h8 _ (by assumption)]
    simp (disch := omega) only [wrapbl, wrapbl2]
    omega
theorem leading (x : Int) (hx : 0 < x ∧ x < B64) : ∃ s : Nat, s ≤ 63 ∧ 9223372036854775808 ≤ x * 2 ^ s ∧ x * 2 ^ s < B64 ∧ Meets Tryz.prog 127 [.int .u64 x] (.int .i64 (s : Int)) := by
  simp only [B64] at hx
  obtain ⟨k, hk, h1, h2⟩ := bitlen_spec (n := x.toNat) (by omega)
  have hle : bitlen x.toNat ≤ 64 := bitlen_le (by simp only [Nat.reducePow]; omega)
  have hm := len64 x ⟨by omega, by simp only [B64]; omega⟩
  have e1 : ((2 ^ k : Nat) : Int) ≤ x := by omega
  have e2 : x < ((2 ^ (k + 1) : Nat) : Int) := by omega
  have hs : ((2 : Int) ^ (63 - k)) = ((2 ^ (63 - k) : Nat) : Int) := by simp
  have hp : (0 : Int) < ((2 ^ (63 - k) : Nat) : Int) := by have := Nat.two_pow_pos (63 - k); omega
  refine ⟨63 - k, by omega, ?_, ?_, ?_⟩
  · have h3 : ((2 ^ k : Nat) : Int) * ((2 ^ (63 - k) : Nat) : Int) = 9223372036854775808 := by
      rw [← Int.natCast_mul, ← Nat.pow_add, show k + (63 - k) = 63 by omega]; rfl
    rw [hs, ← h3]
    exact Int.mul_le_mul_of_nonneg_right e1 (by omega)
  · have h3 : ((2 ^ (k + 1) : Nat) : Int) * ((2 ^ (63 - k) : Nat) : Int) = B64 := by
      rw [← Int.natCast_mul, ← Nat.pow_add, show k + 1 + (63 - k) = 64 by omega]; rfl
    rw [hs, ← h3]
    exact Int.mul_lt_mul_of_pos_right e2 hp
  · refine meets_by ttOk Tryz.func127 Tryz.ntmps127 Tryz.results127 (by kernel_rfl) (c := _) rfl rfl rfl fun E => ?_
    simp only [argsFrame]
    refine walk1 ?_
    refine congrArg _ ?_
    omega
structure Half (u y1 y0 m : Int) : Prop where
  hy1 : 2147483648 ≤ y1 ∧ y1 < 4294967296
  hy0 : 0 ≤ y0 ∧ y0 < 4294967296
  hm : 0 ≤ m ∧ m < 4294967296
  hu : 0 ≤ u ∧ u < y1 * 4294967296 + y0
abbrev halfQ (u y1 y0 m : Int) : Int := (u * 4294967296 + m) / (y1 * 4294967296 + y0)
structure Est (u y1 y0 m q r : Int) : Prop where
  he : q * y1 + r = u
  hr : 0 ≤ r
  lo : halfQ u y1 y0 m ≤ q
  hi : q ≤ 4294967297
  q0 : 0 ≤ q
section
variable {u y1 y0 m q r : Int}
theorem half_ring (q y1 y0 : Int) : q * (y1 * 4294967296 + y0) = (q * y1) * 4294967296 + q * y0 := by grind
theorem half_le (h : Half u y1 y0 m) (he : q * y1 + r = u) (hq : q * y0 ≤ r * 4294967296 + m) : q ≤ halfQ u y1 y0 m := by
  have := h.hy1; have := h.hy0
  rw [halfQ, Int.le_ediv_iff_mul_le (by omega), half_ring]
  omega
theorem half_lt (h : Half u y1 y0 m) (he : q * y1 + r = u) (hq : r * 4294967296 + m < q * y0) : halfQ u y1 y0 m < q := by
  have := h.hy1; have := h.hy0
  rw [halfQ, Int.ediv_lt_iff_lt_mul (by omega), half_ring]
  omega
theorem half_top (h : Half u y1 y0 m) : halfQ u y1 y0 m < 4294967296 := by
  have := h.hy1; have := h.hy0; have := h.hm; have := h.hu
  rw [halfQ, Int.ediv_lt_iff_lt_mul (by omega)]
  omega
theorem half_nonneg (h : Half u y1 y0 m) : 0 ≤ halfQ u y1 y0 m := by
  have := h.hy1; have := h.hy0; have := h.hm; have := h.hu
  exact Int.ediv_nonneg (by omega) (by omega)
theorem est_init (h : Half u y1 y0 m) : Est u y1 y0 m (u / y1) (u - u / y1 * y1) ∧ u - u / y1 * y1 < y1 := by
  have h1 := h.hy1; have h2 := h.hy0; have h3 := h.hm; have h4 := h.hu
  have e := Int.emod_add_mul_ediv u y1
  have e1 := Int.emod_nonneg u (show y1 ≠ 0 by omega)
  have e2 := Int.emod_lt_of_pos u (show 0 < y1 by omega)
  have e3 : y1 * (u / y1) = u / y1 * y1 := Int.mul_comm _ _
  refine ⟨⟨by omega, by omega, ?_, ?_, Int.ediv_nonneg (by omega) (by omega)⟩, by omega⟩
  · rw [Int.le_ediv_iff_mul_le (by omega)]
    have h5 := Int.ediv_mul_le (u * 4294967296 + m) (show y1 * 4294967296 + y0 ≠ 0 by omega)
    rw [half_ring] at h5
    have h6 : 0 ≤ halfQ u y1 y0 m * y0 := Int.mul_nonneg (half_nonneg h) h2.1
    simp only [halfQ] at h6 ⊢
    omega
  · have : u / y1 < 4294967298 := by
      rw [Int.ediv_lt_iff_lt_mul (by omega)]
      omega
    omega
theorem est_prod (h : Half u y1 y0 m) (e : Est u y1 y0 m q r) : 0 ≤ q * y0 ∧ q * y0 ≤ 18446744078004518911 ∧ (q ≤ 4294967296 → q * y0 ≤ 18446744069414584320) ∧ (q < 4294967296 → q * y0 ≤ 18446744065119617025) := by
  have h2 := h.hy0
  refine ⟨Int.mul_nonneg e.q0 h2.1, ?_, fun hq => ?_, fun hq => ?_⟩
  · exact Int.le_trans (Int.mul_le_mul e.hi (show y0 ≤ 4294967295 by omega) h2.1 (by omega)) (by decide)
  · exact Int.le_trans (Int.mul_le_mul hq (show y0 ≤ 4294967295 by omega) h2.1 (by omega)) (by decide)
  · exact Int.le_trans (Int.mul_le_mul (show q ≤ 4294967295 by omega) (show y0 ≤ 4294967295 by omega) h2.1 (by omega)) (by decide)
theorem est_dec (h : Half u y1 y0 m) (e : Est u y1 y0 m q r) (hc : 4294967296 ≤ q ∨ r * 4294967296 + m < q * y0) : Est u y1 y0 m (q - 1) (r + y1) ∧ 1 ≤ q := by
  have h1 := h.hy1
  have hlt : halfQ u y1 y0 m < q := by
    rcases hc with hc | hc
    · have := half_top h; omega
    · exact half_lt h e.he hc
  have := half_nonneg h
  have e1 := e.he; have e2 := e.hr; have e3 := e.hi
  exact ⟨⟨by rw [Int.sub_mul]; omega, by omega, by omega, by omega, by omega⟩, by omega⟩
theorem est_stop (h : Half u y1 y0 m) (e : Est u y1 y0 m q r) (hc : q * y0 ≤ r * 4294967296 + m) : q = halfQ u y1 y0 m := by
  have := half_le h e.he hc
  have := e.lo
  omega
theorem est_over (h : Half u y1 y0 m) (e : Est u y1 y0 m q r) (hq : q ≤ 4294967296) (hr : 4294967296 ≤ r) : q = halfQ u y1 y0 m := by
  refine est_stop h e ?_
  have := (est_prod h e).2.2.1 hq
  have := h.hm
  omega
end
theorem or_low (x z : Int) (s : Nat) (hx : 0 ≤ x) (hz : 0 ≤ z ∧ z < 2 ^ s) (hs : x * 2 ^ s + z ≤ 18446744073709551615) : ibits .or .u64 (x * 2 ^ s) z = x * 2 ^ s + z := by
  obtain ⟨a, rfl⟩ := Int.eq_ofNat_of_zero_le hx
  obtain ⟨c, rfl⟩ := Int.eq_ofNat_of_zero_le hz.1
  have e1 : ((a : Int) * 2 ^ s) = ((a * 2 ^ s : Nat) : Int) := by simp
  have hc : c < 2 ^ s := by
    have : (c : Int) < ((2 ^ s : Nat) : Int) := by simpa using hz.2
    omega
  rw [e1] at hs ⊢
  change IntKind.wrap .u64 (((BitVec.ofInt 64 ((a * 2 ^ s : Nat) : Int) ||| BitVec.ofInt 64 (c : Int)).toNat : Nat) : Int) = _
  rw [BitVec.toNat_or, BitVec.toNat_ofInt, BitVec.toNat_ofInt]
  have e2 : ((((a * 2 ^ s : Nat) : Int)) % ((2 ^ 64 : Nat) : Int)).toNat = a * 2 ^ s := by rw [Int.emod_eq_of_lt (by omega) (by simp only [Nat.reducePow]; omega), Int.toNat_natCast]
  have e3 : ((c : Int) % ((2 ^ 64 : Nat) : Int)).toNat = c := by rw [Int.emod_eq_of_lt (by omega) (by simp only [Nat.reducePow]; omega), Int.toNat_natCast]
  rw [e2, e3]
  have e4 : a * 2 ^ s ||| c = a * 2 ^ s + c := by
    rw [← Nat.shiftLeft_eq, ← Nat.shiftLeft_add_eq_or_of_lt hc]
  rw [e4, wrap_u64 (by omega)]
  simp
theorem and32' {a : Int} (ha : 0 ≤ a ∧ a ≤ 18446744073709551615) : ibits .and .u64 a 4294967295 = a % 4294967296 := and32 ha
abbrev fA (Y y1 y0 u m1 m0 s q r : Int) : PV.Frame := [(15, .int .u64 q), (16, .int .u64 r), (2, .int .u64 Y), (9, .int .u64 y1), (10, .int .u64 y0), (11, .int .u64 u), (13, .int .u64 m1), (14, .int .u64 m0), (8, .int .u64 s)]
abbrev fA' (Y y1 y0 u m1 m0 s : Int) : PV.Frame := [(15, .int .u64 (halfQ u y1 y0 m1)), (2, .int .u64 Y), (9, .int .u64 y1), (10, .int .u64 y0), (11, .int .u64 u), (13, .int .u64 m1), (14, .int .u64 m0), (8, .int .u64 s)]
abbrev fB (Y y1 y0 q1 u m0 s q r : Int) : PV.Frame := [(18, .int .u64 q), (16, .int .u64 r), (2, .int .u64 Y), (9, .int .u64 y1), (10, .int .u64 y0), (17, .int .u64 u), (15, .int .u64 q1), (14, .int .u64 m0), (8, .int .u64 s)]
abbrev fB' (Y y1 y0 q1 u m0 s : Int) : PV.Frame := [(18, .int .u64 (halfQ u y1 y0 m0)), (2, .int .u64 Y), (17, .int .u64 u), (15, .int .u64 q1), (14, .int .u64 m0), (8, .int .u64 s)]
def DivA (Y y1 y0 u m1 m0 s : Int) (n : Nat) (F : PV.Frame) (H : PV.Heap) : Prop :=
  ∃ q r, Est u y1 y0 m1 q r ∧ r < 4294967296 ∧ q.toNat = n ∧ F = [(15, .int .u64 q), (16, .int .u64 r), (2, .int .u64 Y), (9, .int .u64 y1), (10, .int .u64 y0), (11, .int .u64 u), (13, .int .u64 m1), (14, .int .u64 m0), (8, .int .u64 s)] ∧ H = ⟨0, [], [], []⟩
def DivA' (Y y1 y0 u m1 m0 s : Int) (F : PV.Frame) (H : PV.Heap) : Prop :=
  F = [(15, .int .u64 (halfQ u y1 y0 m1)), (2, .int .u64 Y), (9, .int .u64 y1), (10, .int .u64 y0), (11, .int .u64 u), (13, .int .u64 m1), (14, .int .u64 m0), (8, .int .u64 s)] ∧ H = ⟨0, [], [], []⟩
def DivB (Y y1 y0 q1 u m0 s : Int) (n : Nat) (F : PV.Frame) (H : PV.Heap) : Prop :=
  ∃ q r, Est u y1 y0 m0 q r ∧ r < 4294967296 ∧ q.toNat = n ∧ F = [(18, .int .u64 q), (16, .int .u64 r), (2, .int .u64 Y), (9, .int .u64 y1), (10, .int .u64 y0), (17, .int .u64 u), (15, .int .u64 q1), (14, .int .u64 m0), (8, .int .u64 s)] ∧ H = ⟨0, [], [], []⟩
def DivB' (Y y1 y0 q1 u m0 s : Int) (F : PV.Frame) (H : PV.Heap) : Prop :=
  F = [(18, .int .u64 (halfQ u y1 y0 m0)), (2, .int .u64 Y), (17, .int .u64 u), (15, .int .u64 q1), (14, .int .u64 m0), (8, .int .u64 s)] ∧ H = ⟨0, [], [], []⟩
set_option maxHeartbeats 2000000 in
theorem div64 (hi lo y : Int) (hy : 0 < y ∧ y < B64) (hh : 0 ≤ hi ∧ hi < y) (hl : 0 ≤ lo ∧ lo < B64) : Meets Tryz.prog 126 [.int .u64 hi, .int .u64 lo, .int .u64 y] (.tup [.int .u64 ((hi * B64 + lo) / y), .int .u64 ((hi * B64 + lo) % y)]) := by
  obtain ⟨s, hs, hn1, hn2, hm⟩ := leading y hy
  simp only [B64] at *
  have hs1 : ((s : Int)).toNat = s := Int.toNat_natCast s
  have hs2 : min s 64 = s := by omega
  have hs3 : (64 - (s : Int)).toNat = 64 - s := by omega
  have hs4 : min (64 - s) 64 = 64 - s := by omega
  have hBC : (2 : Int) ^ (64 - s) * 2 ^ s = 18446744073709551616 := by
    rw [← Int.pow_add, show 64 - s + s = 64 by omega]; rfl
  have hor := or_low hi
  obtain ⟨B, hB'⟩ : ∃ B, (2 : Int) ^ s = B := ⟨_, rfl⟩
  obtain ⟨C, hC⟩ : ∃ C, (2 : Int) ^ (64 - s) = C := ⟨_, rfl⟩
  have hB0 : 0 < B := by rw [← hB']; exact Int.pow_pos (by decide)
  have hC0 : 0 < C := by rw [← hC]; exact Int.pow_pos (by decide)
  have hor := fun z => hor z s hh.1
  rw [hB'] at hn1 hn2 hBC
  simp only [hB'] at hor
  rw [hC] at hBC
  have hd1 : 0 ≤ lo / C := Int.ediv_nonneg hl.1 (by omega)
  have hd2 : lo / C < B := by
    rw [Int.ediv_lt_iff_lt_mul hC0, Int.mul_comm]; omega
  have hhB : 0 ≤ hi * B := Int.mul_nonneg hh.1 (by omega)
  have hhB2 : (hi + 1) * B ≤ y * B := Int.mul_le_mul_of_nonneg_right (by omega) (by omega)
  have hhB3 : (hi + 1) * B = hi * B + B := by grind
  have hfd : lo.fdiv C = lo / C := fdiv_pos (by omega)
  have hwB : IntKind.wrap .u64 (hi * B) = hi * B := wrap_u64 (by omega)
  have hwY : IntKind.wrap .u64 (y * B) = y * B := wrap_u64 (by omega)
  have hoU := hor (lo / C) ⟨hd1, hd2⟩ (by omega)
  have hL : IntKind.wrap .u64 (lo * B) = lo % C * B := by
    rw [wrap_u64']
    have e1 := Int.emod_add_mul_ediv lo C
    have e2 : lo * B = lo % C * B + 18446744073709551616 * (lo / C) := by
      have e3 : lo * B = (lo % C + C * (lo / C)) * B := by rw [e1]
      rw [e3, ← hBC]; grind
    have e4 := Int.emod_nonneg lo (show C ≠ 0 by omega)
    have e5 := Int.emod_lt_of_pos lo hC0
    have e6 : 0 ≤ lo % C * B := Int.mul_nonneg e4 (by omega)
    have e7 : (lo % C + 1) * B ≤ C * B := Int.mul_le_mul_of_nonneg_right (by omega) (by omega)
    have e8 : (lo % C + 1) * B = lo % C * B + B := by grind
    rw [e2]; omega
  have hL0 : 0 ≤ lo % C * B ∧ lo % C * B < 18446744073709551616 := by rw [← hL, wrap_u64']; omega
  have hN : (hi * 18446744073709551616 + lo) * B = (hi * B + lo / C) * 18446744073709551616 + lo % C * B := by
    have e1 := Int.emod_add_mul_ediv lo C
    have e3 : lo * B = (lo % C + C * (lo / C)) * B := by rw [e1]
    have e4 : (hi * 18446744073709551616 + lo) * B = hi * B * 18446744073709551616 + lo * B := by grind
    rw [e4, e3, ← hBC]; grind
  have hU0 : 0 ≤ hi * B + lo / C ∧ hi * B + lo / C < y * B := by omega
  obtain ⟨U, hU⟩ : ∃ U, hi * B + lo / C = U := ⟨_, rfl⟩
  obtain ⟨L, hLL⟩ : ∃ L, lo % C * B = L := ⟨_, rfl⟩
  obtain ⟨Y, hY⟩ : ∃ Y, y * B = Y := ⟨_, rfl⟩
  rw [hU] at hoU hN hU0
  rw [hLL] at hL hL0 hN
  rw [hY] at hn1 hn2 hwY hU0
  obtain ⟨y1, hy1⟩ : ∃ v, Y / 4294967296 = v := ⟨_, rfl⟩
  obtain ⟨y0, hy0⟩ : ∃ v, Y % 4294967296 = v := ⟨_, rfl⟩
  obtain ⟨m1, hm1⟩ : ∃ v, L / 4294967296 = v := ⟨_, rfl⟩
  obtain ⟨m0, hm0⟩ : ∃ v, L % 4294967296 = v := ⟨_, rfl⟩
  have hYe : Y = y1 * 4294967296 + y0 := by omega
  have hA : Half U y1 y0 m1 := ⟨by omega, by omega, by omega, by omega⟩
  obtain ⟨hi1, hi2⟩ := est_init hA
  have hwq : IntKind.wrap .u64 (U.tdiv y1) = U / y1 := by
    have := hi1.hi; have := hi1.q0
    rw [tdiv_pos hU0.1]; exact wrap_u64 (by omega)
  have hwp : IntKind.wrap .u64 (U / y1 * y1) = U / y1 * y1 := by
    have := hi1.he; have := hi1.hr
    have h1 : 0 ≤ U / y1 * y1 := Int.mul_nonneg hi1.q0 (by omega)
    exact wrap_u64 (by omega)
  have hwr : IntKind.wrap .u64 (U - U / y1 * y1) = U - U / y1 * y1 := by
    have := hi1.hr
    exact wrap_u64 (by omega)
  have hay : ibits .and .u64 Y 4294967295 = y0 := by rw [and32' (by omega), hy0]
  have haL : ibits .and .u64 L 4294967295 = m0 := by rw [and32' (by omega), hm0]
  refine meets_by ttOk Tryz.func126 Tryz.ntmps126 Tryz.results126 (by kernel_rfl) (c := _) rfl rfl rfl fun E => ?_
  simp only [argsFrame]
  repeat' first
    | (simp only [hs1, hs2, hs3, hs4, hB', hC, hwB, hfd, hoU, hL, hY, hwY, hay, haL, hy1, hm1, hwq, hwp, hwr])
    | (simp (disch := omega) only [hs1, hs2, hs3, hs4, wkW, Int.reduceToNat, Int.reducePow])
    | (with_reducible first | refine PW.seq ?_ | refine PW.block ?_ | refine PW.fork ?_ | refine PW.skip ?_ | refine PW.exit ?_ | refine PW.ret ?_ | refine PW.scope ?_ | refine PW.label ?_ | refine PW.goto ?_)
    | (with_reducible refine PW.region ttOk ?_ ?_
       · rfl)
    | (with_reducible refine PW.regionD ttOk mixed ?_ ?_ ?_
       · rfl
       · rfl)
    | (with_reducible refine ifW_dec (fun g => ?_) (fun g => ?_) <;> first | (exfalso; omega) | (simp -dsimp only [g, wkI]))
    | (with_reducible refine condE_dec (fun g => ?_) (fun g => ?_) <;> try (exfalso; omega))
    | (with_reducible refine condE_not (fun g => ?_) (fun g => ?_) <;> try (exfalso; omega))
    | (simp -dsimp only [↓wkA, ↓wkE, ↓wkJ, wkB, ↓tt, Nat.reduceBEq, Nat.reduceEqDiff, ↓reduceIte, Nat.reduceLT, Array.toList, Nat.reduceAdd, Nat.reduceMul, Int.reduceToNat, Int.reducePow, UInt8.reduceToNat])
    | (refine call_by hm (views_data rfl) ⟨trivial, trivial⟩ rfl ?_)
    | (simp -dsimp (disch := first | assumption | omega) only [dec_t, dec_f])
    | (refine andI ?_)
    | (simp (disch := omega) only [wkW, Int.reduceToNat, Int.reducePow])
    | fail
  · subst g
    have h1 : 0 ≤ lo / y := Int.ediv_nonneg hl.1 (by omega)
    have h2 : lo / y ≤ lo := Int.ediv_le_self _ hl.1
    simp (disch := omega) only [wkW, Int.reduceToNat, Int.reducePow, Int.zero_mul, Int.zero_add]
  refine PW.meetB (DivA' Y y1 y0 U m1 m0 s) ?_ ?_
  · refine PW.loopA (DivA Y y1 y0 U m1 m0 s) (U / y1).toNat [(15, .int .u64 (U / y1)), (16, .int .u64 (U - U / y1 * y1)), (2, .int .u64 Y), (9, .int .u64 y1), (10, .int .u64 y0), (11, .int .u64 U), (13, .int .u64 m1), (14, .int .u64 m0), (8, .int .u64 s)] ⟨0, [], [], []⟩ (Sub.norm ⟨rfl, rfl, rfl, rfl, rfl, rfl, rfl, rfl, rfl, trivial⟩ trivial (by simp) rfl rfl rfl rfl) ⟨_, _, hi1, by omega, rfl, rfl, rfl⟩ ?_
    rintro n F H ⟨q, r, hq, hr, hn, rfl, rfl⟩
    have hq1 := hq.q0; have hq2 := hq.hi; have hq3 := hq.hr
    have hp := est_prod hA hq
    have hz : q ≤ 0 → q * y0 ≤ 0 := fun h => by have : q = 0 := by omega
                                                subst this; simp
    repeat' first
      | (simp (disch := omega) only [wkW, Int.reduceToNat, Int.reducePow])
      | (with_reducible first | refine PW.seq ?_ | refine PW.block ?_ | refine PW.fork ?_ | refine PW.skip ?_ | refine PW.exit ?_ | refine PW.ret ?_ | refine PW.scope ?_ | refine PW.label ?_ | refine PW.goto ?_)
      | (with_reducible refine PW.region ttOk ?_ ?_
         · rfl)
      | (with_reducible refine PW.regionD ttOk mixed ?_ ?_ ?_
         · rfl
         · rfl)
      | (with_reducible refine ifW_dec (fun g => ?_) (fun g => ?_) <;> first | (exfalso; omega) | (simp -dsimp only [g, wkI]))
      | (with_reducible refine condE_dec (fun g => ?_) (fun g => ?_) <;> try (exfalso; omega))
      | (with_reducible refine condE_not (fun g => ?_) (fun g => ?_) <;> try (exfalso; omega))
      | (simp -dsimp only [↓wkA, ↓wkE, ↓wkJ, wkB, ↓tt, Nat.reduceBEq, Nat.reduceEqDiff, ↓reduceIte, Nat.reduceLT, Array.toList, Nat.reduceAdd, Nat.reduceMul, Int.reduceToNat, Int.reducePow, UInt8.reduceToNat])
      | (simp -dsimp (disch := first | assumption | omega) only [dec_t, dec_f])
      | (refine andI ?_)
      | (simp (disch := omega) only [wkW, Int.reduceToNat, Int.reducePow])
      | fail
    · obtain ⟨h1, h2⟩ := est_dec hA hq (.inl (by omega))
      have h3 := est_over hA h1 (by omega) (by omega)
      exact Meet.mk (fA' Y y1 y0 U m1 m0 s) ⟨0, [], [], []⟩ (Sub.norm ⟨congrArg (PV.int .u64) h3, rfl, rfl, rfl, rfl, rfl, rfl, rfl, trivial⟩ trivial (by simp) rfl rfl rfl rfl) ⟨rfl, rfl⟩
    · obtain ⟨h1, h2⟩ := est_dec hA hq (.inl (by omega))
      exact Again.mk (q - 1).toNat (fA Y y1 y0 U m1 m0 s (q - 1) (r + y1)) ⟨0, [], [], []⟩ (by omega) (Sub.norm ⟨rfl, rfl, rfl, rfl, rfl, rfl, rfl, rfl, rfl, trivial⟩ trivial (by simp) rfl rfl rfl rfl) ⟨_, _, h1, by omega, rfl, rfl, rfl⟩
    · obtain ⟨h1, h2⟩ := est_dec hA hq (.inr (by omega))
      have h3 := est_over hA h1 (by omega) (by omega)
      exact Meet.mk (fA' Y y1 y0 U m1 m0 s) ⟨0, [], [], []⟩ (Sub.norm ⟨congrArg (PV.int .u64) h3, rfl, rfl, rfl, rfl, rfl, rfl, rfl, trivial⟩ trivial (by simp) rfl rfl rfl rfl) ⟨rfl, rfl⟩
    · obtain ⟨h1, h2⟩ := est_dec hA hq (.inr (by omega))
      exact Again.mk (q - 1).toNat (fA Y y1 y0 U m1 m0 s (q - 1) (r + y1)) ⟨0, [], [], []⟩ (by omega) (Sub.norm ⟨rfl, rfl, rfl, rfl, rfl, rfl, rfl, rfl, rfl, trivial⟩ trivial (by simp) rfl rfl rfl rfl) ⟨_, _, h1, by omega, rfl, rfl, rfl⟩
    · have h3 := est_stop hA hq (by omega)
      exact Meet.mk (fA' Y y1 y0 U m1 m0 s) ⟨0, [], [], []⟩ (Sub.norm ⟨congrArg (PV.int .u64) h3, rfl, rfl, rfl, rfl, rfl, rfl, rfl, trivial⟩ trivial (by simp) rfl rfl rfl rfl) ⟨rfl, rfl⟩
  · rintro F H ⟨rfl, rfl⟩
    have hQt := half_top hA
    have hQn := half_nonneg hA
    have hQe := Int.emod_add_mul_ediv (U * 4294967296 + m1) Y
    have hVn := Int.emod_nonneg (U * 4294967296 + m1) (show Y ≠ 0 by omega)
    have hVl := Int.emod_lt_of_pos (U * 4294967296 + m1) (show 0 < Y by omega)
    rw [show halfQ U y1 y0 m1 = (U * 4294967296 + m1) / Y by rw [halfQ, hYe]] at hQt hQn ⊢
    obtain ⟨Q1, hQ1⟩ : ∃ v, (U * 4294967296 + m1) / Y = v := ⟨_, rfl⟩
    obtain ⟨V, hV⟩ : ∃ v, (U * 4294967296 + m1) % Y = v := ⟨_, rfl⟩
    simp only [hQ1, hV] at hQt hQn hQe hVn hVl ⊢
    have hYQ : Y * Q1 = Q1 * Y := Int.mul_comm _ _
    have hVw : IntKind.wrap .u64 (IntKind.wrap .u64 (IntKind.wrap .u64 (U * 4294967296) + m1) - IntKind.wrap .u64 (Q1 * Y)) = V := by
      simp only [wrap_u64']; omega
    have hB : Half V y1 y0 m0 := ⟨by omega, by omega, by omega, by omega⟩
    obtain ⟨hi1, hi2⟩ := est_init hB
    have hwq : IntKind.wrap .u64 (V.tdiv y1) = V / y1 := by
      have := hi1.hi; have := hi1.q0
      rw [tdiv_pos hVn]; exact wrap_u64 (by omega)
    have hwp : IntKind.wrap .u64 (V / y1 * y1) = V / y1 * y1 := by
      have := hi1.he; have := hi1.hr
      have h1 : 0 ≤ V / y1 * y1 := Int.mul_nonneg hi1.q0 (by omega)
      exact wrap_u64 (by omega)
    have hwr : IntKind.wrap .u64 (V - V / y1 * y1) = V - V / y1 * y1 := by
      have := hi1.hr
      exact wrap_u64 (by omega)
    have W := cj hVw (cj hwq (cj hwp hwr))
    refine walk1 ?_
    refine PW.meetB (DivB' Y y1 y0 Q1 V m0 s) ?_ ?_
    · refine PW.loopA (DivB Y y1 y0 Q1 V m0 s) (V / y1).toNat [(18, .int .u64 (V / y1)), (16, .int .u64 (V - V / y1 * y1)), (2, .int .u64 Y), (9, .int .u64 y1), (10, .int .u64 y0), (17, .int .u64 V), (15, .int .u64 Q1), (14, .int .u64 m0), (8, .int .u64 s)] ⟨0, [], [], []⟩ (Sub.norm ⟨rfl, rfl, rfl, rfl, rfl, rfl, rfl, rfl, rfl, trivial⟩ trivial (by simp) rfl rfl rfl rfl) ⟨_, _, hi1, by omega, rfl, rfl, rfl⟩ ?_
      rintro n F H ⟨q, r, hq, hr, hn, rfl, rfl⟩
      have hq1 := hq.q0; have hq2 := hq.hi; have hq3 := hq.hr
      have hp := est_prod hB hq
      have hz : q ≤ 0 → q * y0 ≤ 0 := fun h => by have : q = 0 := by omega
                                                  subst this; simp
      repeat' first
        | (simp (disch := omega) only [wkW, Int.reduceToNat, Int.reducePow])
        | (with_reducible first | refine PW.seq ?_ | refine PW.block ?_ | refine PW.fork ?_ | refine PW.skip ?_ | refine PW.exit ?_ | refine PW.ret ?_ | refine PW.scope ?_ | refine PW.label ?_ | refine PW.goto ?_)
        | (with_reducible refine PW.region ttOk ?_ ?_
           · rfl)
        | (with_reducible refine PW.regionD ttOk mixed ?_ ?_ ?_
           · rfl
           · rfl)
        | (with_reducible refine ifW_dec (fun g => ?_) (fun g => ?_) <;> first | (exfalso; omega) | (simp -dsimp only [g, wkI]))
        | (with_reducible refine condE_dec (fun g => ?_) (fun g => ?_) <;> try (exfalso; omega))
        | (with_reducible refine condE_not (fun g => ?_) (fun g => ?_) <;> try (exfalso; omega))
        | (simp -dsimp only [↓wkA, ↓wkE, ↓wkJ, wkB, ↓tt, Nat.reduceBEq, Nat.reduceEqDiff, ↓reduceIte, Nat.reduceLT, Array.toList, Nat.reduceAdd, Nat.reduceMul, Int.reduceToNat, Int.reducePow, UInt8.reduceToNat])
        | (simp -dsimp (disch := first | assumption | omega) only [dec_t, dec_f])
        | (refine andI ?_)
        | (simp (disch := omega) only [wkW, Int.reduceToNat, Int.reducePow])
        | fail
      · obtain ⟨h1, h2⟩ := est_dec hB hq (.inl (by omega))
        have h3 := est_over hB h1 (by omega) (by omega)
        exact Meet.mk (fB' Y y1 y0 Q1 V m0 s) ⟨0, [], [], []⟩ (Sub.norm ⟨congrArg (PV.int .u64) h3, rfl, rfl, rfl, rfl, rfl, trivial⟩ trivial (by simp) rfl rfl rfl rfl) ⟨rfl, rfl⟩
      · obtain ⟨h1, h2⟩ := est_dec hB hq (.inl (by omega))
        exact Again.mk (q - 1).toNat (fB Y y1 y0 Q1 V m0 s (q - 1) (r + y1)) ⟨0, [], [], []⟩ (by omega) (Sub.norm ⟨rfl, rfl, rfl, rfl, rfl, rfl, rfl, rfl, rfl, trivial⟩ trivial (by simp) rfl rfl rfl rfl) ⟨_, _, h1, by omega, rfl, rfl, rfl⟩
      · obtain ⟨h1, h2⟩ := est_dec hB hq (.inr (by omega))
        have h3 := est_over hB h1 (by omega) (by omega)
        exact Meet.mk (fB' Y y1 y0 Q1 V m0 s) ⟨0, [], [], []⟩ (Sub.norm ⟨congrArg (PV.int .u64) h3, rfl, rfl, rfl, rfl, rfl, trivial⟩ trivial (by simp) rfl rfl rfl rfl) ⟨rfl, rfl⟩
      · obtain ⟨h1, h2⟩ := est_dec hB hq (.inr (by omega))
        exact Again.mk (q - 1).toNat (fB Y y1 y0 Q1 V m0 s (q - 1) (r + y1)) ⟨0, [], [], []⟩ (by omega) (Sub.norm ⟨rfl, rfl, rfl, rfl, rfl, rfl, rfl, rfl, rfl, trivial⟩ trivial (by simp) rfl rfl rfl rfl) ⟨_, _, h1, by omega, rfl, rfl, rfl⟩
      · have h3 := est_stop hB hq (by omega)
        exact Meet.mk (fB' Y y1 y0 Q1 V m0 s) ⟨0, [], [], []⟩ (Sub.norm ⟨congrArg (PV.int .u64) h3, rfl, rfl, rfl, rfl, rfl, trivial⟩ trivial (by simp) rfl rfl rfl rfl) ⟨rfl, rfl⟩
    · rintro F H ⟨rfl, rfl⟩
      have hQt2 := half_top hB
      have hQn2 := half_nonneg hB
      have hQe2 := Int.emod_add_mul_ediv (V * 4294967296 + m0) Y
      have hRn := Int.emod_nonneg (V * 4294967296 + m0) (show Y ≠ 0 by omega)
      have hRl := Int.emod_lt_of_pos (V * 4294967296 + m0) (show 0 < Y by omega)
      rw [show halfQ V y1 y0 m0 = (V * 4294967296 + m0) / Y by rw [halfQ, hYe]] at hQt2 hQn2 ⊢
      obtain ⟨Q0, hQ0⟩ : ∃ v, (V * 4294967296 + m0) / Y = v := ⟨_, rfl⟩
      obtain ⟨R, hR⟩ : ∃ v, (V * 4294967296 + m0) % Y = v := ⟨_, rfl⟩
      simp only [hQ0, hR] at hQt2 hQn2 hQe2 hRn hRl ⊢
      have hYQ2 : Y * Q0 = Q0 * Y := Int.mul_comm _ _
      have hRw : IntKind.wrap .u64 (IntKind.wrap .u64 (IntKind.wrap .u64 (V * 4294967296) + m0) - IntKind.wrap .u64 (Q0 * Y)) = R := by
        simp only [wrap_u64']; omega
      have hfd2 : R.fdiv B = R / B := fdiv_pos (by omega)
      -- what the whole comes to
      have key : (hi * 18446744073709551616 + lo) / y = Q1 * 4294967296 + Q0 ∧ (hi * 18446744073709551616 + lo) % y = R / B := by
        have e1 := Int.emod_add_mul_ediv (hi * 18446744073709551616 + lo) y
        have e2 := Int.emod_nonneg (hi * 18446744073709551616 + lo) (show y ≠ 0 by omega)
        have e3 := Int.emod_lt_of_pos (hi * 18446744073709551616 + lo) (show 0 < y by omega)
        generalize (hi * 18446744073709551616 + lo) / y = qd at *
        generalize (hi * 18446744073709551616 + lo) % y = rd at *
        have e4 : 0 ≤ rd * B := Int.mul_nonneg e2 (by omega)
        have e5 : (rd + 1) * B ≤ y * B := Int.mul_le_mul_of_nonneg_right (by omega) (by omega)
        have e6 : (rd + 1) * B = rd * B + B := by grind
        have u1 := (Int.ediv_emod_unique (a := U * 18446744073709551616 + L) (r := rd * B) (q := qd) (show 0 < Y by omega)).2 ⟨by rw [← hN, ← e1, ← hY]; grind, e4, by omega⟩
        have u2 := (Int.ediv_emod_unique (a := U * 18446744073709551616 + L) (r := R) (q := Q1 * 4294967296 + Q0) (show 0 < Y by omega)).2 ⟨by
          have e7 : Y * (Q1 * 4294967296 + Q0) = Y * Q1 * 4294967296 + Y * Q0 := by grind
          rw [e7]; omega, hRn, hRl⟩
        refine ⟨u1.1.symm.trans u2.1, ?_⟩
        have e8 : rd * B = R := u1.2.symm.trans u2.2
        rw [← e8, Int.mul_ediv_cancel _ (by omega)]
      have W := cj hRw (cj hs1 (cj hs2 (cj hB' hfd2)))
      refine walk1 ?_
      rw [key.1, key.2]
end Go.Proofs.YtmoilbeomnapfaaGreatDoor

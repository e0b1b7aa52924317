/- Pure values, a small program logic over the model: parts 38 to 39 in one text. -/
import Derived.Test.YtjfakpogfakicaaDoorVD
/- Pure values, part 38: the walk's lemmas in three bundles. -/
set_option linter.unusedVariables false
set_option linter.defProp false
namespace Go.PV
open Go

/-- What simp takes on its way down. -/
def wkA := And.intro @opsW.eq_1 <|
  And.intro @opsW.eq_2 <|
  And.intro @opsD.eq_1 <|
  And.intro @opsD.eq_2 <|
  And.intro @stepD.eq_1 <|
  And.intro @wantW_eq <|
  And.intro @opW.eq_1 <|
  And.intro @qw.eq_1 <|
  And.intro @qw.eq_2 <|
  And.intro @qw.eq_3 <|
  And.intro @qw.eq_4 <|
  And.intro @qw.eq_5 <|
  And.intro @qw.eq_6 <|
  And.intro @qw.eq_7 <|
  And.intro @qw.eq_8 <|
  And.intro @qw.eq_9 <|
  And.intro @qw.eq_10 <|
  And.intro @qw.eq_11 <|
  And.intro @qw.eq_12 <|
  And.intro @qw.eq_13 <|
  And.intro @qw.eq_14 <|
  And.intro @qw.eq_15 <|
  And.intro @qw.eq_16 <|
  And.intro @qw.eq_17 <|
  And.intro @ev.eq_1 <|
  And.intro @ev.eq_2 <|
  And.intro @ev.eq_3 <|
  And.intro @toPV.eq_1 <|
  And.intro @toPV.eq_2 <|
  And.intro @toPV0.eq_1 <|
  And.intro @toPV0.eq_2 <|
  And.intro @toPV0.eq_3 <|
  And.intro @toPV0.eq_4 <|
  And.intro @toPV0.eq_5 <|
  And.intro @toPV0.eq_6 <|
  And.intro @thenQ.eq_1 <|
  And.intro @thenQ.eq_2 <|
  And.intro @blockQ.eq_1 <|
  And.intro @blockQ.eq_2 <|
  And.intro @Frame.put.eq_1 <|
  And.intro @Frame.put.eq_2 <|
  And.intro @get_cons <|
  And.intro @guardV.eq_1 <|
  And.intro @dstAt.eq_1 <|
  And.intro @isEffect.eq_1 <|
  And.intro @isEffect.eq_2 <|
  And.intro @isEffect.eq_3 <|
  And.intro @lenW.eq_1 <|
  And.intro @lenW.eq_2 <|
  And.intro @lenW.eq_3 <|
  And.intro @lenW.eq_4 <|
  And.intro @lenW.eq_5 <|
  And.intro @lenW.eq_6 <|
  And.intro @binT.eq_1 <|
  And.intro @asB.eq_1 <|
  And.intro @asB.eq_2 <|
  And.intro @boolT.eq_1 <|
  And.intro @binW.eq_1 <|
  And.intro @binW.eq_2 <|
  And.intro @binW.eq_3 <|
  And.intro @binW.eq_4 <|
  And.intro @binW.eq_5 <|
  And.intro @binW.eq_6 <|
  And.intro @binW.eq_7 <|
  And.intro @binW.eq_8 <|
  And.intro @binW.eq_9 <|
  And.intro @binW.eq_10 <|
  And.intro @binW.eq_11 <|
  And.intro @binW.eq_12 <|
  And.intro @binW.eq_13 <|
  And.intro @binW.eq_14 <|
  And.intro @binW.eq_15 <|
  And.intro @binW.eq_16 <|
  And.intro @binW.eq_17 <|
  And.intro @binW.eq_18 <|
  And.intro @binW.eq_19 <|
  And.intro @binW.eq_20 <|
  And.intro @binW.eq_21 <|
  And.intro @binW.eq_22 <|
  And.intro @binW.eq_23 <|
  And.intro @binW.eq_24 <|
  And.intro @binW.eq_25 <|
  And.intro @binW.eq_26 <|
  And.intro @binW.eq_27 <|
  And.intro @binW.eq_28 <|
  And.intro @binW.eq_29 <|
  And.intro @binW.eq_30 <|
  And.intro @binW.eq_31 <|
  And.intro @binW.eq_32 <|
  And.intro @binW.eq_33 <|
  And.intro @binW.eq_34 <|
  And.intro @binW.eq_35 <|
  And.intro @binW.eq_36 <|
  And.intro @binW.eq_37 <|
  And.intro @binW.eq_38 <|
  And.intro @binW.eq_39 <|
  And.intro @binW.eq_40 <|
  And.intro @binW.eq_41 <|
  And.intro @unW.eq_1 <|
  And.intro @unW.eq_2 <|
  And.intro @unW.eq_3 <|
  And.intro @unW.eq_4 <|
  And.intro @unW.eq_5 <|
  And.intro @unW.eq_6 <|
  And.intro @unW.eq_7 <|
  And.intro @idxW.eq_1 <|
  And.intro @idxW.eq_2 <|
  And.intro @idxW.eq_3 <|
  And.intro @idxW.eq_4 <|
  And.intro @load_int <|
  And.intro @rowSz.eq_1 <|
  And.intro @rowSz.eq_2 <|
  And.intro @rowSz.eq_3 <|
  And.intro @rowSz.eq_4 <|
  And.intro @rowLen.eq_1 <|
  And.intro @rowLen.eq_2 <|
  And.intro @rowLen.eq_3 <|
  And.intro @rowLen.eq_4 <|
  And.intro @loadW.eq_1 <|
  And.intro @loadW.eq_2 <|
  And.intro @loadW.eq_3 <|
  And.intro @partW.eq_1 <|
  And.intro @partW.eq_2 <|
  And.intro @cellsOf.eq_1 <|
  And.intro @cellsOf.eq_2 <|
  And.intro @isOther.eq_1 <|
  And.intro @isOther.eq_2 <|
  And.intro @isStruct.eq_1 <|
  And.intro @isStruct.eq_2 <|
  And.intro @resHs.eq_1 <|
  And.intro @resHs.eq_2 <|
  And.intro @resH.eq_1 <|
  And.intro @resH.eq_2 <|
  And.intro @resVs.eq_1 <|
  And.intro @resVs.eq_2 <|
  And.intro @resV.eq_1 <|
  And.intro @resV.eq_2 <|
  And.intro @view.eq_1 <|
  And.intro @view.eq_2 <|
  And.intro @view0.eq_1 <|
  And.intro @view0.eq_2 <|
  And.intro @view0.eq_3 <|
  And.intro @view0.eq_4 <|
  And.intro @view0.eq_5 <|
  And.intro @view0.eq_6 <|
  And.intro @okView.eq_1 <|
  And.intro @okView.eq_2 <|
  And.intro @okView0.eq_1 <|
  And.intro @okView0.eq_2 <|
  And.intro @oneOf.eq_1 <|
  And.intro @oneOf.eq_2 <|
  And.intro @extractW.eq_1 <|
  And.intro @extractW.eq_2 <|
  And.intro @sliceW.eq_1 <|
  And.intro @sliceW.eq_2 <|
  And.intro @sliceW.eq_3 <|
  And.intro @sliceW.eq_4 <|
  And.intro @sliceW.eq_5 <|
  And.intro @sliceW.eq_6 <|
  And.intro @elemSize.eq_1 <|
  And.intro @elemSize.eq_2 <|
  And.intro @cutW.eq_1 <|
  And.intro @cutL.eq_1 <|
  And.intro @cutL.eq_2 <|
  And.intro @cutL.eq_3 <|
  And.intro @cutL.eq_4 <|
  And.intro @cutL.eq_5 <|
  And.intro @optI.eq_1 <|
  And.intro @optI.eq_2 <|
  And.intro @optI.eq_3 <|
  And.intro @litW.eq_1 <|
  And.intro @intsOf.eq_1 <|
  And.intro @intsOf.eq_2 <|
  And.intro @intsOf.eq_3 <|
  And.intro @builtinW.eq_1 <|
  And.intro @builtinW.eq_2 <|
  And.intro @builtinW.eq_3 <|
  And.intro @appW.eq_1 <|
  And.intro @notInt.eq_1 <|
  And.intro @notInt.eq_2 <|
  And.intro @notInt.eq_3 <|
  And.intro @baseI.eq_1 <|
  And.intro @baseI.eq_2 <|
  And.intro @baseI.eq_3 <|
  And.intro @srcI.eq_1 <|
  And.intro @srcI.eq_2 <|
  And.intro @srcI.eq_3 <|
  And.intro @srcI.eq_4 <|
  And.intro @srcI.eq_5 <|
  And.intro @putRes.eq_1 <|
  And.intro @putRes.eq_2 <|
  And.intro @Heap.new.eq_1 <|
  And.intro @Heap.newT.eq_1 <|
  And.intro @elemT.eq_1 <|
  And.intro @Heap.move.eq_1 <|
  And.intro @Heap.moveT.eq_1 <|
  And.intro @Heap.set.eq_1 <|
  And.intro @Heap.get.eq_1 <|
  And.intro @killF.eq_1 <|
  And.intro @killF.eq_2 <|
  And.intro @kill.eq_1 <|
  And.intro @kill.eq_2 <|
  And.intro @kill1.eq_1 <|
  And.intro @kill1.eq_2 <|
  And.intro @kill0.eq_1 <|
  And.intro @kill0.eq_2 <|
  And.intro @kill0.eq_3 <|
  And.intro @kill0.eq_4 <|
  And.intro @kill0.eq_5 <|
  And.intro @convW.eq_1 <|
  And.intro @strOf.eq_1 <|
  And.intro @strOf.eq_2 <|
  And.intro @strOf.eq_3 <|
  And.intro @strOf.eq_4 <|
  And.intro @indexW.eq_1 <|
  And.intro @indexW.eq_2 <|
  And.intro @copyW.eq_1 <|
  And.intro @storeW.eq_def <|
  And.intro @nilCheckW.eq_1 <|
  And.intro @nilCheckW.eq_2 <|
  And.intro @nilCheckW.eq_3 <|
  And.intro @fieldAddrW.eq_1 <|
  And.intro @fieldAddrW.eq_2 <|
  And.intro @fieldAddrW.eq_3 <|
  And.intro @setL.eq_1 <|
  And.intro @setL.eq_2 <|
  And.intro @dataB.eq_1 <|
  And.intro @dataB.eq_2 <|
  And.intro @dataB0.eq_1 <|
  And.intro @dataB0.eq_2 <|
  And.intro @dataB0.eq_3 <|
  And.intro @dataB0.eq_4 <|
  And.intro @dataB0.eq_5 <|
  And.intro @dataB0.eq_6 <|
  And.intro @makeW.eq_1 <|
  And.intro @isBytes.eq_1 <|
  And.intro @Go.IntKind.bits.eq_1 <|
  And.intro @Go.IntKind.bits.eq_2 <|
  And.intro @Go.IntKind.bits.eq_3 <|
  And.intro @Go.IntKind.bits.eq_4 <|
  And.intro @Go.IntKind.bits.eq_5 <|
  And.intro @Go.IntKind.bits.eq_6 <|
  And.intro @Go.IntKind.bits.eq_7 <|
  And.intro @Go.IntKind.bits.eq_8 <|
  And.intro @okViews0.eq_1 <|
  @okViews0.eq_2
/-- What simp takes on its way up. -/
def wkB := And.intro @get_nil <|
  And.intro @List.getElem?_cons_succ.{0} <|
  And.intro @List.getElem?_cons_zero.{0} <|
  And.intro @Option.bind_some.{0, 0} <|
  And.intro @List.getD_cons_zero.{0} <|
  And.intro @List.getD_cons_succ.{0} <|
  And.intro @ifW_tt <|
  And.intro @ifW_ff <|
  And.intro @ifW_tf <|
  And.intro @ifW_ft <|
  And.intro @condE_t <|
  And.intro @condE_f <|
  And.intro @true_and <|
  And.intro @and_true <|
  And.intro @cond_true.{1} <|
  And.intro @cond_false.{1} <|
  And.intro @decide_true <|
  And.intro @decide_false <|
  And.intro @Bool.not_true <|
  And.intro @Bool.not_false <|
  And.intro @Fin_ret <|
  And.intro @Fin_normal <|
  And.intro @FinH_ret <|
  And.intro @FinH_normal <|
  And.intro @List.map_cons.{0, 0} <|
  And.intro @List.map_nil.{0, 0} <|
  And.intro @Option.map_some.{0, 0} <|
  And.intro @Option.map_none.{0, 0} <|
  And.intro @inOrder.eq_1 <|
  And.intro @inOrder.eq_2 <|
  And.intro @Bool.true_and <|
  And.intro @Bool.and_true <|
  And.intro @decide_eq_true_eq <|
  And.intro @dropT.eq_1 <|
  And.intro @dropT.eq_2 <|
  And.intro @hasT.eq_1 <|
  And.intro @hasT.eq_2 <|
  And.intro @getT.eq_1 <|
  And.intro @getT.eq_2 <|
  And.intro @setRow.eq_1 <|
  And.intro @setRow.eq_2 <|
  And.intro @killRows.eq_1 <|
  And.intro @killRows.eq_2 <|
  And.intro @killRow.eq_1 <|
  And.intro @killRow.eq_2 <|
  And.intro @getRow.eq_1 <|
  And.intro @getRow.eq_2 <|
  And.intro @Frame.kill.eq_1 <|
  And.intro @Frame.kill.eq_2 <|
  And.intro @List.length_cons.{0} <|
  And.intro @List.length_nil.{0} <|
  And.intro @List.length_append.{0} <|
  And.intro @List.drop_zero.{0} <|
  And.intro @List.take_length.{0} <|
  And.intro @List.cons_append.{0} <|
  And.intro @List.nil_append.{0} <|
  And.intro @List.set_cons_zero.{0} <|
  And.intro @List.set_cons_succ.{0} <|
  And.intro @known.eq_1 <|
  And.intro @known.eq_2 <|
  And.intro @known.eq_3 <|
  And.intro @List.append_assoc.{0} <|
  And.intro @Nat.zero_add <|
  And.intro @List.map_append.{0, 0} <|
  And.intro @beq_self_eq_true.{0} <|
  And.intro @List.take_succ_cons.{0} <|
  And.intro @List.take_zero.{0} <|
  And.intro @Int.toNat_natCast <|
  And.intro @toNat_add <|
  And.intro @fillW.eq_1 <|
  And.intro @fillW.eq_2 <|
  And.intro @List.all_cons.{0} <|
  And.intro @List.all_nil.{0} <|
  And.intro @Go.Value.oneCell'.eq_1 <|
  And.intro @Go.Value.oneCell'.eq_2 <|
  And.intro @Go.Value.oneCell'.eq_3 <|
  And.intro @bytesI_mk <|
  And.intro @Int.cast_ofNat_Int <|
  @ofNat_cast
/-- Of the branches alone. -/
def wkI := And.intro @ifW_tt <| And.intro @ifW_ff <| And.intro @ifW_tf <| And.intro @ifW_ft <| And.intro @decide_true <| And.intro @decide_false <| And.intro @Bool.not_true @Bool.not_false
/-- The wraps. -/
def wkW := And.intro @toNat_add <|
  And.intro @Int.toNat_natCast <|
  And.intro @Nat.min_eq_left <|
  And.intro @wrap_i64 <|
  And.intro @wrap_u64 <|
  And.intro @wrap_u8 <|
  And.intro @and7_u8 <|
  And.intro @fdiv_pos <|
  And.intro @tdiv_pos <|
  @tmod_pos
end Go.PV
/- Pure values, part 39: bits of uint64 as numbers. -/
set_option linter.unusedVariables false
set_option linter.unusedSimpArgs false
namespace Go.PV
open Go Go.RowKit

theorem bits64 {a : Int} (ha : 0 ≤ a ∧ a < 18446744073709551616) : (a % ((2 ^ 64 : Nat) : Int)).toNat = a.toNat := by rw [Int.emod_eq_of_lt ha.1 (by simp; omega)]
theorem ibits_or_u64 {a b : Int} (ha : 0 ≤ a ∧ a < 18446744073709551616) (hb : 0 ≤ b ∧ b < 18446744073709551616) : ibits .or .u64 a b = ((a.toNat ||| b.toNat : Nat) : Int) := by
  change IntKind.wrap .u64 (((BitVec.ofInt 64 a ||| BitVec.ofInt 64 b).toNat : Nat) : Int) = _
  rw [BitVec.toNat_or, BitVec.toNat_ofInt, BitVec.toNat_ofInt, bits64 ha, bits64 hb]
  refine wrap_u64 ⟨by omega, ?_⟩
  have := Nat.or_lt_two_pow (n := 64) (show a.toNat < 2 ^ 64 by omega) (show b.toNat < 2 ^ 64 by omega)
  omega
/-- Or of what lies in apart bits is the sum. -/
theorem or_apart {a b : Int} (p : Nat) (ha : 0 ≤ a ∧ a < 2 ^ p) (hb : 0 ≤ b ∧ b < 18446744073709551616) (hd : b % 2 ^ p = 0) (ha2 : a < 18446744073709551616) : ibits .or .u64 a b = a + b := by
  rw [ibits_or_u64 ⟨ha.1, ha2⟩ hb]
  obtain ⟨x, rfl⟩ := Int.eq_ofNat_of_zero_le ha.1
  obtain ⟨y, rfl⟩ := Int.eq_ofNat_of_zero_le hb.1
  have hp : ((2 : Int) ^ p) = ((2 ^ p : Nat) : Int) := by simp
  rw [hp] at hd ha
  have hdvd : y % 2 ^ p = 0 := by
    have : ((y % 2 ^ p : Nat) : Int) = 0 := by rw [Int.natCast_emod]; exact hd
    omega
  have hx : x < 2 ^ p := by omega
  obtain ⟨q, rfl⟩ : ∃ q, y = 2 ^ p * q := ⟨y / 2 ^ p, by have := Nat.div_add_mod y (2 ^ p); omega⟩
  rw [Int.toNat_natCast, Int.toNat_natCast, Nat.or_comm, ← Nat.two_pow_add_eq_or_of_lt hx]
  omega
theorem and_low {a : Int} (m : Nat) (hm : m ≤ 64) (ha : 0 ≤ a ∧ a < 18446744073709551616) : ibits .and .u64 a ((2 ^ m - 1 : Nat) : Int) = a % 2 ^ m := by
  have h2 : 2 ^ m ≤ 2 ^ 64 := Nat.pow_le_pow_right (by omega) hm
  have h0 : 0 < 2 ^ m := Nat.pow_pos (by omega)
  rw [ibits_and_u64 ⟨ha.1, by omega⟩ ⟨by omega, by omega⟩, Int.toNat_natCast, and_mask]
  obtain ⟨x, rfl⟩ := Int.eq_ofNat_of_zero_le ha.1
  simp
theorem ibits_andNot_u64 {a b : Int} (ha : 0 ≤ a ∧ a < 18446744073709551616) (hb : 0 ≤ b ∧ b < 18446744073709551616) : ibits .andNot .u64 a b = ((a.toNat - (a.toNat &&& b.toNat) : Nat) : Int) := by
  change IntKind.wrap .u64 (((BitVec.ofInt 64 a &&& ~~~(BitVec.ofInt 64 b)).toNat : Nat) : Int) = _
  have e : (BitVec.ofInt 64 a &&& ~~~(BitVec.ofInt 64 b)).toNat = a.toNat - (a.toNat &&& b.toNat) := by
    have h1 : (BitVec.ofInt 64 a &&& ~~~(BitVec.ofInt 64 b)) + (BitVec.ofInt 64 a &&& BitVec.ofInt 64 b) = BitVec.ofInt 64 a := by
      rw [BitVec.add_eq_or_of_and_eq_zero _ _ (by ext i; simp; intro _ h2 _; exact h2)]
      ext i
      simp
      cases (BitVec.ofInt 64 a)[i] <;> simp
    have h2 := congrArg BitVec.toNat h1
    rw [BitVec.toNat_add_of_and_eq_zero (by ext i; simp; intro _ h2 _; exact h2), BitVec.toNat_and (x := BitVec.ofInt 64 a) (y := BitVec.ofInt 64 b), BitVec.toNat_ofInt, BitVec.toNat_ofInt, bits64 ha, bits64 hb] at h2
    omega
  rw [e]
  exact wrap_u64 ⟨by omega, by omega⟩

end Go.PV

import Derived.Test.YtmoigffjpijpaaaW9
set_option linter.unusedVariables false
set_option linter.unusedSimpArgs false
namespace Go.Proofs.Ytmoigffjpijpaaa
open Go Go.PV

theorem law_texts (v f w p : Int) (s : List Int) (hv : 0 ≤ v ∧ v < 256) (hl : s.length ≤ 140737488351232) : Meets Try.prog 27 [specV v f w p, .str s] (.bool true) := by
  have h1 := ref_char v f w p s hv hl
  have h2 := whole_char v f w p s hv hl
  have h3 := ref_text v f w p s hv hl
  have h4 := whole_text v f w p s hv hl
  obtain ⟨a, b, e1⟩ := charR_tup v f w p s
  obtain ⟨c, d, e2⟩ := textR_tup v f w p s
  rw [e1] at h1 h2
  rw [e2] at h3 h4
  have ha : decide (a = a) = true := decide_eq_true rfl
  have hc : decide (c = c) = true := decide_eq_true rfl
  refine meets_by ttOk Try.func27 Try.ntmps27 Try.results27 (by kernel_rfl) (c := _) rfl rfl rfl fun E => ?_
  simp only [argsFrame]
  repeat' first
    | (with_reducible refine PW.seq ?_)
    | (with_reducible refine PW.block ?_)
    | (with_reducible refine PW.region ttOk ?_ ?_
       · rfl)
    | (with_reducible refine PW.regionD ttOk mixed ?_ ?_ ?_
       · rfl
       · rfl)
    | (with_reducible refine PW.fork ?_)
    | (with_reducible refine PW.skip ?_)
    | (with_reducible refine PW.exit ?_)
    | (with_reducible refine PW.ret ?_)
    | (with_reducible refine ifW_dec (fun g => ?_) (fun g => ?_) <;> first | (exfalso; omega) | (simp -dsimp only [g, ifW_tt, ifW_ff, ifW_tf, ifW_ft, decide_true, decide_false, Bool.not_true, Bool.not_false]))
    | (with_reducible refine condE_dec (fun g => ?_) (fun g => ?_) <;> try (exfalso; omega))
    | (with_reducible refine condE_not (fun g => ?_) (fun g => ?_) <;> try (exfalso; omega))
    | (simp -dsimp only [↓opsW, ↓opsD, ↓stepD, ↓wantW_eq, ↓opW, ↓qw, ↓ev, ↓toPV, ↓toPV0, ↓thenQ, ↓blockQ, ↓Frame.put, ↓get_cons, get_nil, Nat.reduceBEq, Nat.reduceEqDiff, ↓reduceIte, ↓guardV, ↓dstAt, List.getElem?_cons_succ, List.getElem?_cons_zero, Option.bind_some, ↓isEffect, ↓tt, ↓lenW, ↓binW, ↓unW, ↓idxW, ↓load_int, ↓rowSz, ↓rowLen, List.getD_cons_zero, List.getD_cons_succ, Nat.reduceLT, ↓loadW, ↓partW, ↓cellsOf, ↓isOther, ↓isStruct, ifW_tt, ifW_ff, ifW_tf, ifW_ft, condE_t, condE_f, true_and, and_true, cond_true, cond_false, decide_true, decide_false, Bool.not_true, Bool.not_false, Fin_ret, Fin_normal, FinH_ret, FinH_normal, ↓resHs, ↓resH, ↓resVs, ↓resV, ↓view, ↓view0, ↓okView, ↓okView0, ↓oneOf, ↓extractW, List.map_cons, List.map_nil, Array.toList, ↓sliceW, ↓elemSize, ↓cutW, ↓cutL, ↓optI, Option.map_some, Option.map_none, ↓litW, inOrder, Bool.true_and, Bool.and_true, decide_eq_true_eq, ↓intsOf, ↓builtinW, ↓appW, ↓notInt, ↓baseI, ↓srcI, ↓putRes, ↓Heap.new, ↓Heap.newT, dropT, ↓elemT, ↓Heap.move, ↓Heap.moveT, hasT, getT, ↓Heap.set, setRow, killRows, killRow, ↓Heap.get, getRow, ↓killF, Frame.kill, ↓Go.PV.kill, ↓kill1, ↓kill0, ↓convW, ↓strOf, List.length_cons, List.length_nil, List.length_append, List.drop_zero, List.take_length, List.cons_append, List.nil_append, ↓indexW, ↓copyW, ↓storeW, ↓nilCheckW, ↓fieldAddrW, ↓setL, List.set_cons_zero, List.set_cons_succ, ↓dataB, ↓dataB0, ↓makeW, known, List.append_assoc, Nat.zero_add, List.map_append, beq_self_eq_true, ↓isBytes, Nat.reduceAdd, Nat.reduceMul, ↓IntKind.bits, Int.reduceToNat, Int.reducePow, List.take_succ_cons, List.take_zero, Int.toNat_natCast, toNat_add, fillW, List.all_cons, List.all_nil, Value.oneCell', ↓okViews0, bytesI_mk, UInt8.reduceToNat, Int.cast_ofNat_Int, ofNat_cast])
    | (refine call_by h1 (views_data rfl) ⟨⟨trivial, trivial, trivial, trivial, trivial⟩, trivial, trivial⟩ rfl ?_)
    | (refine call_by h2 (views_data rfl) ⟨⟨trivial, trivial, trivial, trivial, trivial⟩, trivial, trivial⟩ rfl ?_)
    | (refine call_by h3 (views_data rfl) ⟨⟨trivial, trivial, trivial, trivial, trivial⟩, trivial, trivial⟩ rfl ?_)
    | (refine call_by h4 (views_data rfl) ⟨⟨trivial, trivial, trivial, trivial, trivial⟩, trivial, trivial⟩ rfl ?_)
    | (simp -dsimp only [eq_self])
    | (simp -dsimp (disch := first | assumption | omega) only [dec_t, dec_f])
    | (refine And.intro ?_ ?_
       · first | omega | decide | (simp (disch := omega) only [toNat_add, Int.toNat_natCast, Int.reduceToNat, Int.reducePow, Nat.min_eq_left, wrap_i64, wrap_u64, wrap_u8, and7_u8, fdiv_pos, tdiv_pos, tmod_pos]; done) | (simp (disch := omega) only [toNat_add, Int.toNat_natCast, Int.reduceToNat, Int.reducePow, Nat.min_eq_left, wrap_i64, wrap_u64, wrap_u8, and7_u8, fdiv_pos, tdiv_pos, tmod_pos]; omega) | (simp; done) | (simp; omega))
    | (simp (disch := omega) only [toNat_add, Int.toNat_natCast, Int.reduceToNat, Int.reducePow, Nat.min_eq_left, wrap_i64, wrap_u64, wrap_u8, and7_u8, fdiv_pos, tdiv_pos, tmod_pos])
    | fail

theorem law_pads (v f w p : Int) (head body : List Int) (z : Bool) (hl : head.length ≤ 140737488351232 ∧ body.length ≤ 140737488351232) : Meets Try.prog 28 [specV v f w p, .str head, .str body, .bool z] (.bool true) := by
  have h1 := ref_pad v f w p head body z hl
  have h2 := whole_pad v f w p head body z hl
  obtain ⟨a, b, e1⟩ := padR_tup f w p head body z
  rw [e1] at h1 h2
  have ha : decide (a = a) = true := decide_eq_true rfl
  refine meets_by ttOk Try.func28 Try.ntmps28 Try.results28 (by kernel_rfl) (c := _) rfl rfl rfl fun E => ?_
  simp only [argsFrame]
  repeat' first
    | (with_reducible refine PW.seq ?_)
    | (with_reducible refine PW.block ?_)
    | (with_reducible refine PW.region ttOk ?_ ?_
       · rfl)
    | (with_reducible refine PW.regionD ttOk mixed ?_ ?_ ?_
       · rfl
       · rfl)
    | (with_reducible refine PW.fork ?_)
    | (with_reducible refine PW.skip ?_)
    | (with_reducible refine PW.exit ?_)
    | (with_reducible refine PW.ret ?_)
    | (with_reducible refine ifW_dec (fun g => ?_) (fun g => ?_) <;> first | (exfalso; omega) | (simp -dsimp only [g, ifW_tt, ifW_ff, ifW_tf, ifW_ft, decide_true, decide_false, Bool.not_true, Bool.not_false]))
    | (with_reducible refine condE_dec (fun g => ?_) (fun g => ?_) <;> try (exfalso; omega))
    | (with_reducible refine condE_not (fun g => ?_) (fun g => ?_) <;> try (exfalso; omega))
    | (simp -dsimp only [↓opsW, ↓opsD, ↓stepD, ↓wantW_eq, ↓opW, ↓qw, ↓ev, ↓toPV, ↓toPV0, ↓thenQ, ↓blockQ, ↓Frame.put, ↓get_cons, get_nil, Nat.reduceBEq, Nat.reduceEqDiff, ↓reduceIte, ↓guardV, ↓dstAt, List.getElem?_cons_succ, List.getElem?_cons_zero, Option.bind_some, ↓isEffect, ↓tt, ↓lenW, ↓binW, ↓unW, ↓idxW, ↓load_int, ↓rowSz, ↓rowLen, List.getD_cons_zero, List.getD_cons_succ, Nat.reduceLT, ↓loadW, ↓partW, ↓cellsOf, ↓isOther, ↓isStruct, ifW_tt, ifW_ff, ifW_tf, ifW_ft, condE_t, condE_f, true_and, and_true, cond_true, cond_false, decide_true, decide_false, Bool.not_true, Bool.not_false, Fin_ret, Fin_normal, FinH_ret, FinH_normal, ↓resHs, ↓resH, ↓resVs, ↓resV, ↓view, ↓view0, ↓okView, ↓okView0, ↓oneOf, ↓extractW, List.map_cons, List.map_nil, Array.toList, ↓sliceW, ↓elemSize, ↓cutW, ↓cutL, ↓optI, Option.map_some, Option.map_none, ↓litW, inOrder, Bool.true_and, Bool.and_true, decide_eq_true_eq, ↓intsOf, ↓builtinW, ↓appW, ↓notInt, ↓baseI, ↓srcI, ↓putRes, ↓Heap.new, ↓Heap.newT, dropT, ↓elemT, ↓Heap.move, ↓Heap.moveT, hasT, getT, ↓Heap.set, setRow, killRows, killRow, ↓Heap.get, getRow, ↓killF, Frame.kill, ↓Go.PV.kill, ↓kill1, ↓kill0, ↓convW, ↓strOf, List.length_cons, List.length_nil, List.length_append, List.drop_zero, List.take_length, List.cons_append, List.nil_append, ↓indexW, ↓copyW, ↓storeW, ↓nilCheckW, ↓fieldAddrW, ↓setL, List.set_cons_zero, List.set_cons_succ, ↓dataB, ↓dataB0, ↓makeW, known, List.append_assoc, Nat.zero_add, List.map_append, beq_self_eq_true, ↓isBytes, Nat.reduceAdd, Nat.reduceMul, ↓IntKind.bits, Int.reduceToNat, Int.reducePow, List.take_succ_cons, List.take_zero, Int.toNat_natCast, toNat_add, fillW, List.all_cons, List.all_nil, Value.oneCell', ↓okViews0, bytesI_mk, UInt8.reduceToNat, Int.cast_ofNat_Int, ofNat_cast])
    | (refine call_by h1 (views_data rfl) ⟨⟨trivial, trivial, trivial, trivial, trivial⟩, trivial, trivial, trivial, trivial⟩ rfl ?_)
    | (refine call_by h2 (views_data rfl) ⟨⟨trivial, trivial, trivial, trivial, trivial⟩, trivial, trivial, trivial, trivial⟩ rfl ?_)
    | (simp -dsimp only [eq_self])
    | (simp -dsimp (disch := first | assumption | omega) only [dec_t, dec_f])
    | (refine And.intro ?_ ?_
       · first | omega | decide | (simp (disch := omega) only [toNat_add, Int.toNat_natCast, Int.reduceToNat, Int.reducePow, Nat.min_eq_left, wrap_i64, wrap_u64, wrap_u8, and7_u8, fdiv_pos, tdiv_pos, tmod_pos]; done) | (simp (disch := omega) only [toNat_add, Int.toNat_natCast, Int.reduceToNat, Int.reducePow, Nat.min_eq_left, wrap_i64, wrap_u64, wrap_u8, and7_u8, fdiv_pos, tdiv_pos, tmod_pos]; omega) | (simp; done) | (simp; omega))
    | (simp (disch := omega) only [toNat_add, Int.toNat_natCast, Int.reduceToNat, Int.reducePow, Nat.min_eq_left, wrap_i64, wrap_u64, wrap_u8, and7_u8, fdiv_pos, tdiv_pos, tmod_pos])
    | fail
end Go.Proofs.Ytmoigffjpijpaaa


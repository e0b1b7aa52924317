import Derived.Test.YtmoigffjpijpaabX2
set_option linter.unusedVariables false
set_option linter.unusedSimpArgs false
namespace Go.Proofs.Ytmoigffjpijpaab
open Go Go.PV

theorem written_42 : written 10 false 42 = [52, 50] := by
  rw [written, if_neg (by decide)]; simp [text, digs, lettersOf, smalls]
theorem written_255 : written 16 false 255 = [102, 102] := by
  rw [written, if_neg (by decide)]; exact text_ff

theorem law_forty : Meets Try.prog 6 [] (.bool true) := by
  have s1 := law_spec 100
  have s2 := law_spec 115
  have s3 := law_spec 120
  have h1 := whole_signed 100 0 0 (-1) true [42] (by decide) (by intro x hx; simp at hx; subst hx; decide) (by simp)
  have h2 := whole_text 115 0 0 (-1) [97, 98, 99] (by decide) (by decide)
  have h3 : Meets Try.prog 11 [specV 120 0 0 (-1), .int .u64 255] (.tup [.str (unsT 120 0 0 (-1) 255), .int .i64 (unsE 120 0 0 (-1) 255)]) := whole_unsigned 120 0 0 (-1) 255 (by decide) (by decide)
  have e1 : signedR 100 0 0 (-1) true [42] = .tup [.str [45, 52, 50], .int .i64 0] := by
    have hv : (val [42]).toNat = 42 := by rw [val_one]; rfl
    have hs : size [42] = 1 := by decide
    rw [signedR, if_neg (by decide), if_neg (by rw [hs]; decide), hs, hv, written_42]; rfl
  have e2 : textR 115 0 0 (-1) [97, 98, 99] = .tup [.str [97, 98, 99], .int .i64 0] := rfl
  have e3 : unsT 120 0 0 (-1) 255 = [102, 102] ∧ unsE 120 0 0 (-1) 255 = 0 := by
    have hd : unsDig 120 255 = [102, 102] := by
      rw [unsDig, if_neg (by decide), if_pos (by decide)]; exact written_255
    rw [unsT, unsE, hd]; exact ⟨rfl, rfl⟩
  rw [e1] at h1
  rw [e2] at h2
  rw [e3.1, e3.2] at h3
  refine meets_by ttOk Try.func6 Try.ntmps6 Try.results6 (by kernel_rfl) (c := _) rfl rfl rfl fun E => ?_
  simp only [argsFrame]
  repeat' first
    | (simp only [eq_self])
    | (with_reducible refine PW.seq ?_)
    | (with_reducible refine PW.block ?_)
    | (with_reducible refine PW.region ttOk ?_ ?_
       · rfl)
    | (with_reducible refine PW.regionD ttOk mixed ?_ ?_ ?_
       · rfl
       · rfl)
    | (with_reducible refine PW.fork ?_)
    | (with_reducible refine PW.skip ?_)
    | (with_reducible refine PW.exit ?_)
    | (with_reducible refine PW.ret ?_)
    | (with_reducible refine ifW_dec (fun g => ?_) (fun g => ?_) <;> first | (exfalso; omega) | (simp -dsimp only [g, ifW_tt, ifW_ff, ifW_tf, ifW_ft, decide_true, decide_false, Bool.not_true, Bool.not_false]))
    | (with_reducible refine condE_dec (fun g => ?_) (fun g => ?_) <;> try (exfalso; omega))
    | (with_reducible refine condE_not (fun g => ?_) (fun g => ?_) <;> try (exfalso; omega))
    | (simp -dsimp only [↓opsW, ↓opsD, ↓stepD, ↓wantW_eq, ↓opW, ↓qw, ↓ev, ↓toPV, ↓toPV0, ↓thenQ, ↓blockQ, ↓Frame.put, ↓get_cons, get_nil, Nat.reduceBEq, Nat.reduceEqDiff, ↓reduceIte, ↓guardV, ↓dstAt, List.getElem?_cons_succ, List.getElem?_cons_zero, Option.bind_some, ↓isEffect, ↓tt, ↓lenW, ↓binW, ↓unW, ↓idxW, ↓load_int, ↓rowSz, ↓rowLen, List.getD_cons_zero, List.getD_cons_succ, Nat.reduceLT, ↓loadW, ↓partW, ↓cellsOf, ↓isOther, ↓isStruct, ifW_tt, ifW_ff, ifW_tf, ifW_ft, condE_t, condE_f, true_and, and_true, cond_true, cond_false, decide_true, decide_false, Bool.not_true, Bool.not_false, Fin_ret, Fin_normal, FinH_ret, FinH_normal, ↓resHs, ↓resH, ↓resVs, ↓resV, ↓view, ↓view0, ↓okView, ↓okView0, ↓oneOf, ↓extractW, List.map_cons, List.map_nil, Array.toList, ↓sliceW, ↓elemSize, ↓cutW, ↓cutL, ↓optI, Option.map_some, Option.map_none, ↓litW, inOrder, Bool.true_and, Bool.and_true, decide_eq_true_eq, ↓intsOf, ↓builtinW, ↓appW, ↓notInt, ↓baseI, ↓srcI, ↓putRes, ↓Heap.new, ↓Heap.newT, dropT, ↓elemT, ↓Heap.move, ↓Heap.moveT, hasT, getT, ↓Heap.set, setRow, killRows, killRow, ↓Heap.get, getRow, ↓killF, Frame.kill, ↓Go.PV.kill, ↓kill1, ↓kill0, ↓convW, ↓strOf, List.length_cons, List.length_nil, List.length_append, List.drop_zero, List.take_length, List.cons_append, List.nil_append, ↓indexW, ↓copyW, ↓storeW, ↓nilCheckW, ↓fieldAddrW, ↓setL, List.set_cons_zero, List.set_cons_succ, ↓dataB, ↓dataB0, ↓makeW, known, List.append_assoc, Nat.zero_add, List.map_append, beq_self_eq_true, ↓isBytes, Nat.reduceAdd, Nat.reduceMul, ↓IntKind.bits, Int.reduceToNat, Int.reducePow, List.take_succ_cons, List.take_zero, Int.toNat_natCast, toNat_add, fillW, List.all_cons, List.all_nil, Value.oneCell', ↓okViews0, bytesI_mk, UInt8.reduceToNat, Int.cast_ofNat_Int, ofNat_cast])
    | (refine call_by s1 (views_data rfl) ⟨trivial, trivial⟩ rfl ?_)
    | (refine call_by s2 (views_data rfl) ⟨trivial, trivial⟩ rfl ?_)
    | (refine call_by s3 (views_data rfl) ⟨trivial, trivial⟩ rfl ?_)
    | (refine call_by' (args' := [specV 100 0 0 (-1), .bool true, .ints .u64 [42]]) rfl h1 (by simp -dsimp only [okViews, ↓opsW, ↓opsD, ↓stepD, ↓wantW_eq, ↓opW, ↓qw, ↓ev, ↓toPV, ↓toPV0, ↓thenQ, ↓blockQ, ↓Frame.put, ↓get_cons, get_nil, Nat.reduceBEq, Nat.reduceEqDiff, ↓reduceIte, ↓guardV, ↓dstAt, List.getElem?_cons_succ, List.getElem?_cons_zero, Option.bind_some, ↓isEffect, ↓tt, ↓lenW, ↓binW, ↓unW, ↓idxW, ↓load_int, ↓rowSz, ↓rowLen, List.getD_cons_zero, List.getD_cons_succ, Nat.reduceLT, ↓loadW, ↓partW, ↓cellsOf, ↓isOther, ↓isStruct, ifW_tt, ifW_ff, ifW_tf, ifW_ft, condE_t, condE_f, true_and, and_true, cond_true, cond_false, decide_true, decide_false, Bool.not_true, Bool.not_false, Fin_ret, Fin_normal, FinH_ret, FinH_normal, ↓resHs, ↓resH, ↓resVs, ↓resV, ↓view, ↓view0, ↓okView, ↓okView0, ↓oneOf, ↓extractW, List.map_cons, List.map_nil, Array.toList, ↓sliceW, ↓elemSize, ↓cutW, ↓cutL, ↓optI, Option.map_some, Option.map_none, ↓litW, inOrder, Bool.true_and, Bool.and_true, decide_eq_true_eq, ↓intsOf, ↓builtinW, ↓appW, ↓notInt, ↓baseI, ↓srcI, ↓putRes, ↓Heap.new, ↓Heap.newT, dropT, ↓elemT, ↓Heap.move, ↓Heap.moveT, hasT, getT, ↓Heap.set, setRow, killRows, killRow, ↓Heap.get, getRow, ↓killF, Frame.kill, ↓Go.PV.kill, ↓kill1, ↓kill0, ↓convW, ↓strOf, List.length_cons, List.length_nil, List.length_append, List.drop_zero, List.take_length, List.cons_append, List.nil_append, ↓indexW, ↓copyW, ↓storeW, ↓nilCheckW, ↓fieldAddrW, ↓setL, List.set_cons_zero, List.set_cons_succ, ↓dataB, ↓dataB0, ↓makeW, known, List.append_assoc, Nat.zero_add, List.map_append, beq_self_eq_true, ↓isBytes, Nat.reduceAdd, Nat.reduceMul, ↓IntKind.bits, Int.reduceToNat, Int.reducePow, List.take_succ_cons, List.take_zero, Int.toNat_natCast, toNat_add, fillW, List.all_cons, List.all_nil, Value.oneCell', ↓okViews0, bytesI_mk, UInt8.reduceToNat, Int.cast_ofNat_Int, ofNat_cast]; decide) rfl ?_)
    | (refine call_by h2 (views_data rfl) ⟨⟨trivial, trivial, trivial, trivial, trivial⟩, trivial, trivial⟩ rfl ?_)
    | (refine call_by h3 (views_data rfl) ⟨⟨trivial, trivial, trivial, trivial, trivial⟩, trivial, trivial⟩ rfl ?_)
    | (simp -dsimp (disch := first | assumption | omega) only [dec_t, dec_f])
    | (refine And.intro ?_ ?_
       · first | omega | decide | (simp (disch := omega) only [toNat_add, Int.toNat_natCast, Int.reduceToNat, Int.reducePow, Nat.min_eq_left, wrap_i64, wrap_u64, wrap_u8, and7_u8, fdiv_pos, tdiv_pos, tmod_pos]; done) | (simp (disch := omega) only [toNat_add, Int.toNat_natCast, Int.reduceToNat, Int.reducePow, Nat.min_eq_left, wrap_i64, wrap_u64, wrap_u8, and7_u8, fdiv_pos, tdiv_pos, tmod_pos]; omega) | (simp; done) | (simp; omega))
    | (simp (disch := omega) only [toNat_add, Int.toNat_natCast, Int.reduceToNat, Int.reducePow, Nat.min_eq_left, wrap_i64, wrap_u64, wrap_u8, and7_u8, fdiv_pos, tdiv_pos, tmod_pos])
    | fail
end Go.Proofs.Ytmoigffjpijpaab


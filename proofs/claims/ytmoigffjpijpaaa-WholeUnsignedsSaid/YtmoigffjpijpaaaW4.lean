import Derived.Test.YtmoigffjpijpaaaW3
set_option linter.unusedVariables false
set_option linter.unusedSimpArgs false
namespace Go.Proofs.Ytmoigffjpijpaaa
open Go Go.PV

set_option maxRecDepth 10000 in
theorem whole_long : Meets Try.prog 6 [] (.bool true) := by
  have hrow := ref_row 97 (by decide) 16777216 (by decide) (by decide)
  have hlen : (List.replicate 16777216 (97 : Int)).length = 16777216 := List.length_replicate
  obtain ⟨L, hL⟩ : ∃ L, List.replicate 16777216 (97 : Int) = L := ⟨_, rfl⟩
  rw [hL] at hrow hlen
  have hrow' : Meets Try.prog 23 [.int .u8 97, .int .i64 16777216] (.str L) := hrow
  have hx : (L ++ [120]).length = 16777217 := by rw [List.length_append, hlen]; rfl
  have t1 := whole_text0 (.tup [.str L, .int .i64 0]) (-1) L (by decide) (by omega) (fun _ => by rw [if_neg (by omega)]) (fun h => by omega)
  have t2 := whole_text0 (.tup [.str [], .int .i64 3]) (-1) (L ++ [120]) (by decide) (by omega) (fun _ => by rw [if_pos (by omega)]) (fun h => by omega)
  have t3 := whole_text0 (.tup [.str ((L ++ [120]).take 4096), .int .i64 0]) 4096 (L ++ [120]) (by decide) (by omega) (fun h => by omega) (fun _ => rfl)
  have t4 := whole_pad0 115 (-1) true [120] L (by decide) ⟨by decide, by omega⟩
  rw [if_pos (by simp only [List.length_cons, List.length_nil]; omega)] at t4
  have hcut : (L ++ [120]).take 4096 = L.take 4096 := List.take_append_of_le_length (by omega)
  rw [hcut] at t3
  have hle : L.length + 1 ≤ 9223372036854775807 := by omega
  refine meets_by ttOk Try.func6 Try.ntmps6 Try.results6 (by kernel_rfl) (c := _) rfl rfl rfl fun E => ?_
  simp only [argsFrame]
  repeat' first
    | (with_reducible refine PW.seq ?_)
    | (with_reducible refine PW.block ?_)
    | (with_reducible refine PW.region ttOk ?_ ?_
       · rfl)
    | (with_reducible refine PW.regionD ttOk mixed ?_ ?_ ?_
       · rfl
       · rfl)
    | (with_reducible refine PW.fork ?_)
    | (with_reducible refine PW.skip ?_)
    | (with_reducible refine PW.exit ?_)
    | (with_reducible refine PW.ret ?_)
    | (with_reducible refine ifW_dec (fun g => ?_) (fun g => ?_) <;> first | (exfalso; omega) | (simp -dsimp only [g, ifW_tt, ifW_ff, ifW_tf, ifW_ft, decide_true, decide_false, Bool.not_true, Bool.not_false]))
    | (with_reducible refine condE_dec (fun g => ?_) (fun g => ?_) <;> try (exfalso; omega))
    | (with_reducible refine condE_not (fun g => ?_) (fun g => ?_) <;> try (exfalso; omega))
    | (simp -dsimp only [↓opsW, ↓opsD, ↓stepD, ↓wantW_eq, ↓opW, ↓qw, ↓ev, ↓toPV, ↓toPV0, ↓thenQ, ↓blockQ, ↓Frame.put, ↓get_cons, get_nil, Nat.reduceBEq, Nat.reduceEqDiff, ↓reduceIte, ↓guardV, ↓dstAt, List.getElem?_cons_succ, List.getElem?_cons_zero, Option.bind_some, ↓isEffect, ↓tt, ↓lenW, ↓binW, ↓unW, ↓idxW, ↓load_int, ↓rowSz, ↓rowLen, List.getD_cons_zero, List.getD_cons_succ, Nat.reduceLT, ↓loadW, ↓partW, ↓cellsOf, ↓isOther, ↓isStruct, ifW_tt, ifW_ff, ifW_tf, ifW_ft, condE_t, condE_f, true_and, and_true, cond_true, cond_false, decide_true, decide_false, Bool.not_true, Bool.not_false, Fin_ret, Fin_normal, FinH_ret, FinH_normal, ↓resHs, ↓resH, ↓resVs, ↓resV, ↓view, ↓view0, ↓okView, ↓okView0, ↓oneOf, ↓extractW, List.map_cons, List.map_nil, Array.toList, ↓sliceW, ↓elemSize, ↓cutW, ↓cutL, ↓optI, Option.map_some, Option.map_none, ↓litW, inOrder, Bool.true_and, Bool.and_true, decide_eq_true_eq, ↓intsOf, ↓builtinW, ↓appW, ↓notInt, ↓baseI, ↓srcI, ↓putRes, ↓Heap.new, ↓Heap.newT, dropT, ↓elemT, ↓Heap.move, ↓Heap.moveT, hasT, getT, ↓Heap.set, setRow, killRows, killRow, ↓Heap.get, getRow, ↓killF, Frame.kill, ↓Go.PV.kill, ↓kill1, ↓kill0, ↓convW, ↓strOf, List.length_cons, List.length_nil, List.length_append, List.drop_zero, List.take_length, List.cons_append, List.nil_append, ↓indexW, ↓copyW, ↓storeW, ↓nilCheckW, ↓fieldAddrW, ↓setL, List.set_cons_zero, List.set_cons_succ, ↓dataB, ↓dataB0, ↓makeW, known, List.append_assoc, Nat.zero_add, List.map_append, beq_self_eq_true, ↓isBytes, Nat.reduceAdd, Nat.reduceMul, ↓IntKind.bits, Int.reduceToNat, Int.reducePow, List.take_succ_cons, List.take_zero, Int.toNat_natCast, toNat_add, fillW, List.all_cons, List.all_nil, Value.oneCell', ↓okViews0, bytesI_mk, UInt8.reduceToNat, Int.cast_ofNat_Int, ofNat_cast])
    | (refine call_by hrow' (views_data rfl) ⟨trivial, trivial, trivial⟩ rfl ?_)
    | (refine call_by (law_spec 115) (views_data rfl) ⟨trivial, trivial⟩ rfl ?_)
    | (refine call_by t1 (views_data rfl) ⟨⟨trivial, trivial, trivial, trivial, trivial⟩, trivial, trivial⟩ rfl ?_)
    | (refine call_by t2 (views_data rfl) ⟨⟨trivial, trivial, trivial, trivial, trivial⟩, trivial, trivial⟩ rfl ?_)
    | (refine call_by t3 (views_data rfl) ⟨⟨trivial, trivial, trivial, trivial, trivial⟩, trivial, trivial⟩ rfl ?_)
    | (refine call_by t4 (views_data rfl) ⟨⟨trivial, trivial, trivial, trivial, trivial⟩, trivial, trivial, trivial, trivial⟩ rfl ?_)
    | (simp -dsimp (disch := first | assumption | omega) only [dec_t, dec_f])
    | (refine And.intro ?_ ?_
       · first | omega | decide | (simp (disch := omega) only [toNat_add, Int.toNat_natCast, Int.reduceToNat, Int.reducePow, Nat.min_eq_left, wrap_i64, wrap_u64, wrap_u8, and7_u8, fdiv_pos, tdiv_pos, tmod_pos]; done) | (simp (disch := omega) only [toNat_add, Int.toNat_natCast, Int.reduceToNat, Int.reducePow, Nat.min_eq_left, wrap_i64, wrap_u64, wrap_u8, and7_u8, fdiv_pos, tdiv_pos, tmod_pos]; omega) | (simp; done) | (simp; omega))
    | (simp (disch := omega) only [toNat_add, Int.toNat_natCast, Int.reduceToNat, Int.reducePow, Nat.min_eq_left, wrap_i64, wrap_u64, wrap_u8, and7_u8, fdiv_pos, tdiv_pos, tmod_pos])
    | fail
  all_goals trace_state
end Go.Proofs.Ytmoigffjpijpaaa


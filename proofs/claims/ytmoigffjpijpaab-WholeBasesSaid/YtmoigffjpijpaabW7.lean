import Derived.Test.YtmoigffjpijpaabW6
set_option linter.unusedVariables false
set_option linter.unusedSimpArgs false
namespace Go.Proofs.Ytmoigffjpijpaab
open Go Go.PV

def textR (v f w p : Int) (s : List Int) : PV :=
  if checkE [115] v f w p ≠ 0 then .tup [.str [], .int .i64 (checkE [115] v f w p)] else padR f w p [] (if 0 ≤ p then s.take p.toNat else s) false
def charR (v f w p : Int) (s : List Int) : PV :=
  if checkE [99] v f w p ≠ 0 then .tup [.str [], .int .i64 (checkE [99] v f w p)] else padR f w p [] (s.take 1) false

theorem padR_tup (f w p : Int) (head body : List Int) (z : Bool) : ∃ s e, padR f w p head body z = .tup [.str s, .int .i64 e] := by
  unfold padR
  split
  · exact ⟨_, _, rfl⟩
  · split <;> exact ⟨_, _, rfl⟩
theorem textR_tup (v f w p : Int) (t : List Int) : ∃ s e, textR v f w p t = .tup [.str s, .int .i64 e] := by
  unfold textR
  split
  · exact ⟨_, _, rfl⟩
  · exact padR_tup ..
theorem charR_tup (v f w p : Int) (t : List Int) : ∃ s e, charR v f w p t = .tup [.str s, .int .i64 e] := by
  unfold charR
  split
  · exact ⟨_, _, rfl⟩
  · exact padR_tup ..

theorem take_min {α} (s : List α) (k : Nat) : s.take (min k s.length) = s.take k := by
  rcases Nat.le_total k s.length with h | h
  · rw [Nat.min_eq_left h]
  · rw [Nat.min_eq_right h, List.take_length, List.take_of_length_le h]

theorem whole_char (v f w p : Int) (s : List Int) (hv : 0 ≤ v ∧ v < 256) (hl : s.length ≤ 140737488351232) : Meets Try.prog 14 [specV v f w p, .str s] (charR v f w p s) := by
  have hc := check_all [99] v f w p rfl (by simp) hv
  have hpad := whole_pad v f w p [] (s.take 1) false ⟨by simp, by simp; omega⟩
  have hmin : (if (1 : Int) < (s.length : Int) then (1 : Int) else (s.length : Int)).toNat = min 1 s.length := by split <;> omega
  have hmin2 : 0 ≤ (if (1 : Int) < (s.length : Int) then (1 : Int) else (s.length : Int)) ∧ (if (1 : Int) < (s.length : Int) then (1 : Int) else (s.length : Int)) ≤ (s.length : Int) := by split <;> omega
  have htake := take_min s 1
  refine meets_by ttOk Try.func14 Try.ntmps14 Try.results14 (by kernel_rfl) (c := _) rfl rfl rfl fun E => ?_
  simp only [argsFrame]
  unfold charR
  by_cases he : checkE [99] v f w p ≠ 0
  · rw [if_pos he]
    generalize checkE [99] v f w p = e at *
    repeat' first
      | (with_reducible refine PW.seq ?_)
      | (with_reducible refine PW.block ?_)
      | (with_reducible refine PW.region ttOk ?_ ?_
         · rfl)
      | (with_reducible refine PW.regionD ttOk mixed ?_ ?_ ?_
         · rfl
         · rfl)
      | (with_reducible refine PW.fork ?_)
      | (with_reducible refine PW.skip ?_)
      | (with_reducible refine PW.exit ?_)
      | (with_reducible refine PW.ret ?_)
      | (with_reducible refine ifW_dec (fun g => ?_) (fun g => ?_) <;> first | (exfalso; omega) | (simp -dsimp only [g, ifW_tt, ifW_ff, ifW_tf, ifW_ft, decide_true, decide_false, Bool.not_true, Bool.not_false]))
      | (with_reducible refine condE_dec (fun g => ?_) (fun g => ?_) <;> try (exfalso; omega))
      | (with_reducible refine condE_not (fun g => ?_) (fun g => ?_) <;> try (exfalso; omega))
      | (simp -dsimp only [↓opsW, ↓opsD, ↓stepD, ↓wantW_eq, ↓opW, ↓qw, ↓ev, ↓toPV, ↓toPV0, ↓thenQ, ↓blockQ, ↓Frame.put, ↓get_cons, get_nil, Nat.reduceBEq, Nat.reduceEqDiff, ↓reduceIte, ↓guardV, ↓dstAt, List.getElem?_cons_succ, List.getElem?_cons_zero, Option.bind_some, ↓isEffect, ↓tt, ↓lenW, ↓binW, ↓unW, ↓idxW, ↓load_int, ↓rowSz, ↓rowLen, List.getD_cons_zero, List.getD_cons_succ, Nat.reduceLT, ↓loadW, ↓partW, ↓cellsOf, ↓isOther, ↓isStruct, ifW_tt, ifW_ff, ifW_tf, ifW_ft, condE_t, condE_f, true_and, and_true, cond_true, cond_false, decide_true, decide_false, Bool.not_true, Bool.not_false, Fin_ret, Fin_normal, FinH_ret, FinH_normal, ↓resHs, ↓resH, ↓resVs, ↓resV, ↓view, ↓view0, ↓okView, ↓okView0, ↓oneOf, ↓extractW, List.map_cons, List.map_nil, Array.toList, ↓sliceW, ↓elemSize, ↓cutW, ↓cutL, ↓optI, Option.map_some, Option.map_none, ↓litW, inOrder, Bool.true_and, Bool.and_true, decide_eq_true_eq, ↓intsOf, ↓builtinW, ↓appW, ↓notInt, ↓baseI, ↓srcI, ↓putRes, ↓Heap.new, ↓Heap.newT, dropT, ↓elemT, ↓Heap.move, ↓Heap.moveT, hasT, getT, ↓Heap.set, setRow, killRows, killRow, ↓Heap.get, getRow, ↓killF, Frame.kill, ↓Go.PV.kill, ↓kill1, ↓kill0, ↓convW, ↓strOf, List.length_cons, List.length_nil, List.length_append, List.drop_zero, List.take_length, List.cons_append, List.nil_append, ↓indexW, ↓copyW, ↓storeW, ↓nilCheckW, ↓fieldAddrW, ↓setL, List.set_cons_zero, List.set_cons_succ, ↓dataB, ↓dataB0, ↓makeW, known, List.append_assoc, Nat.zero_add, List.map_append, beq_self_eq_true, ↓isBytes, Nat.reduceAdd, Nat.reduceMul, ↓IntKind.bits, Int.reduceToNat, Int.reducePow, List.take_succ_cons, List.take_zero, Int.toNat_natCast, toNat_add, fillW, List.all_cons, List.all_nil, Value.oneCell', ↓okViews0, bytesI_mk, UInt8.reduceToNat, Int.cast_ofNat_Int, ofNat_cast])
      | (refine call_by hc (views_data rfl) ⟨⟨trivial, trivial, trivial, trivial, trivial⟩, trivial, trivial⟩ rfl ?_)
      | (simp -dsimp (disch := first | assumption | omega) only [dec_t, dec_f])
      | (refine And.intro ?_ ?_
         · first | omega | decide | (simp (disch := omega) only [toNat_add, Int.toNat_natCast, Int.reduceToNat, Int.reducePow, Nat.min_eq_left, wrap_i64, wrap_u64, wrap_u8, and7_u8, fdiv_pos, tdiv_pos, tmod_pos]; done) | (simp (disch := omega) only [toNat_add, Int.toNat_natCast, Int.reduceToNat, Int.reducePow, Nat.min_eq_left, wrap_i64, wrap_u64, wrap_u8, and7_u8, fdiv_pos, tdiv_pos, tmod_pos]; omega) | (simp; done) | (simp; omega))
      | (simp (disch := omega) only [toNat_add, Int.toNat_natCast, Int.reduceToNat, Int.reducePow, Nat.min_eq_left, wrap_i64, wrap_u64, wrap_u8, and7_u8, fdiv_pos, tdiv_pos, tmod_pos])
      | fail
  · rw [if_neg he]
    have he0 : checkE [99] v f w p = 0 := by omega
    rw [he0] at hc
    obtain ⟨t, e, hp⟩ := padR_tup f w p [] (s.take 1) false
    rw [hp] at hpad ⊢
    repeat' first
      | (simp only [hmin, htake])
      | (with_reducible refine PW.seq ?_)
      | (with_reducible refine PW.block ?_)
      | (with_reducible refine PW.region ttOk ?_ ?_
         · rfl)
      | (with_reducible refine PW.regionD ttOk mixed ?_ ?_ ?_
         · rfl
         · rfl)
      | (with_reducible refine PW.fork ?_)
      | (with_reducible refine PW.skip ?_)
      | (with_reducible refine PW.exit ?_)
      | (with_reducible refine PW.ret ?_)
      | (with_reducible refine ifW_dec (fun g => ?_) (fun g => ?_) <;> first | (exfalso; omega) | (simp -dsimp only [g, ifW_tt, ifW_ff, ifW_tf, ifW_ft, decide_true, decide_false, Bool.not_true, Bool.not_false]))
      | (with_reducible refine condE_dec (fun g => ?_) (fun g => ?_) <;> try (exfalso; omega))
      | (with_reducible refine condE_not (fun g => ?_) (fun g => ?_) <;> try (exfalso; omega))
      | (simp -dsimp only [↓opsW, ↓opsD, ↓stepD, ↓wantW_eq, ↓opW, ↓qw, ↓ev, ↓toPV, ↓toPV0, ↓thenQ, ↓blockQ, ↓Frame.put, ↓get_cons, get_nil, Nat.reduceBEq, Nat.reduceEqDiff, ↓reduceIte, ↓guardV, ↓dstAt, List.getElem?_cons_succ, List.getElem?_cons_zero, Option.bind_some, ↓isEffect, ↓tt, ↓lenW, ↓binW, ↓unW, ↓idxW, ↓load_int, ↓rowSz, ↓rowLen, List.getD_cons_zero, List.getD_cons_succ, Nat.reduceLT, ↓loadW, ↓partW, ↓cellsOf, ↓isOther, ↓isStruct, ifW_tt, ifW_ff, ifW_tf, ifW_ft, condE_t, condE_f, true_and, and_true, cond_true, cond_false, decide_true, decide_false, Bool.not_true, Bool.not_false, Fin_ret, Fin_normal, FinH_ret, FinH_normal, ↓resHs, ↓resH, ↓resVs, ↓resV, ↓view, ↓view0, ↓okView, ↓okView0, ↓oneOf, ↓extractW, List.map_cons, List.map_nil, Array.toList, ↓sliceW, ↓elemSize, ↓cutW, ↓cutL, ↓optI, Option.map_some, Option.map_none, ↓litW, inOrder, Bool.true_and, Bool.and_true, decide_eq_true_eq, ↓intsOf, ↓builtinW, ↓appW, ↓notInt, ↓baseI, ↓srcI, ↓putRes, ↓Heap.new, ↓Heap.newT, dropT, ↓elemT, ↓Heap.move, ↓Heap.moveT, hasT, getT, ↓Heap.set, setRow, killRows, killRow, ↓Heap.get, getRow, ↓killF, Frame.kill, ↓Go.PV.kill, ↓kill1, ↓kill0, ↓convW, ↓strOf, List.length_cons, List.length_nil, List.length_append, List.drop_zero, List.take_length, List.cons_append, List.nil_append, ↓indexW, ↓copyW, ↓storeW, ↓nilCheckW, ↓fieldAddrW, ↓setL, List.set_cons_zero, List.set_cons_succ, ↓dataB, ↓dataB0, ↓makeW, known, List.append_assoc, Nat.zero_add, List.map_append, beq_self_eq_true, ↓isBytes, Nat.reduceAdd, Nat.reduceMul, ↓IntKind.bits, Int.reduceToNat, Int.reducePow, List.take_succ_cons, List.take_zero, Int.toNat_natCast, toNat_add, fillW, List.all_cons, List.all_nil, Value.oneCell', ↓okViews0, bytesI_mk, UInt8.reduceToNat, Int.cast_ofNat_Int, ofNat_cast])
      | (refine call_by hc (views_data rfl) ⟨⟨trivial, trivial, trivial, trivial, trivial⟩, trivial, trivial⟩ rfl ?_)
      | (refine callD_by hpad (views_data rfl) ⟨⟨trivial, trivial, trivial, trivial, trivial⟩, trivial, trivial, trivial, trivial⟩ rfl ?_)
      | (simp -dsimp (disch := first | assumption | omega) only [dec_t, dec_f])
      | (refine And.intro ?_ ?_
         · first | omega | decide | (simp (disch := omega) only [toNat_add, Int.toNat_natCast, Int.reduceToNat, Int.reducePow, Nat.min_eq_left, wrap_i64, wrap_u64, wrap_u8, and7_u8, fdiv_pos, tdiv_pos, tmod_pos]; done) | (simp (disch := omega) only [toNat_add, Int.toNat_natCast, Int.reduceToNat, Int.reducePow, Nat.min_eq_left, wrap_i64, wrap_u64, wrap_u8, and7_u8, fdiv_pos, tdiv_pos, tmod_pos]; omega) | (simp; done) | (simp; omega))
      | (simp (disch := omega) only [toNat_add, Int.toNat_natCast, Int.reduceToNat, Int.reducePow, Nat.min_eq_left, wrap_i64, wrap_u64, wrap_u8, and7_u8, fdiv_pos, tdiv_pos, tmod_pos])
      | fail

theorem whole_text (v f w p : Int) (s : List Int) (hv : 0 ≤ v ∧ v < 256) (hl : s.length ≤ 140737488351232) : Meets Try.prog 13 [specV v f w p, .str s] (textR v f w p s) := by
  have hc := check_all [115] v f w p rfl (by simp) hv
  refine meets_by ttOk Try.func13 Try.ntmps13 Try.results13 (by kernel_rfl) (c := _) rfl rfl rfl fun E => ?_
  simp only [argsFrame]
  unfold textR
  by_cases he : checkE [115] v f w p ≠ 0
  · rw [if_pos he]
    generalize checkE [115] v f w p = e at *
    repeat' first
      | (with_reducible refine PW.seq ?_)
      | (with_reducible refine PW.block ?_)
      | (with_reducible refine PW.region ttOk ?_ ?_
         · rfl)
      | (with_reducible refine PW.regionD ttOk mixed ?_ ?_ ?_
         · rfl
         · rfl)
      | (with_reducible refine PW.fork ?_)
      | (with_reducible refine PW.skip ?_)
      | (with_reducible refine PW.exit ?_)
      | (with_reducible refine PW.ret ?_)
      | (with_reducible refine ifW_dec (fun g => ?_) (fun g => ?_) <;> first | (exfalso; omega) | (simp -dsimp only [g, ifW_tt, ifW_ff, ifW_tf, ifW_ft, decide_true, decide_false, Bool.not_true, Bool.not_false]))
      | (with_reducible refine condE_dec (fun g => ?_) (fun g => ?_) <;> try (exfalso; omega))
      | (with_reducible refine condE_not (fun g => ?_) (fun g => ?_) <;> try (exfalso; omega))
      | (simp -dsimp only [↓opsW, ↓opsD, ↓stepD, ↓wantW_eq, ↓opW, ↓qw, ↓ev, ↓toPV, ↓toPV0, ↓thenQ, ↓blockQ, ↓Frame.put, ↓get_cons, get_nil, Nat.reduceBEq, Nat.reduceEqDiff, ↓reduceIte, ↓guardV, ↓dstAt, List.getElem?_cons_succ, List.getElem?_cons_zero, Option.bind_some, ↓isEffect, ↓tt, ↓lenW, ↓binW, ↓unW, ↓idxW, ↓load_int, ↓rowSz, ↓rowLen, List.getD_cons_zero, List.getD_cons_succ, Nat.reduceLT, ↓loadW, ↓partW, ↓cellsOf, ↓isOther, ↓isStruct, ifW_tt, ifW_ff, ifW_tf, ifW_ft, condE_t, condE_f, true_and, and_true, cond_true, cond_false, decide_true, decide_false, Bool.not_true, Bool.not_false, Fin_ret, Fin_normal, FinH_ret, FinH_normal, ↓resHs, ↓resH, ↓resVs, ↓resV, ↓view, ↓view0, ↓okView, ↓okView0, ↓oneOf, ↓extractW, List.map_cons, List.map_nil, Array.toList, ↓sliceW, ↓elemSize, ↓cutW, ↓cutL, ↓optI, Option.map_some, Option.map_none, ↓litW, inOrder, Bool.true_and, Bool.and_true, decide_eq_true_eq, ↓intsOf, ↓builtinW, ↓appW, ↓notInt, ↓baseI, ↓srcI, ↓putRes, ↓Heap.new, ↓Heap.newT, dropT, ↓elemT, ↓Heap.move, ↓Heap.moveT, hasT, getT, ↓Heap.set, setRow, killRows, killRow, ↓Heap.get, getRow, ↓killF, Frame.kill, ↓Go.PV.kill, ↓kill1, ↓kill0, ↓convW, ↓strOf, List.length_cons, List.length_nil, List.length_append, List.drop_zero, List.take_length, List.cons_append, List.nil_append, ↓indexW, ↓copyW, ↓storeW, ↓nilCheckW, ↓fieldAddrW, ↓setL, List.set_cons_zero, List.set_cons_succ, ↓dataB, ↓dataB0, ↓makeW, known, List.append_assoc, Nat.zero_add, List.map_append, beq_self_eq_true, ↓isBytes, Nat.reduceAdd, Nat.reduceMul, ↓IntKind.bits, Int.reduceToNat, Int.reducePow, List.take_succ_cons, List.take_zero, Int.toNat_natCast, toNat_add, fillW, List.all_cons, List.all_nil, Value.oneCell', ↓okViews0, bytesI_mk, UInt8.reduceToNat, Int.cast_ofNat_Int, ofNat_cast])
      | (refine call_by hc (views_data rfl) ⟨⟨trivial, trivial, trivial, trivial, trivial⟩, trivial, trivial⟩ rfl ?_)
      | (simp -dsimp (disch := first | assumption | omega) only [dec_t, dec_f])
      | (refine And.intro ?_ ?_
         · first | omega | decide | (simp (disch := omega) only [toNat_add, Int.toNat_natCast, Int.reduceToNat, Int.reducePow, Nat.min_eq_left, wrap_i64, wrap_u64, wrap_u8, and7_u8, fdiv_pos, tdiv_pos, tmod_pos]; done) | (simp (disch := omega) only [toNat_add, Int.toNat_natCast, Int.reduceToNat, Int.reducePow, Nat.min_eq_left, wrap_i64, wrap_u64, wrap_u8, and7_u8, fdiv_pos, tdiv_pos, tmod_pos]; omega) | (simp; done) | (simp; omega))
      | (simp (disch := omega) only [toNat_add, Int.toNat_natCast, Int.reduceToNat, Int.reducePow, Nat.min_eq_left, wrap_i64, wrap_u64, wrap_u8, and7_u8, fdiv_pos, tdiv_pos, tmod_pos])
      | fail
  · rw [if_neg he]
    have he0 : checkE [115] v f w p = 0 := by omega
    rw [he0] at hc
    by_cases h0 : p < 0
    · rw [if_neg (by omega)]
      have hpad := whole_pad v f w p [] s false ⟨by simp, hl⟩
      obtain ⟨t, e, hp⟩ := padR_tup f w p [] s false
      rw [hp] at hpad ⊢
      repeat' first
        | (with_reducible refine PW.seq ?_)
        | (with_reducible refine PW.block ?_)
        | (with_reducible refine PW.region ttOk ?_ ?_
           · rfl)
        | (with_reducible refine PW.regionD ttOk mixed ?_ ?_ ?_
           · rfl
           · rfl)
        | (with_reducible refine PW.fork ?_)
        | (with_reducible refine PW.skip ?_)
        | (with_reducible refine PW.exit ?_)
        | (with_reducible refine PW.ret ?_)
        | (with_reducible refine ifW_dec (fun g => ?_) (fun g => ?_) <;> first | (exfalso; omega) | (simp -dsimp only [g, ifW_tt, ifW_ff, ifW_tf, ifW_ft, decide_true, decide_false, Bool.not_true, Bool.not_false]))
        | (with_reducible refine condE_dec (fun g => ?_) (fun g => ?_) <;> try (exfalso; omega))
        | (with_reducible refine condE_not (fun g => ?_) (fun g => ?_) <;> try (exfalso; omega))
        | (simp -dsimp only [↓opsW, ↓opsD, ↓stepD, ↓wantW_eq, ↓opW, ↓qw, ↓ev, ↓toPV, ↓toPV0, ↓thenQ, ↓blockQ, ↓Frame.put, ↓get_cons, get_nil, Nat.reduceBEq, Nat.reduceEqDiff, ↓reduceIte, ↓guardV, ↓dstAt, List.getElem?_cons_succ, List.getElem?_cons_zero, Option.bind_some, ↓isEffect, ↓tt, ↓lenW, ↓binW, ↓unW, ↓idxW, ↓load_int, ↓rowSz, ↓rowLen, List.getD_cons_zero, List.getD_cons_succ, Nat.reduceLT, ↓loadW, ↓partW, ↓cellsOf, ↓isOther, ↓isStruct, ifW_tt, ifW_ff, ifW_tf, ifW_ft, condE_t, condE_f, true_and, and_true, cond_true, cond_false, decide_true, decide_false, Bool.not_true, Bool.not_false, Fin_ret, Fin_normal, FinH_ret, FinH_normal, ↓resHs, ↓resH, ↓resVs, ↓resV, ↓view, ↓view0, ↓okView, ↓okView0, ↓oneOf, ↓extractW, List.map_cons, List.map_nil, Array.toList, ↓sliceW, ↓elemSize, ↓cutW, ↓cutL, ↓optI, Option.map_some, Option.map_none, ↓litW, inOrder, Bool.true_and, Bool.and_true, decide_eq_true_eq, ↓intsOf, ↓builtinW, ↓appW, ↓notInt, ↓baseI, ↓srcI, ↓putRes, ↓Heap.new, ↓Heap.newT, dropT, ↓elemT, ↓Heap.move, ↓Heap.moveT, hasT, getT, ↓Heap.set, setRow, killRows, killRow, ↓Heap.get, getRow, ↓killF, Frame.kill, ↓Go.PV.kill, ↓kill1, ↓kill0, ↓convW, ↓strOf, List.length_cons, List.length_nil, List.length_append, List.drop_zero, List.take_length, List.cons_append, List.nil_append, ↓indexW, ↓copyW, ↓storeW, ↓nilCheckW, ↓fieldAddrW, ↓setL, List.set_cons_zero, List.set_cons_succ, ↓dataB, ↓dataB0, ↓makeW, known, List.append_assoc, Nat.zero_add, List.map_append, beq_self_eq_true, ↓isBytes, Nat.reduceAdd, Nat.reduceMul, ↓IntKind.bits, Int.reduceToNat, Int.reducePow, List.take_succ_cons, List.take_zero, Int.toNat_natCast, toNat_add, fillW, List.all_cons, List.all_nil, Value.oneCell', ↓okViews0, bytesI_mk, UInt8.reduceToNat, Int.cast_ofNat_Int, ofNat_cast])
        | (refine call_by hc (views_data rfl) ⟨⟨trivial, trivial, trivial, trivial, trivial⟩, trivial, trivial⟩ rfl ?_)
        | (refine call_by hpad (views_data rfl) ⟨⟨trivial, trivial, trivial, trivial, trivial⟩, trivial, trivial, trivial, trivial⟩ rfl ?_)
        | (simp -dsimp (disch := first | assumption | omega) only [dec_t, dec_f])
        | (refine And.intro ?_ ?_
           · first | omega | decide | (simp (disch := omega) only [toNat_add, Int.toNat_natCast, Int.reduceToNat, Int.reducePow, Nat.min_eq_left, wrap_i64, wrap_u64, wrap_u8, and7_u8, fdiv_pos, tdiv_pos, tmod_pos]; done) | (simp (disch := omega) only [toNat_add, Int.toNat_natCast, Int.reduceToNat, Int.reducePow, Nat.min_eq_left, wrap_i64, wrap_u64, wrap_u8, and7_u8, fdiv_pos, tdiv_pos, tmod_pos]; omega) | (simp; done) | (simp; omega))
        | (simp (disch := omega) only [toNat_add, Int.toNat_natCast, Int.reduceToNat, Int.reducePow, Nat.min_eq_left, wrap_i64, wrap_u64, wrap_u8, and7_u8, fdiv_pos, tdiv_pos, tmod_pos])
        | fail
    · rw [if_pos (by omega)]
      obtain ⟨k, rfl⟩ := Int.eq_ofNat_of_zero_le (show 0 ≤ p by omega)
      rw [Int.toNat_natCast]
      have hpad := whole_pad v f w (k : Int) [] (s.take k) false ⟨by simp, by simp; omega⟩
      obtain ⟨t, e, hp⟩ := padR_tup f w (k : Int) [] (s.take k) false
      rw [hp] at hpad ⊢
      have hmin : (if (k : Int) < (s.length : Int) then (k : Int) else (s.length : Int)).toNat = min k s.length := by split <;> omega
      have htake := take_min s k
      have hmin2 : 0 ≤ (if (k : Int) < (s.length : Int) then (k : Int) else (s.length : Int)) ∧ (if (k : Int) < (s.length : Int) then (k : Int) else (s.length : Int)) ≤ (s.length : Int) := by split <;> omega
      repeat' first
        | (simp only [hmin, htake])
        | (with_reducible refine PW.seq ?_)
        | (with_reducible refine PW.block ?_)
        | (with_reducible refine PW.region ttOk ?_ ?_
           · rfl)
        | (with_reducible refine PW.regionD ttOk mixed ?_ ?_ ?_
           · rfl
           · rfl)
        | (with_reducible refine PW.fork ?_)
        | (with_reducible refine PW.skip ?_)
        | (with_reducible refine PW.exit ?_)
        | (with_reducible refine PW.ret ?_)
        | (with_reducible refine ifW_dec (fun g => ?_) (fun g => ?_) <;> first | (exfalso; omega) | (simp -dsimp only [g, ifW_tt, ifW_ff, ifW_tf, ifW_ft, decide_true, decide_false, Bool.not_true, Bool.not_false]))
        | (with_reducible refine condE_dec (fun g => ?_) (fun g => ?_) <;> try (exfalso; omega))
        | (with_reducible refine condE_not (fun g => ?_) (fun g => ?_) <;> try (exfalso; omega))
        | (simp -dsimp only [↓opsW, ↓opsD, ↓stepD, ↓wantW_eq, ↓opW, ↓qw, ↓ev, ↓toPV, ↓toPV0, ↓thenQ, ↓blockQ, ↓Frame.put, ↓get_cons, get_nil, Nat.reduceBEq, Nat.reduceEqDiff, ↓reduceIte, ↓guardV, ↓dstAt, List.getElem?_cons_succ, List.getElem?_cons_zero, Option.bind_some, ↓isEffect, ↓tt, ↓lenW, ↓binW, ↓unW, ↓idxW, ↓load_int, ↓rowSz, ↓rowLen, List.getD_cons_zero, List.getD_cons_succ, Nat.reduceLT, ↓loadW, ↓partW, ↓cellsOf, ↓isOther, ↓isStruct, ifW_tt, ifW_ff, ifW_tf, ifW_ft, condE_t, condE_f, true_and, and_true, cond_true, cond_false, decide_true, decide_false, Bool.not_true, Bool.not_false, Fin_ret, Fin_normal, FinH_ret, FinH_normal, ↓resHs, ↓resH, ↓resVs, ↓resV, ↓view, ↓view0, ↓okView, ↓okView0, ↓oneOf, ↓extractW, List.map_cons, List.map_nil, Array.toList, ↓sliceW, ↓elemSize, ↓cutW, ↓cutL, ↓optI, Option.map_some, Option.map_none, ↓litW, inOrder, Bool.true_and, Bool.and_true, decide_eq_true_eq, ↓intsOf, ↓builtinW, ↓appW, ↓notInt, ↓baseI, ↓srcI, ↓putRes, ↓Heap.new, ↓Heap.newT, dropT, ↓elemT, ↓Heap.move, ↓Heap.moveT, hasT, getT, ↓Heap.set, setRow, killRows, killRow, ↓Heap.get, getRow, ↓killF, Frame.kill, ↓Go.PV.kill, ↓kill1, ↓kill0, ↓convW, ↓strOf, List.length_cons, List.length_nil, List.length_append, List.drop_zero, List.take_length, List.cons_append, List.nil_append, ↓indexW, ↓copyW, ↓storeW, ↓nilCheckW, ↓fieldAddrW, ↓setL, List.set_cons_zero, List.set_cons_succ, ↓dataB, ↓dataB0, ↓makeW, known, List.append_assoc, Nat.zero_add, List.map_append, beq_self_eq_true, ↓isBytes, Nat.reduceAdd, Nat.reduceMul, ↓IntKind.bits, Int.reduceToNat, Int.reducePow, List.take_succ_cons, List.take_zero, Int.toNat_natCast, toNat_add, fillW, List.all_cons, List.all_nil, Value.oneCell', ↓okViews0, bytesI_mk, UInt8.reduceToNat, Int.cast_ofNat_Int, ofNat_cast])
        | (refine call_by hc (views_data rfl) ⟨⟨trivial, trivial, trivial, trivial, trivial⟩, trivial, trivial⟩ rfl ?_)
        | (refine call_by hpad (views_data rfl) ⟨⟨trivial, trivial, trivial, trivial, trivial⟩, trivial, trivial, trivial, trivial⟩ rfl ?_)
        | (simp -dsimp (disch := first | assumption | omega) only [dec_t, dec_f])
        | (refine And.intro ?_ ?_
           · first | omega | decide | (simp (disch := omega) only [toNat_add, Int.toNat_natCast, Int.reduceToNat, Int.reducePow, Nat.min_eq_left, wrap_i64, wrap_u64, wrap_u8, and7_u8, fdiv_pos, tdiv_pos, tmod_pos]; done) | (simp (disch := omega) only [toNat_add, Int.toNat_natCast, Int.reduceToNat, Int.reducePow, Nat.min_eq_left, wrap_i64, wrap_u64, wrap_u8, and7_u8, fdiv_pos, tdiv_pos, tmod_pos]; omega) | (simp; done) | (simp; omega))
        | (simp (disch := omega) only [toNat_add, Int.toNat_natCast, Int.reduceToNat, Int.reducePow, Nat.min_eq_left, wrap_i64, wrap_u64, wrap_u8, and7_u8, fdiv_pos, tdiv_pos, tmod_pos])
        | fail
end Go.Proofs.Ytmoigffjpijpaab


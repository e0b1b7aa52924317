import Derived.Test.YtmoigffjpijpaabDoorM8
import Derived.Test.YtmoigffjpijpaabDoorL1
set_option linter.unusedVariables false
set_option linter.unusedSimpArgs false
namespace Go.Proofs.YtmoigffjpijpaabDoor
open Go Go.PV

theorem worth_ten {c : Int} : worth c < 10 ↔ 48 ≤ c ∧ c ≤ 57 := by
  unfold worth
  repeat' split
  all_goals omega

theorem rounds_both (s : List Int) (hs : Bytes' s) (hsl : s.length ≤ 140737488351232) (keep : Int) (hkp : -9223372036854775808 ≤ keep ∧ keep ≤ 9223372036854775807) (mo : Nat) : ∃ (t : List Int) (d : Bool) (e : Int),
    Meets Tryd.prog 21 [.str s, .int .i64 keep, .bool (decide (mo = 1))] (.tup [.str t, .bool d, .int .i64 e]) ∧ Meets Tryd.prog 22 [.str s, .int .i64 keep, .bool (decide (mo = 1))] (.tup [.str t, .bool d, .int .i64 e]) := by
  by_cases hk0 : keep < 0
  · refine ⟨[], false, 1, ?_, ?_⟩
    · refine meets_by ttOk Tryd.func21 Tryd.ntmps21 Tryd.results21 (by kernel_rfl) (c := _) rfl rfl rfl fun E => ?_
      simp only [argsFrame]
      repeat' first
        | (with_reducible refine PW.seq ?_)
        | (with_reducible refine PW.block ?_)
        | (with_reducible refine PW.region ttOk ?_ ?_
           · rfl)
        | (with_reducible refine PW.regionD ttOk mixed ?_ ?_ ?_
           · rfl
           · rfl)
        | (with_reducible refine PW.fork ?_)
        | (with_reducible refine PW.skip ?_)
        | (with_reducible refine PW.exit ?_)
        | (with_reducible refine PW.ret ?_)
        | (with_reducible refine ifW_dec (fun g => ?_) (fun g => ?_) <;> first | (exfalso; omega) | (simp -dsimp only [g, ifW_tt, ifW_ff, ifW_tf, ifW_ft, decide_true, decide_false, Bool.not_true, Bool.not_false]))
        | (with_reducible refine condE_dec (fun g => ?_) (fun g => ?_) <;> try (exfalso; omega))
        | (with_reducible refine condE_not (fun g => ?_) (fun g => ?_) <;> try (exfalso; omega))
        | (simp -dsimp only [↓opsW, ↓opsD, ↓stepD, ↓wantW_eq, ↓opW, ↓qw, ↓ev, ↓toPV, ↓toPV0, ↓thenQ, ↓blockQ, ↓Frame.put, ↓get_cons, get_nil, Nat.reduceBEq, Nat.reduceEqDiff, ↓reduceIte, ↓guardV, ↓dstAt, List.getElem?_cons_succ, List.getElem?_cons_zero, Option.bind_some, ↓isEffect, ↓tt, ↓lenW, ↓binT, ↓asB, ↓boolT, ↓binW, ↓unW, ↓idxW, ↓load_int, ↓rowSz, ↓rowLen, List.getD_cons_zero, List.getD_cons_succ, Nat.reduceLT, ↓loadW, ↓partW, ↓cellsOf, ↓isOther, ↓isStruct, ifW_tt, ifW_ff, ifW_tf, ifW_ft, condE_t, condE_f, true_and, and_true, cond_true, cond_false, decide_true, decide_false, Bool.not_true, Bool.not_false, Fin_ret, Fin_normal, FinH_ret, FinH_normal, ↓resHs, ↓resH, ↓resVs, ↓resV, ↓view, ↓view0, ↓okView, ↓okView0, ↓oneOf, ↓extractW, List.map_cons, List.map_nil, Array.toList, ↓sliceW, ↓elemSize, ↓cutW, ↓cutL, ↓optI, Option.map_some, Option.map_none, ↓litW, inOrder, Bool.true_and, Bool.and_true, decide_eq_true_eq, ↓intsOf, ↓builtinW, ↓appW, ↓notInt, ↓baseI, ↓srcI, ↓putRes, ↓Heap.new, ↓Heap.newT, dropT, ↓elemT, ↓Heap.move, ↓Heap.moveT, hasT, getT, ↓Heap.set, setRow, killRows, killRow, ↓Heap.get, getRow, ↓killF, Frame.kill, ↓Go.PV.kill, ↓kill1, ↓kill0, ↓convW, ↓strOf, List.length_cons, List.length_nil, List.length_append, List.drop_zero, List.take_length, List.cons_append, List.nil_append, ↓indexW, ↓copyW, ↓storeW, ↓nilCheckW, ↓fieldAddrW, ↓setL, List.set_cons_zero, List.set_cons_succ, ↓dataB, ↓dataB0, ↓makeW, known, List.append_assoc, Nat.zero_add, List.map_append, beq_self_eq_true, ↓isBytes, Nat.reduceAdd, Nat.reduceMul, ↓IntKind.bits, Int.reduceToNat, Int.reducePow, List.take_succ_cons, List.take_zero, Int.toNat_natCast, toNat_add, fillW, List.all_cons, List.all_nil, Value.oneCell', ↓okViews0, bytesI_mk, UInt8.reduceToNat, Int.cast_ofNat_Int, ofNat_cast])
        | (simp -dsimp (disch := first | assumption | omega) only [dec_t, dec_f])
        | (refine And.intro ?_ ?_
           · first | omega | decide | (simp (disch := omega) only [toNat_add, Int.toNat_natCast, Int.reduceToNat, Int.reducePow, Nat.min_eq_left, wrap_i64, wrap_u64, wrap_u8, and7_u8, fdiv_pos, tdiv_pos, tmod_pos]; done) | (simp (disch := omega) only [toNat_add, Int.toNat_natCast, Int.reduceToNat, Int.reducePow, Nat.min_eq_left, wrap_i64, wrap_u64, wrap_u8, and7_u8, fdiv_pos, tdiv_pos, tmod_pos]; omega) | (simp; done) | (simp; omega))
        | (simp (disch := omega) only [toNat_add, Int.toNat_natCast, Int.reduceToNat, Int.reducePow, Nat.min_eq_left, wrap_i64, wrap_u64, wrap_u8, and7_u8, fdiv_pos, tdiv_pos, tmod_pos])
        | fail
    · refine meets_by ttOk Tryd.func22 Tryd.ntmps22 Tryd.results22 (by kernel_rfl) (c := _) rfl rfl rfl fun E => ?_
      simp only [argsFrame]
      repeat' first
        | (with_reducible refine PW.seq ?_)
        | (with_reducible refine PW.block ?_)
        | (with_reducible refine PW.region ttOk ?_ ?_
           · rfl)
        | (with_reducible refine PW.regionD ttOk mixed ?_ ?_ ?_
           · rfl
           · rfl)
        | (with_reducible refine PW.fork ?_)
        | (with_reducible refine PW.skip ?_)
        | (with_reducible refine PW.exit ?_)
        | (with_reducible refine PW.ret ?_)
        | (with_reducible refine ifW_dec (fun g => ?_) (fun g => ?_) <;> first | (exfalso; omega) | (simp -dsimp only [g, ifW_tt, ifW_ff, ifW_tf, ifW_ft, decide_true, decide_false, Bool.not_true, Bool.not_false]))
        | (with_reducible refine condE_dec (fun g => ?_) (fun g => ?_) <;> try (exfalso; omega))
        | (with_reducible refine condE_not (fun g => ?_) (fun g => ?_) <;> try (exfalso; omega))
        | (simp -dsimp only [↓opsW, ↓opsD, ↓stepD, ↓wantW_eq, ↓opW, ↓qw, ↓ev, ↓toPV, ↓toPV0, ↓thenQ, ↓blockQ, ↓Frame.put, ↓get_cons, get_nil, Nat.reduceBEq, Nat.reduceEqDiff, ↓reduceIte, ↓guardV, ↓dstAt, List.getElem?_cons_succ, List.getElem?_cons_zero, Option.bind_some, ↓isEffect, ↓tt, ↓lenW, ↓binT, ↓asB, ↓boolT, ↓binW, ↓unW, ↓idxW, ↓load_int, ↓rowSz, ↓rowLen, List.getD_cons_zero, List.getD_cons_succ, Nat.reduceLT, ↓loadW, ↓partW, ↓cellsOf, ↓isOther, ↓isStruct, ifW_tt, ifW_ff, ifW_tf, ifW_ft, condE_t, condE_f, true_and, and_true, cond_true, cond_false, decide_true, decide_false, Bool.not_true, Bool.not_false, Fin_ret, Fin_normal, FinH_ret, FinH_normal, ↓resHs, ↓resH, ↓resVs, ↓resV, ↓view, ↓view0, ↓okView, ↓okView0, ↓oneOf, ↓extractW, List.map_cons, List.map_nil, Array.toList, ↓sliceW, ↓elemSize, ↓cutW, ↓cutL, ↓optI, Option.map_some, Option.map_none, ↓litW, inOrder, Bool.true_and, Bool.and_true, decide_eq_true_eq, ↓intsOf, ↓builtinW, ↓appW, ↓notInt, ↓baseI, ↓srcI, ↓putRes, ↓Heap.new, ↓Heap.newT, dropT, ↓elemT, ↓Heap.move, ↓Heap.moveT, hasT, getT, ↓Heap.set, setRow, killRows, killRow, ↓Heap.get, getRow, ↓killF, Frame.kill, ↓Go.PV.kill, ↓kill1, ↓kill0, ↓convW, ↓strOf, List.length_cons, List.length_nil, List.length_append, List.drop_zero, List.take_length, List.cons_append, List.nil_append, ↓indexW, ↓copyW, ↓storeW, ↓nilCheckW, ↓fieldAddrW, ↓setL, List.set_cons_zero, List.set_cons_succ, ↓dataB, ↓dataB0, ↓makeW, known, List.append_assoc, Nat.zero_add, List.map_append, beq_self_eq_true, ↓isBytes, Nat.reduceAdd, Nat.reduceMul, ↓IntKind.bits, Int.reduceToNat, Int.reducePow, List.take_succ_cons, List.take_zero, Int.toNat_natCast, toNat_add, fillW, List.all_cons, List.all_nil, Value.oneCell', ↓okViews0, bytesI_mk, UInt8.reduceToNat, Int.cast_ofNat_Int, ofNat_cast])
        | (simp -dsimp (disch := first | assumption | omega) only [dec_t, dec_f])
        | (refine And.intro ?_ ?_
           · first | omega | decide | (simp (disch := omega) only [toNat_add, Int.toNat_natCast, Int.reduceToNat, Int.reducePow, Nat.min_eq_left, wrap_i64, wrap_u64, wrap_u8, and7_u8, fdiv_pos, tdiv_pos, tmod_pos]; done) | (simp (disch := omega) only [toNat_add, Int.toNat_natCast, Int.reduceToNat, Int.reducePow, Nat.min_eq_left, wrap_i64, wrap_u64, wrap_u8, and7_u8, fdiv_pos, tdiv_pos, tmod_pos]; omega) | (simp; done) | (simp; omega))
        | (simp (disch := omega) only [toNat_add, Int.toNat_natCast, Int.reduceToNat, Int.reducePow, Nat.min_eq_left, wrap_i64, wrap_u64, wrap_u8, and7_u8, fdiv_pos, tdiv_pos, tmod_pos])
        | fail
  by_cases hne : s = []
  · subst hne
    refine ⟨[], false, 30, ?_, ?_⟩
    · refine meets_by ttOk Tryd.func21 Tryd.ntmps21 Tryd.results21 (by kernel_rfl) (c := _) rfl rfl rfl fun E => ?_
      simp only [argsFrame]
      repeat' first
        | (with_reducible refine PW.seq ?_)
        | (with_reducible refine PW.block ?_)
        | (with_reducible refine PW.region ttOk ?_ ?_
           · rfl)
        | (with_reducible refine PW.regionD ttOk mixed ?_ ?_ ?_
           · rfl
           · rfl)
        | (with_reducible refine PW.fork ?_)
        | (with_reducible refine PW.skip ?_)
        | (with_reducible refine PW.exit ?_)
        | (with_reducible refine PW.ret ?_)
        | (with_reducible refine ifW_dec (fun g => ?_) (fun g => ?_) <;> first | (exfalso; omega) | (simp -dsimp only [g, ifW_tt, ifW_ff, ifW_tf, ifW_ft, decide_true, decide_false, Bool.not_true, Bool.not_false]))
        | (with_reducible refine condE_dec (fun g => ?_) (fun g => ?_) <;> try (exfalso; omega))
        | (with_reducible refine condE_not (fun g => ?_) (fun g => ?_) <;> try (exfalso; omega))
        | (simp -dsimp only [↓opsW, ↓opsD, ↓stepD, ↓wantW_eq, ↓opW, ↓qw, ↓ev, ↓toPV, ↓toPV0, ↓thenQ, ↓blockQ, ↓Frame.put, ↓get_cons, get_nil, Nat.reduceBEq, Nat.reduceEqDiff, ↓reduceIte, ↓guardV, ↓dstAt, List.getElem?_cons_succ, List.getElem?_cons_zero, Option.bind_some, ↓isEffect, ↓tt, ↓lenW, ↓binT, ↓asB, ↓boolT, ↓binW, ↓unW, ↓idxW, ↓load_int, ↓rowSz, ↓rowLen, List.getD_cons_zero, List.getD_cons_succ, Nat.reduceLT, ↓loadW, ↓partW, ↓cellsOf, ↓isOther, ↓isStruct, ifW_tt, ifW_ff, ifW_tf, ifW_ft, condE_t, condE_f, true_and, and_true, cond_true, cond_false, decide_true, decide_false, Bool.not_true, Bool.not_false, Fin_ret, Fin_normal, FinH_ret, FinH_normal, ↓resHs, ↓resH, ↓resVs, ↓resV, ↓view, ↓view0, ↓okView, ↓okView0, ↓oneOf, ↓extractW, List.map_cons, List.map_nil, Array.toList, ↓sliceW, ↓elemSize, ↓cutW, ↓cutL, ↓optI, Option.map_some, Option.map_none, ↓litW, inOrder, Bool.true_and, Bool.and_true, decide_eq_true_eq, ↓intsOf, ↓builtinW, ↓appW, ↓notInt, ↓baseI, ↓srcI, ↓putRes, ↓Heap.new, ↓Heap.newT, dropT, ↓elemT, ↓Heap.move, ↓Heap.moveT, hasT, getT, ↓Heap.set, setRow, killRows, killRow, ↓Heap.get, getRow, ↓killF, Frame.kill, ↓Go.PV.kill, ↓kill1, ↓kill0, ↓convW, ↓strOf, List.length_cons, List.length_nil, List.length_append, List.drop_zero, List.take_length, List.cons_append, List.nil_append, ↓indexW, ↓copyW, ↓storeW, ↓nilCheckW, ↓fieldAddrW, ↓setL, List.set_cons_zero, List.set_cons_succ, ↓dataB, ↓dataB0, ↓makeW, known, List.append_assoc, Nat.zero_add, List.map_append, beq_self_eq_true, ↓isBytes, Nat.reduceAdd, Nat.reduceMul, ↓IntKind.bits, Int.reduceToNat, Int.reducePow, List.take_succ_cons, List.take_zero, Int.toNat_natCast, toNat_add, fillW, List.all_cons, List.all_nil, Value.oneCell', ↓okViews0, bytesI_mk, UInt8.reduceToNat, Int.cast_ofNat_Int, ofNat_cast])
        | (simp -dsimp (disch := first | assumption | omega) only [dec_t, dec_f])
        | (refine And.intro ?_ ?_
           · first | omega | decide | (simp (disch := omega) only [toNat_add, Int.toNat_natCast, Int.reduceToNat, Int.reducePow, Nat.min_eq_left, wrap_i64, wrap_u64, wrap_u8, and7_u8, fdiv_pos, tdiv_pos, tmod_pos]; done) | (simp (disch := omega) only [toNat_add, Int.toNat_natCast, Int.reduceToNat, Int.reducePow, Nat.min_eq_left, wrap_i64, wrap_u64, wrap_u8, and7_u8, fdiv_pos, tdiv_pos, tmod_pos]; omega) | (simp; done) | (simp; omega))
        | (simp (disch := omega) only [toNat_add, Int.toNat_natCast, Int.reduceToNat, Int.reducePow, Nat.min_eq_left, wrap_i64, wrap_u64, wrap_u8, and7_u8, fdiv_pos, tdiv_pos, tmod_pos])
        | fail
      all_goals (exfalso; rename_i g; revert g; simp)
    · refine meets_by ttOk Tryd.func22 Tryd.ntmps22 Tryd.results22 (by kernel_rfl) (c := _) rfl rfl rfl fun E => ?_
      simp only [argsFrame]
      repeat' first
        | (simp only [eq_self, decide_true])
        | (with_reducible refine PW.seq ?_)
        | (with_reducible refine PW.block ?_)
        | (with_reducible refine PW.region ttOk ?_ ?_
           · rfl)
        | (with_reducible refine PW.regionD ttOk mixed ?_ ?_ ?_
           · rfl
           · rfl)
        | (with_reducible refine PW.fork ?_)
        | (with_reducible refine PW.skip ?_)
        | (with_reducible refine PW.exit ?_)
        | (with_reducible refine PW.ret ?_)
        | (with_reducible refine ifW_dec (fun g => ?_) (fun g => ?_) <;> first | (exfalso; omega) | (simp -dsimp only [g, ifW_tt, ifW_ff, ifW_tf, ifW_ft, decide_true, decide_false, Bool.not_true, Bool.not_false]))
        | (with_reducible refine condE_dec (fun g => ?_) (fun g => ?_) <;> try (exfalso; omega))
        | (with_reducible refine condE_not (fun g => ?_) (fun g => ?_) <;> try (exfalso; omega))
        | (simp -dsimp only [↓opsW, ↓opsD, ↓stepD, ↓wantW_eq, ↓opW, ↓qw, ↓ev, ↓toPV, ↓toPV0, ↓thenQ, ↓blockQ, ↓Frame.put, ↓get_cons, get_nil, Nat.reduceBEq, Nat.reduceEqDiff, ↓reduceIte, ↓guardV, ↓dstAt, List.getElem?_cons_succ, List.getElem?_cons_zero, Option.bind_some, ↓isEffect, ↓tt, ↓lenW, ↓binT, ↓asB, ↓boolT, ↓binW, ↓unW, ↓idxW, ↓load_int, ↓rowSz, ↓rowLen, List.getD_cons_zero, List.getD_cons_succ, Nat.reduceLT, ↓loadW, ↓partW, ↓cellsOf, ↓isOther, ↓isStruct, ifW_tt, ifW_ff, ifW_tf, ifW_ft, condE_t, condE_f, true_and, and_true, cond_true, cond_false, decide_true, decide_false, Bool.not_true, Bool.not_false, Fin_ret, Fin_normal, FinH_ret, FinH_normal, ↓resHs, ↓resH, ↓resVs, ↓resV, ↓view, ↓view0, ↓okView, ↓okView0, ↓oneOf, ↓extractW, List.map_cons, List.map_nil, Array.toList, ↓sliceW, ↓elemSize, ↓cutW, ↓cutL, ↓optI, Option.map_some, Option.map_none, ↓litW, inOrder, Bool.true_and, Bool.and_true, decide_eq_true_eq, ↓intsOf, ↓builtinW, ↓appW, ↓notInt, ↓baseI, ↓srcI, ↓putRes, ↓Heap.new, ↓Heap.newT, dropT, ↓elemT, ↓Heap.move, ↓Heap.moveT, hasT, getT, ↓Heap.set, setRow, killRows, killRow, ↓Heap.get, getRow, ↓killF, Frame.kill, ↓Go.PV.kill, ↓kill1, ↓kill0, ↓convW, ↓strOf, List.length_cons, List.length_nil, List.length_append, List.drop_zero, List.take_length, List.cons_append, List.nil_append, ↓indexW, ↓copyW, ↓storeW, ↓nilCheckW, ↓fieldAddrW, ↓setL, List.set_cons_zero, List.set_cons_succ, ↓dataB, ↓dataB0, ↓makeW, known, List.append_assoc, Nat.zero_add, List.map_append, beq_self_eq_true, ↓isBytes, Nat.reduceAdd, Nat.reduceMul, ↓IntKind.bits, Int.reduceToNat, Int.reducePow, List.take_succ_cons, List.take_zero, Int.toNat_natCast, toNat_add, fillW, List.all_cons, List.all_nil, Value.oneCell', ↓okViews0, bytesI_mk, UInt8.reduceToNat, Int.cast_ofNat_Int, ofNat_cast])
        | (simp -dsimp (disch := first | assumption | omega) only [dec_t, dec_f])
        | (refine And.intro ?_ ?_
           · first | omega | decide | (simp (disch := omega) only [toNat_add, Int.toNat_natCast, Int.reduceToNat, Int.reducePow, Nat.min_eq_left, wrap_i64, wrap_u64, wrap_u8, and7_u8, fdiv_pos, tdiv_pos, tmod_pos]; done) | (simp (disch := omega) only [toNat_add, Int.toNat_natCast, Int.reduceToNat, Int.reducePow, Nat.min_eq_left, wrap_i64, wrap_u64, wrap_u8, and7_u8, fdiv_pos, tdiv_pos, tmod_pos]; omega) | (simp; done) | (simp; omega))
        | (simp (disch := omega) only [toNat_add, Int.toNat_natCast, Int.reduceToNat, Int.reducePow, Nat.min_eq_left, wrap_i64, wrap_u64, wrap_u8, and7_u8, fdiv_pos, tdiv_pos, tmod_pos])
        | fail
  have hl0 : 0 < s.length := List.length_pos_iff.2 hne
  have hnd : decide (s = []) = false := decide_eq_false hne
  by_cases hdg : ∀ j, j < s.length → worth (s.getD j 0) < 10
  · have hD : Digs s := fun x hx => by
      obtain ⟨j, hj, rfl⟩ := List.getElem_of_mem hx
      have := hdg j hj
      rw [List.getD_eq_getElem?_getD, List.getElem?_eq_getElem hj] at this
      exact worth_ten.1 this
    obtain ⟨k, rfl⟩ := Int.eq_ofNat_of_zero_le (show 0 ≤ keep by omega)
    by_cases hkl : k < s.length
    · obtain ⟨z, hz⟩ : ∃ z : Nat, z = 1 ↔ AllZ (s.drop (k + 1)) := by
        by_cases h : AllZ (s.drop (k + 1))
        · exact ⟨1, fun _ => h, fun _ => rfl⟩
        · exact ⟨0, fun h2 => by omega, fun h2 => absurd h2 h⟩
      refine ⟨_, _, 0, ref_round s hD hsl k hkl mo z ?_, num_round s hD hsl k hkl mo z hz⟩
      rw [hz]
      unfold AllZ
      have hg : ∀ j, (s.drop (k + 1)).getD j 0 = (s.drop k).getD (j + 1) 0 := fun j => by
        rw [List.getD_eq_getElem?_getD, List.getD_eq_getElem?_getD, List.getElem?_drop, List.getElem?_drop, show k + 1 + j = k + (j + 1) by omega]
      constructor
      · intro h j hj1 hj2
        have := h (j - 1) (by rw [List.length_drop] at hj2 ⊢; omega)
        rw [hg, show j - 1 + 1 = j by omega] at this
        exact this
      · intro h j hj
        rw [hg]
        exact h (j + 1) (by omega) (by rw [List.length_drop] at hj ⊢; omega)
    · have hwr := ref_wrong_ok s hs (by omega) 10 (by decide) hdg
      refine ⟨s, false, 0, ?_, ?_⟩
      · refine meets_by ttOk Tryd.func21 Tryd.ntmps21 Tryd.results21 (by kernel_rfl) (c := _) rfl rfl rfl fun E => ?_
        simp only [argsFrame]
        repeat' first
          | (with_reducible refine PW.seq ?_)
          | (with_reducible refine PW.block ?_)
          | (with_reducible refine PW.region ttOk ?_ ?_
             · rfl)
          | (with_reducible refine PW.regionD ttOk mixed ?_ ?_ ?_
             · rfl
             · rfl)
          | (with_reducible refine PW.fork ?_)
          | (with_reducible refine PW.skip ?_)
          | (with_reducible refine PW.exit ?_)
          | (with_reducible refine PW.ret ?_)
          | (with_reducible refine ifW_dec (fun g => ?_) (fun g => ?_) <;> first | (exfalso; omega) | (simp -dsimp only [g, ifW_tt, ifW_ff, ifW_tf, ifW_ft, decide_true, decide_false, Bool.not_true, Bool.not_false]))
          | (with_reducible refine condE_dec (fun g => ?_) (fun g => ?_) <;> try (exfalso; omega))
          | (with_reducible refine condE_not (fun g => ?_) (fun g => ?_) <;> try (exfalso; omega))
          | (simp -dsimp only [↓opsW, ↓opsD, ↓stepD, ↓wantW_eq, ↓opW, ↓qw, ↓ev, ↓toPV, ↓toPV0, ↓thenQ, ↓blockQ, ↓Frame.put, ↓get_cons, get_nil, Nat.reduceBEq, Nat.reduceEqDiff, ↓reduceIte, ↓guardV, ↓dstAt, List.getElem?_cons_succ, List.getElem?_cons_zero, Option.bind_some, ↓isEffect, ↓tt, ↓lenW, ↓binT, ↓asB, ↓boolT, ↓binW, ↓unW, ↓idxW, ↓load_int, ↓rowSz, ↓rowLen, List.getD_cons_zero, List.getD_cons_succ, Nat.reduceLT, ↓loadW, ↓partW, ↓cellsOf, ↓isOther, ↓isStruct, ifW_tt, ifW_ff, ifW_tf, ifW_ft, condE_t, condE_f, true_and, and_true, cond_true, cond_false, decide_true, decide_false, Bool.not_true, Bool.not_false, Fin_ret, Fin_normal, FinH_ret, FinH_normal, ↓resHs, ↓resH, ↓resVs, ↓resV, ↓view, ↓view0, ↓okView, ↓okView0, ↓oneOf, ↓extractW, List.map_cons, List.map_nil, Array.toList, ↓sliceW, ↓elemSize, ↓cutW, ↓cutL, ↓optI, Option.map_some, Option.map_none, ↓litW, inOrder, Bool.true_and, Bool.and_true, decide_eq_true_eq, ↓intsOf, ↓builtinW, ↓appW, ↓notInt, ↓baseI, ↓srcI, ↓putRes, ↓Heap.new, ↓Heap.newT, dropT, ↓elemT, ↓Heap.move, ↓Heap.moveT, hasT, getT, ↓Heap.set, setRow, killRows, killRow, ↓Heap.get, getRow, ↓killF, Frame.kill, ↓Go.PV.kill, ↓kill1, ↓kill0, ↓convW, ↓strOf, List.length_cons, List.length_nil, List.length_append, List.drop_zero, List.take_length, List.cons_append, List.nil_append, ↓indexW, ↓copyW, ↓storeW, ↓nilCheckW, ↓fieldAddrW, ↓setL, List.set_cons_zero, List.set_cons_succ, ↓dataB, ↓dataB0, ↓makeW, known, List.append_assoc, Nat.zero_add, List.map_append, beq_self_eq_true, ↓isBytes, Nat.reduceAdd, Nat.reduceMul, ↓IntKind.bits, Int.reduceToNat, Int.reducePow, List.take_succ_cons, List.take_zero, Int.toNat_natCast, toNat_add, fillW, List.all_cons, List.all_nil, Value.oneCell', ↓okViews0, bytesI_mk, UInt8.reduceToNat, Int.cast_ofNat_Int, ofNat_cast])
          | (refine call_by hwr (views_data rfl) ⟨trivial, trivial, trivial⟩ rfl ?_)
          | (simp -dsimp (disch := first | assumption | omega) only [dec_t, dec_f])
          | (refine And.intro ?_ ?_
             · first | omega | decide | (simp (disch := omega) only [toNat_add, Int.toNat_natCast, Int.reduceToNat, Int.reducePow, Nat.min_eq_left, wrap_i64, wrap_u64, wrap_u8, and7_u8, fdiv_pos, tdiv_pos, tmod_pos]; done) | (simp (disch := omega) only [toNat_add, Int.toNat_natCast, Int.reduceToNat, Int.reducePow, Nat.min_eq_left, wrap_i64, wrap_u64, wrap_u8, and7_u8, fdiv_pos, tdiv_pos, tmod_pos]; omega) | (simp; done) | (simp; omega))
          | (simp (disch := omega) only [toNat_add, Int.toNat_natCast, Int.reduceToNat, Int.reducePow, Nat.min_eq_left, wrap_i64, wrap_u64, wrap_u8, and7_u8, fdiv_pos, tdiv_pos, tmod_pos])
          | fail
      · refine meets_by ttOk Tryd.func22 Tryd.ntmps22 Tryd.results22 (by kernel_rfl) (c := _) rfl rfl rfl fun E => ?_
        simp only [argsFrame]
        repeat' first
          | (simp only [hnd])
          | (with_reducible refine PW.seq ?_)
          | (with_reducible refine PW.block ?_)
          | (with_reducible refine PW.region ttOk ?_ ?_
             · rfl)
          | (with_reducible refine PW.regionD ttOk mixed ?_ ?_ ?_
             · rfl
             · rfl)
          | (with_reducible refine PW.fork ?_)
          | (with_reducible refine PW.skip ?_)
          | (with_reducible refine PW.exit ?_)
          | (with_reducible refine PW.ret ?_)
          | (with_reducible refine ifW_dec (fun g => ?_) (fun g => ?_) <;> first | (exfalso; omega) | (simp -dsimp only [g, ifW_tt, ifW_ff, ifW_tf, ifW_ft, decide_true, decide_false, Bool.not_true, Bool.not_false]))
          | (with_reducible refine condE_dec (fun g => ?_) (fun g => ?_) <;> try (exfalso; omega))
          | (with_reducible refine condE_not (fun g => ?_) (fun g => ?_) <;> try (exfalso; omega))
          | (simp -dsimp only [↓opsW, ↓opsD, ↓stepD, ↓wantW_eq, ↓opW, ↓qw, ↓ev, ↓toPV, ↓toPV0, ↓thenQ, ↓blockQ, ↓Frame.put, ↓get_cons, get_nil, Nat.reduceBEq, Nat.reduceEqDiff, ↓reduceIte, ↓guardV, ↓dstAt, List.getElem?_cons_succ, List.getElem?_cons_zero, Option.bind_some, ↓isEffect, ↓tt, ↓lenW, ↓binT, ↓asB, ↓boolT, ↓binW, ↓unW, ↓idxW, ↓load_int, ↓rowSz, ↓rowLen, List.getD_cons_zero, List.getD_cons_succ, Nat.reduceLT, ↓loadW, ↓partW, ↓cellsOf, ↓isOther, ↓isStruct, ifW_tt, ifW_ff, ifW_tf, ifW_ft, condE_t, condE_f, true_and, and_true, cond_true, cond_false, decide_true, decide_false, Bool.not_true, Bool.not_false, Fin_ret, Fin_normal, FinH_ret, FinH_normal, ↓resHs, ↓resH, ↓resVs, ↓resV, ↓view, ↓view0, ↓okView, ↓okView0, ↓oneOf, ↓extractW, List.map_cons, List.map_nil, Array.toList, ↓sliceW, ↓elemSize, ↓cutW, ↓cutL, ↓optI, Option.map_some, Option.map_none, ↓litW, inOrder, Bool.true_and, Bool.and_true, decide_eq_true_eq, ↓intsOf, ↓builtinW, ↓appW, ↓notInt, ↓baseI, ↓srcI, ↓putRes, ↓Heap.new, ↓Heap.newT, dropT, ↓elemT, ↓Heap.move, ↓Heap.moveT, hasT, getT, ↓Heap.set, setRow, killRows, killRow, ↓Heap.get, getRow, ↓killF, Frame.kill, ↓Go.PV.kill, ↓kill1, ↓kill0, ↓convW, ↓strOf, List.length_cons, List.length_nil, List.length_append, List.drop_zero, List.take_length, List.cons_append, List.nil_append, ↓indexW, ↓copyW, ↓storeW, ↓nilCheckW, ↓fieldAddrW, ↓setL, List.set_cons_zero, List.set_cons_succ, ↓dataB, ↓dataB0, ↓makeW, known, List.append_assoc, Nat.zero_add, List.map_append, beq_self_eq_true, ↓isBytes, Nat.reduceAdd, Nat.reduceMul, ↓IntKind.bits, Int.reduceToNat, Int.reducePow, List.take_succ_cons, List.take_zero, Int.toNat_natCast, toNat_add, fillW, List.all_cons, List.all_nil, Value.oneCell', ↓okViews0, bytesI_mk, UInt8.reduceToNat, Int.cast_ofNat_Int, ofNat_cast])
          | (simp -dsimp (disch := first | assumption | omega) only [dec_t, dec_f])
          | (refine And.intro ?_ ?_
             · first | omega | decide | (simp (disch := omega) only [toNat_add, Int.toNat_natCast, Int.reduceToNat, Int.reducePow, Nat.min_eq_left, wrap_i64, wrap_u64, wrap_u8, and7_u8, fdiv_pos, tdiv_pos, tmod_pos]; done) | (simp (disch := omega) only [toNat_add, Int.toNat_natCast, Int.reduceToNat, Int.reducePow, Nat.min_eq_left, wrap_i64, wrap_u64, wrap_u8, and7_u8, fdiv_pos, tdiv_pos, tmod_pos]; omega) | (simp; done) | (simp; omega))
          | (simp (disch := omega) only [toNat_add, Int.toNat_natCast, Int.reduceToNat, Int.reducePow, Nat.min_eq_left, wrap_i64, wrap_u64, wrap_u8, and7_u8, fdiv_pos, tdiv_pos, tmod_pos])
          | fail
        refine PW.loopA (fun m F H => ∃ i, i + m = s.length ∧ F = [(9, .int .i64 (i : Int)), (0, .str s), (1, .int .i64 (k : Int)), (2, .bool (decide (mo = 1)))] ∧ H = ⟨0, [], [], []⟩) s.length [(9, .int .i64 ((0 : Nat) : Int)), (0, .str s), (1, .int .i64 (k : Int)), (2, .bool (decide (mo = 1)))] ⟨0, [], [], []⟩ (Sub.norm ⟨rfl, rfl, rfl, rfl, trivial⟩ trivial (Nat.le_refl _) rfl rfl rfl rfl) ⟨0, by omega, rfl, rfl⟩ ?_
        rintro m F H ⟨i, hi, rfl, rfl⟩
        cases m with
        | zero =>
          obtain rfl : i = s.length := by omega
          repeat' first
            | (with_reducible refine PW.seq ?_)
            | (with_reducible refine PW.block ?_)
            | (with_reducible refine PW.region ttOk ?_ ?_
               · rfl)
            | (with_reducible refine PW.regionD ttOk mixed ?_ ?_ ?_
               · rfl
               · rfl)
            | (with_reducible refine PW.fork ?_)
            | (with_reducible refine PW.skip ?_)
            | (with_reducible refine PW.exit ?_)
            | (with_reducible refine PW.ret ?_)
            | (with_reducible refine ifW_dec (fun g => ?_) (fun g => ?_) <;> first | (exfalso; omega) | (simp -dsimp only [g, ifW_tt, ifW_ff, ifW_tf, ifW_ft, decide_true, decide_false, Bool.not_true, Bool.not_false]))
            | (with_reducible refine condE_dec (fun g => ?_) (fun g => ?_) <;> try (exfalso; omega))
            | (with_reducible refine condE_not (fun g => ?_) (fun g => ?_) <;> try (exfalso; omega))
            | (simp -dsimp only [↓opsW, ↓opsD, ↓stepD, ↓wantW_eq, ↓opW, ↓qw, ↓ev, ↓toPV, ↓toPV0, ↓thenQ, ↓blockQ, ↓Frame.put, ↓get_cons, get_nil, Nat.reduceBEq, Nat.reduceEqDiff, ↓reduceIte, ↓guardV, ↓dstAt, List.getElem?_cons_succ, List.getElem?_cons_zero, Option.bind_some, ↓isEffect, ↓tt, ↓lenW, ↓binT, ↓asB, ↓boolT, ↓binW, ↓unW, ↓idxW, ↓load_int, ↓rowSz, ↓rowLen, List.getD_cons_zero, List.getD_cons_succ, Nat.reduceLT, ↓loadW, ↓partW, ↓cellsOf, ↓isOther, ↓isStruct, ifW_tt, ifW_ff, ifW_tf, ifW_ft, condE_t, condE_f, true_and, and_true, cond_true, cond_false, decide_true, decide_false, Bool.not_true, Bool.not_false, Fin_ret, Fin_normal, FinH_ret, FinH_normal, ↓resHs, ↓resH, ↓resVs, ↓resV, ↓view, ↓view0, ↓okView, ↓okView0, ↓oneOf, ↓extractW, List.map_cons, List.map_nil, Array.toList, ↓sliceW, ↓elemSize, ↓cutW, ↓cutL, ↓optI, Option.map_some, Option.map_none, ↓litW, inOrder, Bool.true_and, Bool.and_true, decide_eq_true_eq, ↓intsOf, ↓builtinW, ↓appW, ↓notInt, ↓baseI, ↓srcI, ↓putRes, ↓Heap.new, ↓Heap.newT, dropT, ↓elemT, ↓Heap.move, ↓Heap.moveT, hasT, getT, ↓Heap.set, setRow, killRows, killRow, ↓Heap.get, getRow, ↓killF, Frame.kill, ↓Go.PV.kill, ↓kill1, ↓kill0, ↓convW, ↓strOf, List.length_cons, List.length_nil, List.length_append, List.drop_zero, List.take_length, List.cons_append, List.nil_append, ↓indexW, ↓copyW, ↓storeW, ↓nilCheckW, ↓fieldAddrW, ↓setL, List.set_cons_zero, List.set_cons_succ, ↓dataB, ↓dataB0, ↓makeW, known, List.append_assoc, Nat.zero_add, List.map_append, beq_self_eq_true, ↓isBytes, Nat.reduceAdd, Nat.reduceMul, ↓IntKind.bits, Int.reduceToNat, Int.reducePow, List.take_succ_cons, List.take_zero, Int.toNat_natCast, toNat_add, fillW, List.all_cons, List.all_nil, Value.oneCell', ↓okViews0, bytesI_mk, UInt8.reduceToNat, Int.cast_ofNat_Int, ofNat_cast])
            | (simp -dsimp (disch := first | assumption | omega) only [dec_t, dec_f])
            | (refine And.intro ?_ ?_
               · first | omega | decide | (simp (disch := omega) only [toNat_add, Int.toNat_natCast, Int.reduceToNat, Int.reducePow, Nat.min_eq_left, wrap_i64, wrap_u64, wrap_u8, and7_u8, fdiv_pos, tdiv_pos, tmod_pos]; done) | (simp (disch := omega) only [toNat_add, Int.toNat_natCast, Int.reduceToNat, Int.reducePow, Nat.min_eq_left, wrap_i64, wrap_u64, wrap_u8, and7_u8, fdiv_pos, tdiv_pos, tmod_pos]; omega) | (simp; done) | (simp; omega))
            | (simp (disch := omega) only [toNat_add, Int.toNat_natCast, Int.reduceToNat, Int.reducePow, Nat.min_eq_left, wrap_i64, wrap_u64, wrap_u8, and7_u8, fdiv_pos, tdiv_pos, tmod_pos])
            | fail
        | succ m =>
          have hx := digs_get hD (show i < s.length by omega)
          repeat' first
            | (simp only [Int.toNat_natCast])
            | (with_reducible refine PW.seq ?_)
            | (with_reducible refine PW.block ?_)
            | (with_reducible refine PW.region ttOk ?_ ?_
               · rfl)
            | (with_reducible refine PW.regionD ttOk mixed ?_ ?_ ?_
               · rfl
               · rfl)
            | (with_reducible refine PW.fork ?_)
            | (with_reducible refine PW.skip ?_)
            | (with_reducible refine PW.exit ?_)
            | (with_reducible refine PW.ret ?_)
            | (with_reducible refine ifW_dec (fun g => ?_) (fun g => ?_) <;> first | (exfalso; omega) | (simp -dsimp only [g, ifW_tt, ifW_ff, ifW_tf, ifW_ft, decide_true, decide_false, Bool.not_true, Bool.not_false]))
            | (with_reducible refine condE_dec (fun g => ?_) (fun g => ?_) <;> try (exfalso; omega))
            | (with_reducible refine condE_not (fun g => ?_) (fun g => ?_) <;> try (exfalso; omega))
            | (simp -dsimp only [↓opsW, ↓opsD, ↓stepD, ↓wantW_eq, ↓opW, ↓qw, ↓ev, ↓toPV, ↓toPV0, ↓thenQ, ↓blockQ, ↓Frame.put, ↓get_cons, get_nil, Nat.reduceBEq, Nat.reduceEqDiff, ↓reduceIte, ↓guardV, ↓dstAt, List.getElem?_cons_succ, List.getElem?_cons_zero, Option.bind_some, ↓isEffect, ↓tt, ↓lenW, ↓binT, ↓asB, ↓boolT, ↓binW, ↓unW, ↓idxW, ↓load_int, ↓rowSz, ↓rowLen, List.getD_cons_zero, List.getD_cons_succ, Nat.reduceLT, ↓loadW, ↓partW, ↓cellsOf, ↓isOther, ↓isStruct, ifW_tt, ifW_ff, ifW_tf, ifW_ft, condE_t, condE_f, true_and, and_true, cond_true, cond_false, decide_true, decide_false, Bool.not_true, Bool.not_false, Fin_ret, Fin_normal, FinH_ret, FinH_normal, ↓resHs, ↓resH, ↓resVs, ↓resV, ↓view, ↓view0, ↓okView, ↓okView0, ↓oneOf, ↓extractW, List.map_cons, List.map_nil, Array.toList, ↓sliceW, ↓elemSize, ↓cutW, ↓cutL, ↓optI, Option.map_some, Option.map_none, ↓litW, inOrder, Bool.true_and, Bool.and_true, decide_eq_true_eq, ↓intsOf, ↓builtinW, ↓appW, ↓notInt, ↓baseI, ↓srcI, ↓putRes, ↓Heap.new, ↓Heap.newT, dropT, ↓elemT, ↓Heap.move, ↓Heap.moveT, hasT, getT, ↓Heap.set, setRow, killRows, killRow, ↓Heap.get, getRow, ↓killF, Frame.kill, ↓Go.PV.kill, ↓kill1, ↓kill0, ↓convW, ↓strOf, List.length_cons, List.length_nil, List.length_append, List.drop_zero, List.take_length, List.cons_append, List.nil_append, ↓indexW, ↓copyW, ↓storeW, ↓nilCheckW, ↓fieldAddrW, ↓setL, List.set_cons_zero, List.set_cons_succ, ↓dataB, ↓dataB0, ↓makeW, known, List.append_assoc, Nat.zero_add, List.map_append, beq_self_eq_true, ↓isBytes, Nat.reduceAdd, Nat.reduceMul, ↓IntKind.bits, Int.reduceToNat, Int.reducePow, List.take_succ_cons, List.take_zero, Int.toNat_natCast, toNat_add, fillW, List.all_cons, List.all_nil, Value.oneCell', ↓okViews0, bytesI_mk, UInt8.reduceToNat, Int.cast_ofNat_Int, ofNat_cast])
            | (simp -dsimp (disch := first | assumption | omega) only [dec_t, dec_f])
            | (refine And.intro ?_ ?_
               · first | omega | decide | (simp (disch := omega) only [toNat_add, Int.toNat_natCast, Int.reduceToNat, Int.reducePow, Nat.min_eq_left, wrap_i64, wrap_u64, wrap_u8, and7_u8, fdiv_pos, tdiv_pos, tmod_pos]; done) | (simp (disch := omega) only [toNat_add, Int.toNat_natCast, Int.reduceToNat, Int.reducePow, Nat.min_eq_left, wrap_i64, wrap_u64, wrap_u8, and7_u8, fdiv_pos, tdiv_pos, tmod_pos]; omega) | (simp; done) | (simp; omega))
            | (simp (disch := omega) only [toNat_add, Int.toNat_natCast, Int.reduceToNat, Int.reducePow, Nat.min_eq_left, wrap_i64, wrap_u64, wrap_u8, and7_u8, fdiv_pos, tdiv_pos, tmod_pos])
            | fail
          exact Again.mk m [(9, .int .i64 ((i + 1 : Nat) : Int)), (0, .str s), (1, .int .i64 (k : Int)), (2, .bool (decide (mo = 1)))] ⟨0, [], [], []⟩ (by omega) (Sub.norm ⟨rfl, rfl, rfl, rfl, trivial⟩ trivial (Nat.le_refl _) rfl rfl rfl rfl) ⟨i + 1, by omega, rfl, rfl⟩
  · obtain ⟨j, hj⟩ : ∃ j, ¬ (j < s.length → worth (s.getD j 0) < 10) := Classical.not_forall.1 hdg
    obtain ⟨hj1, hj2⟩ : j < s.length ∧ ¬ worth (s.getD j 0) < 10 := Classical.not_imp.1 hj
    obtain ⟨i0, hi0, hmin⟩ := least_of (fun i => ¬ worth (s.getD i 0) < 10) j hj2
    have hij : i0 < s.length := by
      rcases Nat.lt_or_ge i0 s.length with h | h
      · exact h
      · exact absurd hj2 (hmin j (by omega))
    have hmin' : ∀ j, j < i0 → worth (s.getD j 0) < 10 := fun j h => Classical.not_not.1 (hmin j h)
    have hbad : ¬ (48 ≤ s.getD i0 0 ∧ s.getD i0 0 ≤ 57) := fun h => hi0 (worth_ten.2 h)
    have hwr := ref_wrong_bad s hs (by omega) 10 (by decide) i0 hij hmin' (by omega)
    refine ⟨[], false, 31, ?_, ?_⟩
    · refine meets_by ttOk Tryd.func21 Tryd.ntmps21 Tryd.results21 (by kernel_rfl) (c := _) rfl rfl rfl fun E => ?_
      simp only [argsFrame]
      repeat' first
        | (with_reducible refine PW.seq ?_)
        | (with_reducible refine PW.block ?_)
        | (with_reducible refine PW.region ttOk ?_ ?_
           · rfl)
        | (with_reducible refine PW.regionD ttOk mixed ?_ ?_ ?_
           · rfl
           · rfl)
        | (with_reducible refine PW.fork ?_)
        | (with_reducible refine PW.skip ?_)
        | (with_reducible refine PW.exit ?_)
        | (with_reducible refine PW.ret ?_)
        | (with_reducible refine ifW_dec (fun g => ?_) (fun g => ?_) <;> first | (exfalso; omega) | (simp -dsimp only [g, ifW_tt, ifW_ff, ifW_tf, ifW_ft, decide_true, decide_false, Bool.not_true, Bool.not_false]))
        | (with_reducible refine condE_dec (fun g => ?_) (fun g => ?_) <;> try (exfalso; omega))
        | (with_reducible refine condE_not (fun g => ?_) (fun g => ?_) <;> try (exfalso; omega))
        | (simp -dsimp only [↓opsW, ↓opsD, ↓stepD, ↓wantW_eq, ↓opW, ↓qw, ↓ev, ↓toPV, ↓toPV0, ↓thenQ, ↓blockQ, ↓Frame.put, ↓get_cons, get_nil, Nat.reduceBEq, Nat.reduceEqDiff, ↓reduceIte, ↓guardV, ↓dstAt, List.getElem?_cons_succ, List.getElem?_cons_zero, Option.bind_some, ↓isEffect, ↓tt, ↓lenW, ↓binT, ↓asB, ↓boolT, ↓binW, ↓unW, ↓idxW, ↓load_int, ↓rowSz, ↓rowLen, List.getD_cons_zero, List.getD_cons_succ, Nat.reduceLT, ↓loadW, ↓partW, ↓cellsOf, ↓isOther, ↓isStruct, ifW_tt, ifW_ff, ifW_tf, ifW_ft, condE_t, condE_f, true_and, and_true, cond_true, cond_false, decide_true, decide_false, Bool.not_true, Bool.not_false, Fin_ret, Fin_normal, FinH_ret, FinH_normal, ↓resHs, ↓resH, ↓resVs, ↓resV, ↓view, ↓view0, ↓okView, ↓okView0, ↓oneOf, ↓extractW, List.map_cons, List.map_nil, Array.toList, ↓sliceW, ↓elemSize, ↓cutW, ↓cutL, ↓optI, Option.map_some, Option.map_none, ↓litW, inOrder, Bool.true_and, Bool.and_true, decide_eq_true_eq, ↓intsOf, ↓builtinW, ↓appW, ↓notInt, ↓baseI, ↓srcI, ↓putRes, ↓Heap.new, ↓Heap.newT, dropT, ↓elemT, ↓Heap.move, ↓Heap.moveT, hasT, getT, ↓Heap.set, setRow, killRows, killRow, ↓Heap.get, getRow, ↓killF, Frame.kill, ↓Go.PV.kill, ↓kill1, ↓kill0, ↓convW, ↓strOf, List.length_cons, List.length_nil, List.length_append, List.drop_zero, List.take_length, List.cons_append, List.nil_append, ↓indexW, ↓copyW, ↓storeW, ↓nilCheckW, ↓fieldAddrW, ↓setL, List.set_cons_zero, List.set_cons_succ, ↓dataB, ↓dataB0, ↓makeW, known, List.append_assoc, Nat.zero_add, List.map_append, beq_self_eq_true, ↓isBytes, Nat.reduceAdd, Nat.reduceMul, ↓IntKind.bits, Int.reduceToNat, Int.reducePow, List.take_succ_cons, List.take_zero, Int.toNat_natCast, toNat_add, fillW, List.all_cons, List.all_nil, Value.oneCell', ↓okViews0, bytesI_mk, UInt8.reduceToNat, Int.cast_ofNat_Int, ofNat_cast])
        | (refine call_by hwr (views_data rfl) ⟨trivial, trivial, trivial⟩ rfl ?_)
        | (simp -dsimp (disch := first | assumption | omega) only [dec_t, dec_f])
        | (refine And.intro ?_ ?_
           · first | omega | decide | (simp (disch := omega) only [toNat_add, Int.toNat_natCast, Int.reduceToNat, Int.reducePow, Nat.min_eq_left, wrap_i64, wrap_u64, wrap_u8, and7_u8, fdiv_pos, tdiv_pos, tmod_pos]; done) | (simp (disch := omega) only [toNat_add, Int.toNat_natCast, Int.reduceToNat, Int.reducePow, Nat.min_eq_left, wrap_i64, wrap_u64, wrap_u8, and7_u8, fdiv_pos, tdiv_pos, tmod_pos]; omega) | (simp; done) | (simp; omega))
        | (simp (disch := omega) only [toNat_add, Int.toNat_natCast, Int.reduceToNat, Int.reducePow, Nat.min_eq_left, wrap_i64, wrap_u64, wrap_u8, and7_u8, fdiv_pos, tdiv_pos, tmod_pos])
        | fail
    · refine meets_by ttOk Tryd.func22 Tryd.ntmps22 Tryd.results22 (by kernel_rfl) (c := _) rfl rfl rfl fun E => ?_
      simp only [argsFrame]
      repeat' first
        | (simp only [hnd])
        | (with_reducible refine PW.seq ?_)
        | (with_reducible refine PW.block ?_)
        | (with_reducible refine PW.region ttOk ?_ ?_
           · rfl)
        | (with_reducible refine PW.regionD ttOk mixed ?_ ?_ ?_
           · rfl
           · rfl)
        | (with_reducible refine PW.fork ?_)
        | (with_reducible refine PW.skip ?_)
        | (with_reducible refine PW.exit ?_)
        | (with_reducible refine PW.ret ?_)
        | (with_reducible refine ifW_dec (fun g => ?_) (fun g => ?_) <;> first | (exfalso; omega) | (simp -dsimp only [g, ifW_tt, ifW_ff, ifW_tf, ifW_ft, decide_true, decide_false, Bool.not_true, Bool.not_false]))
        | (with_reducible refine condE_dec (fun g => ?_) (fun g => ?_) <;> try (exfalso; omega))
        | (with_reducible refine condE_not (fun g => ?_) (fun g => ?_) <;> try (exfalso; omega))
        | (simp -dsimp only [↓opsW, ↓opsD, ↓stepD, ↓wantW_eq, ↓opW, ↓qw, ↓ev, ↓toPV, ↓toPV0, ↓thenQ, ↓blockQ, ↓Frame.put, ↓get_cons, get_nil, Nat.reduceBEq, Nat.reduceEqDiff, ↓reduceIte, ↓guardV, ↓dstAt, List.getElem?_cons_succ, List.getElem?_cons_zero, Option.bind_some, ↓isEffect, ↓tt, ↓lenW, ↓binT, ↓asB, ↓boolT, ↓binW, ↓unW, ↓idxW, ↓load_int, ↓rowSz, ↓rowLen, List.getD_cons_zero, List.getD_cons_succ, Nat.reduceLT, ↓loadW, ↓partW, ↓cellsOf, ↓isOther, ↓isStruct, ifW_tt, ifW_ff, ifW_tf, ifW_ft, condE_t, condE_f, true_and, and_true, cond_true, cond_false, decide_true, decide_false, Bool.not_true, Bool.not_false, Fin_ret, Fin_normal, FinH_ret, FinH_normal, ↓resHs, ↓resH, ↓resVs, ↓resV, ↓view, ↓view0, ↓okView, ↓okView0, ↓oneOf, ↓extractW, List.map_cons, List.map_nil, Array.toList, ↓sliceW, ↓elemSize, ↓cutW, ↓cutL, ↓optI, Option.map_some, Option.map_none, ↓litW, inOrder, Bool.true_and, Bool.and_true, decide_eq_true_eq, ↓intsOf, ↓builtinW, ↓appW, ↓notInt, ↓baseI, ↓srcI, ↓putRes, ↓Heap.new, ↓Heap.newT, dropT, ↓elemT, ↓Heap.move, ↓Heap.moveT, hasT, getT, ↓Heap.set, setRow, killRows, killRow, ↓Heap.get, getRow, ↓killF, Frame.kill, ↓Go.PV.kill, ↓kill1, ↓kill0, ↓convW, ↓strOf, List.length_cons, List.length_nil, List.length_append, List.drop_zero, List.take_length, List.cons_append, List.nil_append, ↓indexW, ↓copyW, ↓storeW, ↓nilCheckW, ↓fieldAddrW, ↓setL, List.set_cons_zero, List.set_cons_succ, ↓dataB, ↓dataB0, ↓makeW, known, List.append_assoc, Nat.zero_add, List.map_append, beq_self_eq_true, ↓isBytes, Nat.reduceAdd, Nat.reduceMul, ↓IntKind.bits, Int.reduceToNat, Int.reducePow, List.take_succ_cons, List.take_zero, Int.toNat_natCast, toNat_add, fillW, List.all_cons, List.all_nil, Value.oneCell', ↓okViews0, bytesI_mk, UInt8.reduceToNat, Int.cast_ofNat_Int, ofNat_cast])
        | (simp -dsimp (disch := first | assumption | omega) only [dec_t, dec_f])
        | (refine And.intro ?_ ?_
           · first | omega | decide | (simp (disch := omega) only [toNat_add, Int.toNat_natCast, Int.reduceToNat, Int.reducePow, Nat.min_eq_left, wrap_i64, wrap_u64, wrap_u8, and7_u8, fdiv_pos, tdiv_pos, tmod_pos]; done) | (simp (disch := omega) only [toNat_add, Int.toNat_natCast, Int.reduceToNat, Int.reducePow, Nat.min_eq_left, wrap_i64, wrap_u64, wrap_u8, and7_u8, fdiv_pos, tdiv_pos, tmod_pos]; omega) | (simp; done) | (simp; omega))
        | (simp (disch := omega) only [toNat_add, Int.toNat_natCast, Int.reduceToNat, Int.reducePow, Nat.min_eq_left, wrap_i64, wrap_u64, wrap_u8, and7_u8, fdiv_pos, tdiv_pos, tmod_pos])
        | fail
      refine PW.loopA (fun m F H => ∃ i, i + m = i0 ∧ F = [(9, .int .i64 (i : Int)), (0, .str s)] ∧ H = ⟨0, [], [], []⟩) i0 [(9, .int .i64 ((0 : Nat) : Int)), (0, .str s)] ⟨0, [], [], []⟩ (Sub.norm ⟨rfl, rfl, trivial⟩ trivial (Nat.le_refl _) rfl rfl rfl rfl) ⟨0, by omega, rfl, rfl⟩ ?_
      rintro m F H ⟨i, hi, rfl, rfl⟩
      cases m with
      | zero =>
        obtain rfl : i = i0 := by omega
        repeat' first
          | (simp only [Int.toNat_natCast])
          | (with_reducible refine PW.seq ?_)
          | (with_reducible refine PW.block ?_)
          | (with_reducible refine PW.region ttOk ?_ ?_
             · rfl)
          | (with_reducible refine PW.regionD ttOk mixed ?_ ?_ ?_
             · rfl
             · rfl)
          | (with_reducible refine PW.fork ?_)
          | (with_reducible refine PW.skip ?_)
          | (with_reducible refine PW.exit ?_)
          | (with_reducible refine PW.ret ?_)
          | (with_reducible refine ifW_dec (fun g => ?_) (fun g => ?_) <;> first | (exfalso; omega) | (simp -dsimp only [g, ifW_tt, ifW_ff, ifW_tf, ifW_ft, decide_true, decide_false, Bool.not_true, Bool.not_false]))
          | (with_reducible refine condE_dec (fun g => ?_) (fun g => ?_) <;> try (exfalso; omega))
          | (with_reducible refine condE_not (fun g => ?_) (fun g => ?_) <;> try (exfalso; omega))
          | (simp -dsimp only [↓opsW, ↓opsD, ↓stepD, ↓wantW_eq, ↓opW, ↓qw, ↓ev, ↓toPV, ↓toPV0, ↓thenQ, ↓blockQ, ↓Frame.put, ↓get_cons, get_nil, Nat.reduceBEq, Nat.reduceEqDiff, ↓reduceIte, ↓guardV, ↓dstAt, List.getElem?_cons_succ, List.getElem?_cons_zero, Option.bind_some, ↓isEffect, ↓tt, ↓lenW, ↓binT, ↓asB, ↓boolT, ↓binW, ↓unW, ↓idxW, ↓load_int, ↓rowSz, ↓rowLen, List.getD_cons_zero, List.getD_cons_succ, Nat.reduceLT, ↓loadW, ↓partW, ↓cellsOf, ↓isOther, ↓isStruct, ifW_tt, ifW_ff, ifW_tf, ifW_ft, condE_t, condE_f, true_and, and_true, cond_true, cond_false, decide_true, decide_false, Bool.not_true, Bool.not_false, Fin_ret, Fin_normal, FinH_ret, FinH_normal, ↓resHs, ↓resH, ↓resVs, ↓resV, ↓view, ↓view0, ↓okView, ↓okView0, ↓oneOf, ↓extractW, List.map_cons, List.map_nil, Array.toList, ↓sliceW, ↓elemSize, ↓cutW, ↓cutL, ↓optI, Option.map_some, Option.map_none, ↓litW, inOrder, Bool.true_and, Bool.and_true, decide_eq_true_eq, ↓intsOf, ↓builtinW, ↓appW, ↓notInt, ↓baseI, ↓srcI, ↓putRes, ↓Heap.new, ↓Heap.newT, dropT, ↓elemT, ↓Heap.move, ↓Heap.moveT, hasT, getT, ↓Heap.set, setRow, killRows, killRow, ↓Heap.get, getRow, ↓killF, Frame.kill, ↓Go.PV.kill, ↓kill1, ↓kill0, ↓convW, ↓strOf, List.length_cons, List.length_nil, List.length_append, List.drop_zero, List.take_length, List.cons_append, List.nil_append, ↓indexW, ↓copyW, ↓storeW, ↓nilCheckW, ↓fieldAddrW, ↓setL, List.set_cons_zero, List.set_cons_succ, ↓dataB, ↓dataB0, ↓makeW, known, List.append_assoc, Nat.zero_add, List.map_append, beq_self_eq_true, ↓isBytes, Nat.reduceAdd, Nat.reduceMul, ↓IntKind.bits, Int.reduceToNat, Int.reducePow, List.take_succ_cons, List.take_zero, Int.toNat_natCast, toNat_add, fillW, List.all_cons, List.all_nil, Value.oneCell', ↓okViews0, bytesI_mk, UInt8.reduceToNat, Int.cast_ofNat_Int, ofNat_cast])
          | (simp -dsimp (disch := first | assumption | omega) only [dec_t, dec_f])
          | (refine And.intro ?_ ?_
             · first | omega | decide | (simp (disch := omega) only [toNat_add, Int.toNat_natCast, Int.reduceToNat, Int.reducePow, Nat.min_eq_left, wrap_i64, wrap_u64, wrap_u8, and7_u8, fdiv_pos, tdiv_pos, tmod_pos]; done) | (simp (disch := omega) only [toNat_add, Int.toNat_natCast, Int.reduceToNat, Int.reducePow, Nat.min_eq_left, wrap_i64, wrap_u64, wrap_u8, and7_u8, fdiv_pos, tdiv_pos, tmod_pos]; omega) | (simp; done) | (simp; omega))
          | (simp (disch := omega) only [toNat_add, Int.toNat_natCast, Int.reduceToNat, Int.reducePow, Nat.min_eq_left, wrap_i64, wrap_u64, wrap_u8, and7_u8, fdiv_pos, tdiv_pos, tmod_pos])
          | fail
      | succ m =>
        have hx := worth_ten.1 (hmin' i (by omega))
        repeat' first
          | (simp only [Int.toNat_natCast])
          | (with_reducible refine PW.seq ?_)
          | (with_reducible refine PW.block ?_)
          | (with_reducible refine PW.region ttOk ?_ ?_
             · rfl)
          | (with_reducible refine PW.regionD ttOk mixed ?_ ?_ ?_
             · rfl
             · rfl)
          | (with_reducible refine PW.fork ?_)
          | (with_reducible refine PW.skip ?_)
          | (with_reducible refine PW.exit ?_)
          | (with_reducible refine PW.ret ?_)
          | (with_reducible refine ifW_dec (fun g => ?_) (fun g => ?_) <;> first | (exfalso; omega) | (simp -dsimp only [g, ifW_tt, ifW_ff, ifW_tf, ifW_ft, decide_true, decide_false, Bool.not_true, Bool.not_false]))
          | (with_reducible refine condE_dec (fun g => ?_) (fun g => ?_) <;> try (exfalso; omega))
          | (with_reducible refine condE_not (fun g => ?_) (fun g => ?_) <;> try (exfalso; omega))
          | (simp -dsimp only [↓opsW, ↓opsD, ↓stepD, ↓wantW_eq, ↓opW, ↓qw, ↓ev, ↓toPV, ↓toPV0, ↓thenQ, ↓blockQ, ↓Frame.put, ↓get_cons, get_nil, Nat.reduceBEq, Nat.reduceEqDiff, ↓reduceIte, ↓guardV, ↓dstAt, List.getElem?_cons_succ, List.getElem?_cons_zero, Option.bind_some, ↓isEffect, ↓tt, ↓lenW, ↓binT, ↓asB, ↓boolT, ↓binW, ↓unW, ↓idxW, ↓load_int, ↓rowSz, ↓rowLen, List.getD_cons_zero, List.getD_cons_succ, Nat.reduceLT, ↓loadW, ↓partW, ↓cellsOf, ↓isOther, ↓isStruct, ifW_tt, ifW_ff, ifW_tf, ifW_ft, condE_t, condE_f, true_and, and_true, cond_true, cond_false, decide_true, decide_false, Bool.not_true, Bool.not_false, Fin_ret, Fin_normal, FinH_ret, FinH_normal, ↓resHs, ↓resH, ↓resVs, ↓resV, ↓view, ↓view0, ↓okView, ↓okView0, ↓oneOf, ↓extractW, List.map_cons, List.map_nil, Array.toList, ↓sliceW, ↓elemSize, ↓cutW, ↓cutL, ↓optI, Option.map_some, Option.map_none, ↓litW, inOrder, Bool.true_and, Bool.and_true, decide_eq_true_eq, ↓intsOf, ↓builtinW, ↓appW, ↓notInt, ↓baseI, ↓srcI, ↓putRes, ↓Heap.new, ↓Heap.newT, dropT, ↓elemT, ↓Heap.move, ↓Heap.moveT, hasT, getT, ↓Heap.set, setRow, killRows, killRow, ↓Heap.get, getRow, ↓killF, Frame.kill, ↓Go.PV.kill, ↓kill1, ↓kill0, ↓convW, ↓strOf, List.length_cons, List.length_nil, List.length_append, List.drop_zero, List.take_length, List.cons_append, List.nil_append, ↓indexW, ↓copyW, ↓storeW, ↓nilCheckW, ↓fieldAddrW, ↓setL, List.set_cons_zero, List.set_cons_succ, ↓dataB, ↓dataB0, ↓makeW, known, List.append_assoc, Nat.zero_add, List.map_append, beq_self_eq_true, ↓isBytes, Nat.reduceAdd, Nat.reduceMul, ↓IntKind.bits, Int.reduceToNat, Int.reducePow, List.take_succ_cons, List.take_zero, Int.toNat_natCast, toNat_add, fillW, List.all_cons, List.all_nil, Value.oneCell', ↓okViews0, bytesI_mk, UInt8.reduceToNat, Int.cast_ofNat_Int, ofNat_cast])
          | (simp -dsimp (disch := first | assumption | omega) only [dec_t, dec_f])
          | (refine And.intro ?_ ?_
             · first | omega | decide | (simp (disch := omega) only [toNat_add, Int.toNat_natCast, Int.reduceToNat, Int.reducePow, Nat.min_eq_left, wrap_i64, wrap_u64, wrap_u8, and7_u8, fdiv_pos, tdiv_pos, tmod_pos]; done) | (simp (disch := omega) only [toNat_add, Int.toNat_natCast, Int.reduceToNat, Int.reducePow, Nat.min_eq_left, wrap_i64, wrap_u64, wrap_u8, and7_u8, fdiv_pos, tdiv_pos, tmod_pos]; omega) | (simp; done) | (simp; omega))
          | (simp (disch := omega) only [toNat_add, Int.toNat_natCast, Int.reduceToNat, Int.reducePow, Nat.min_eq_left, wrap_i64, wrap_u64, wrap_u8, and7_u8, fdiv_pos, tdiv_pos, tmod_pos])
          | fail
        exact Again.mk m [(9, .int .i64 ((i + 1 : Nat) : Int)), (0, .str s)] ⟨0, [], [], []⟩ (by omega) (Sub.norm ⟨rfl, rfl, trivial⟩ trivial (Nat.le_refl _) rfl rfl rfl rfl) ⟨i + 1, by omega, rfl, rfl⟩
end Go.Proofs.YtmoigffjpijpaabDoor


import Derived.Test.YtmoigffjpijpaabDoorB1
set_option linter.unusedVariables false
set_option linter.unusedSimpArgs false
namespace Go.Proofs.YtmoigffjpijpaabDoor
open Go Go.PV

theorem b_enter97 (vs : Array Value) (w : World) : (callFunc 43 vs).run Tryd.prog w = .ok (.enter 43 vs) w := call_enters Tryd.func43 (by kernel_rfl) rfl vs w
theorem b_enter67 (vs : Array Value) (w : World) : (callFunc 27 vs).run Tryd.prog w = .ok (.enter 27 vs) w := call_enters Tryd.func27 (by kernel_rfl) rfl vs w

theorem builder_copyCheck {H : PV.Heap} {r : Nat} {p q : PV} (hr : H.get r = some (.var [p, q])) (hp : p = .nilptr ∨ p = .ptr r 0 0) (ht : getT H.ty r = some 50) :
    HMeets Tryd.prog 43 [.ptr r 0 0] H fun res H' => res = .tup [] ∧ H' = H.set r (.var [.ptr r 0 0, q]) :=
  copyCheck_h b_enter97 copyCheck_fresh copyCheck_used hr hp ht

/-- String hands back the bytes; the buffer is the builder's no more. -/
theorem builder_String {H : PV.Heap} {r r2 : Nat} {p : PV} {full : Bool} {l : List Int} (hne : r ≠ r2) (hr : H.get r = some (.var [p, .sl r2 0 l.length full])) (hr2 : H.get r2 = some (.ints .u8 l)) (ht : getT H.ty r = some 50) (ht2 : getT H.ty r2 = some 5)
    (hl0 : l ≠ []) (hl1 : ∀ x ∈ l, 0 ≤ x ∧ x < 256) (hl2 : l.length ≤ 9223372036854775807) :
    HMeets Tryd.prog 27 [.ptr r 0 0] H fun res H' => res = .str l ∧ H' = H.drop [r2] :=
  string_h b_enter67 string_run hne hr hr2 ht ht2 hl0 hl1 hl2

/-- WriteByte appends a byte. -/
theorem builder_WriteByte {nx : Nat} {rows : List (Nat × PV.Row)} {g : List PV.Frame} {ty : List (Nat × TypeId)} {r r2 : Nat} {p : PV} {l : List Int} (c : Int) (hne : r ≠ r2) (hrn : r < nx) (hrn2 : r2 < nx) (hr : getRow rows r = some (.var [p, .sl r2 0 l.length true])) (hr2 : getRow rows r2 = some (.ints .u8 l))
    (hp : p = .nilptr ∨ p = .ptr r 0 0) (ht : getT ty r = some 50) (ht2 : getT ty r2 = some 5) (hl : l.length ≤ 100000000000000) :
    HMeets Tryd.prog 26 [.ptr r 0 0, .int .u8 c] ⟨nx, rows, g, ty⟩ fun res H' => res = .undef ∧ H' = ⟨nx + 1, setRow (setRow (killRows r2 (setRow (setRow rows r (.var [.ptr r 0 0, .sl r2 0 l.length true])) nx (.ints .u8 [c]))) r2 (.ints .u8 (l ++ [c]))) r (.var [.ptr r 0 0, .sl r2 0 (l.length + 1) true]), g.map (Frame.kill r2), (r2, 5) :: dropT r2 ((nx, 5) :: ty)⟩ := by
  refine hmeets_by ttOk Tryd.func26 Tryd.ntmps26 Tryd.results26 (by kernel_rfl) (c := _) rfl rfl fun E => ?_
  simp only [argsFrame]
  have h1 : r ≠ nx := by omega
  have h2 : r2 ≠ nx := by omega
  have h3 := Ne.symm hne
  have h4 := Ne.symm h1
  have h5 := Ne.symm h2
  have b1 : (r2 == r) = false := beq_eq_false_iff_ne.2 h3
  have b2 : (r == r2) = false := beq_eq_false_iff_ne.2 hne
  have b3 : (nx == r2) = false := beq_eq_false_iff_ne.2 h5
  have b4 : (r2 == nx) = false := beq_eq_false_iff_ne.2 h2
  have b5 : (nx == r) = false := beq_eq_false_iff_ne.2 h4
  have b6 : (r == nx) = false := beq_eq_false_iff_ne.2 h1
  repeat' first
    | (with_reducible refine PW.seq ?_)
    | (with_reducible refine PW.block ?_)
    | (with_reducible refine PW.region ttOk ?_ ?_
       · rfl)
    | (with_reducible refine PW.regionD ttOk mixed ?_ ?_ ?_
       · rfl
       · rfl)
    | (with_reducible refine PW.fork ?_)
    | (with_reducible refine PW.skip ?_)
    | (with_reducible refine PW.exit ?_)
    | (with_reducible refine PW.ret ?_)
    | (with_reducible refine ifW_dec (fun g => ?_) (fun g => ?_) <;> first | (exfalso; omega) | (simp -dsimp only [g, ifW_tt, ifW_ff, ifW_tf, ifW_ft, decide_true, decide_false, Bool.not_true, Bool.not_false]))
    | (with_reducible refine condE_dec (fun g => ?_) (fun g => ?_) <;> try (exfalso; omega))
    | (with_reducible refine condE_not (fun g => ?_) (fun g => ?_) <;> try (exfalso; omega))
    | (simp -dsimp only [getRow_setRow, getRow_kill, hr, hr2, hne, h1, h2, h3, h4, h5, b1, b2, b3, b4, b5, b6, ht, ht2, if_true, if_false, Option.map_some, ↓opsW, ↓opsD, ↓stepD, ↓wantW_eq, ↓opW, ↓qw, ↓ev, ↓toPV, ↓toPV0, ↓thenQ, ↓blockQ, ↓Frame.put, ↓get_cons, get_nil, Nat.reduceBEq, Nat.reduceEqDiff, ↓reduceIte, ↓guardV, ↓dstAt, List.getElem?_cons_succ, List.getElem?_cons_zero, Option.bind_some, ↓isEffect, ↓tt, ↓lenW, ↓binT, ↓asB, ↓boolT, ↓binW, ↓unW, ↓idxW, ↓load_int, ↓rowSz, ↓rowLen, List.getD_cons_zero, List.getD_cons_succ, Nat.reduceLT, ↓loadW, ↓partW, ↓cellsOf, ↓isOther, ↓isStruct, ifW_tt, ifW_ff, ifW_tf, ifW_ft, condE_t, condE_f, true_and, and_true, cond_true, cond_false, decide_true, decide_false, Bool.not_true, Bool.not_false, Fin_ret, Fin_normal, FinH_ret, FinH_normal, ↓resHs, ↓resH, ↓resVs, ↓resV, ↓view, ↓view0, ↓okView, ↓okView0, ↓oneOf, ↓extractW, List.map_cons, List.map_nil, Array.toList, ↓sliceW, ↓elemSize, ↓cutW, ↓cutL, ↓optI, Option.map_some, Option.map_none, ↓litW, inOrder, Bool.true_and, Bool.and_true, decide_eq_true_eq, ↓intsOf, ↓builtinW, ↓appW, ↓notInt, ↓baseI, ↓srcI, ↓putRes, ↓Heap.new, ↓Heap.newT, dropT, ↓elemT, ↓Heap.move, ↓Heap.moveT, hasT, getT, ↓Heap.set, setRow, killRows, killRow, ↓Heap.get, getRow, ↓killF, Frame.kill, ↓Go.PV.kill, ↓kill1, ↓kill0, ↓convW, ↓strOf, List.length_cons, List.length_nil, List.length_append, List.drop_zero, List.take_length, List.cons_append, List.nil_append, ↓indexW, ↓copyW, ↓storeW, ↓nilCheckW, ↓fieldAddrW, ↓setL, List.set_cons_zero, List.set_cons_succ, ↓dataB, ↓dataB0, ↓makeW, known, List.append_assoc, Nat.zero_add, List.map_append, beq_self_eq_true, ↓isBytes, Nat.reduceAdd, Nat.reduceMul, ↓IntKind.bits, Int.reduceToNat, Int.reducePow, List.take_succ_cons, List.take_zero, Int.toNat_natCast, toNat_add, fillW, List.all_cons, List.all_nil, Value.oneCell', ↓okViews0, bytesI_mk, UInt8.reduceToNat, Int.cast_ofNat_Int, ofNat_cast])
    | (refine call_h (builder_copyCheck (H := ⟨_, _, _, _⟩) hr hp ht) (fun res H' hR => ?_); obtain ⟨rfl, rfl⟩ := hR; refine ⟨_, _, rfl, ?_⟩)
    | (simp -dsimp (disch := first | assumption | omega) only [dec_t, dec_f])
    | (refine And.intro ?_ ?_
       · first | omega | decide | (simp (disch := omega) only [toNat_add, Int.toNat_natCast, Int.reduceToNat, Int.reducePow, Nat.min_eq_left, wrap_i64, wrap_u64, wrap_u8, and7_u8, fdiv_pos, tdiv_pos, tmod_pos]; done) | (simp (disch := omega) only [toNat_add, Int.toNat_natCast, Int.reduceToNat, Int.reducePow, Nat.min_eq_left, wrap_i64, wrap_u64, wrap_u8, and7_u8, fdiv_pos, tdiv_pos, tmod_pos]; omega) | (simp; done) | (simp; omega))
    | (simp (disch := omega) only [toNat_add, Int.toNat_natCast, Int.reduceToNat, Int.reducePow, Nat.min_eq_left, wrap_i64, wrap_u64, wrap_u8, and7_u8, fdiv_pos, tdiv_pos, tmod_pos])
    | fail
  trace_state
end Go.Proofs.YtmoigffjpijpaabDoor


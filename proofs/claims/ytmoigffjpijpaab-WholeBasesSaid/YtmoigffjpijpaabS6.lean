import Derived.Test.YtmoigffjpijpaabS5
set_option linter.unusedVariables false
set_option linter.unusedSimpArgs false
namespace Go.Proofs.Ytmoigffjpijpaab
open Go Go.PV

theorem has_prefix0 (B : List Int) (hB : Bytes' B) : Meets Try.prog 28 [.str B, .str [48]] (.bool (decide (0 < B.length ∧ B.getD 0 0 = 48))) := by
  refine meets_lib Try.func28 (by kernel_rfl) (c := _) rfl fun w A vs hl ha => ?_
  obtain ⟨u, v, rfl, h1, h2⟩ := two_args hl ha
  cases h1 with
  | str b _ h =>
    cases h2 with
    | str p _ hp =>
      have hb := bytes_of h
      have hpb := bytes_of hp
      refine ⟨.bool (Lib.hasPrefix b.data.toList p.data.toList), fun w' A => ?_, (Try.strings_HasPrefix b p w).mono fun e w' ⟨he, hw⟩ => ⟨he, by rw [hw]; exact Go.RowKit.Below.refl _ _⟩⟩
      rw [hb, hpb]
      have e : Lib.hasPrefix (B.map fun x => x.toNat.toUInt8) (([48] : List Int).map fun x => x.toNat.toUInt8) = decide (0 < B.length ∧ B.getD 0 0 = 48) := by
        cases B with
        | nil => rfl
        | cons x B =>
          have hx := hB x (by simp)
          have e2 : ((48 : Int).toNat.toUInt8 = x.toNat.toUInt8) ↔ x = 48 := by
            constructor
            · intro h
              have := congrArg UInt8.toNat h
              simp at this
              omega
            · rintro rfl; rfl
          simp only [Lib.hasPrefix, List.map_cons, List.map_nil, List.isPrefixOf, Bool.and_true, List.length_cons, List.getD_cons_zero, Nat.zero_lt_succ, true_and]
          rw [Bool.eq_iff_iff]
          simp only [beq_iff_eq, decide_eq_true_eq]
          exact e2
      rw [e]
      exact .bool _

theorem from_uint0 : Meets Try.prog 17 [.int .u64 0] .nil := by
  refine meets_by ttOk Try.func17 Try.ntmps17 Try.results17 (by kernel_rfl) (c := _) rfl rfl rfl fun E => ?_
  simp only [argsFrame]
  repeat' first
    | (with_reducible refine PW.seq ?_)
    | (with_reducible refine PW.block ?_)
    | (with_reducible refine PW.region ttOk ?_ ?_
       · rfl)
    | (with_reducible refine PW.regionD ttOk mixed ?_ ?_ ?_
       · rfl
       · rfl)
    | (with_reducible refine PW.fork ?_)
    | (with_reducible refine PW.skip ?_)
    | (with_reducible refine PW.exit ?_)
    | (with_reducible refine PW.ret ?_)
    | (with_reducible refine ifW_dec (fun g => ?_) (fun g => ?_) <;> first | (exfalso; omega) | (simp -dsimp only [g, ifW_tt, ifW_ff, ifW_tf, ifW_ft, decide_true, decide_false, Bool.not_true, Bool.not_false]))
    | (with_reducible refine condE_dec (fun g => ?_) (fun g => ?_) <;> try (exfalso; omega))
    | (with_reducible refine condE_not (fun g => ?_) (fun g => ?_) <;> try (exfalso; omega))
    | (simp -dsimp only [↓opsW, ↓opsD, ↓stepD, ↓wantW_eq, ↓opW, ↓qw, ↓ev, ↓toPV, ↓toPV0, ↓thenQ, ↓blockQ, ↓Frame.put, ↓get_cons, get_nil, Nat.reduceBEq, Nat.reduceEqDiff, ↓reduceIte, ↓guardV, ↓dstAt, List.getElem?_cons_succ, List.getElem?_cons_zero, Option.bind_some, ↓isEffect, ↓tt, ↓lenW, ↓binW, ↓unW, ↓idxW, ↓load_int, ↓rowSz, ↓rowLen, List.getD_cons_zero, List.getD_cons_succ, Nat.reduceLT, ↓loadW, ↓partW, ↓cellsOf, ↓isOther, ↓isStruct, ifW_tt, ifW_ff, ifW_tf, ifW_ft, condE_t, condE_f, true_and, and_true, cond_true, cond_false, decide_true, decide_false, Bool.not_true, Bool.not_false, Fin_ret, Fin_normal, FinH_ret, FinH_normal, ↓resHs, ↓resH, ↓resVs, ↓resV, ↓view, ↓view0, ↓okView, ↓okView0, ↓oneOf, ↓extractW, List.map_cons, List.map_nil, Array.toList, ↓sliceW, ↓elemSize, ↓cutW, ↓cutL, ↓optI, Option.map_some, Option.map_none, ↓litW, inOrder, Bool.true_and, Bool.and_true, decide_eq_true_eq, ↓intsOf, ↓builtinW, ↓appW, ↓notInt, ↓baseI, ↓srcI, ↓putRes, ↓Heap.new, ↓Heap.newT, dropT, ↓elemT, ↓Heap.move, ↓Heap.moveT, hasT, getT, ↓Heap.set, setRow, killRows, killRow, ↓Heap.get, getRow, ↓killF, Frame.kill, ↓Go.PV.kill, ↓kill1, ↓kill0, ↓convW, ↓strOf, List.length_cons, List.length_nil, List.length_append, List.drop_zero, List.take_length, List.cons_append, List.nil_append, ↓indexW, ↓copyW, ↓storeW, ↓nilCheckW, ↓fieldAddrW, ↓setL, List.set_cons_zero, List.set_cons_succ, ↓dataB, ↓dataB0, ↓makeW, known, List.append_assoc, Nat.zero_add, List.map_append, beq_self_eq_true, ↓isBytes, Nat.reduceAdd, Nat.reduceMul, ↓IntKind.bits, Int.reduceToNat, Int.reducePow, List.take_succ_cons, List.take_zero, Int.toNat_natCast, toNat_add, fillW, List.all_cons, List.all_nil, Value.oneCell', ↓okViews0, bytesI_mk, UInt8.reduceToNat, Int.cast_ofNat_Int, ofNat_cast])
    | (simp -dsimp (disch := first | assumption | omega) only [dec_t, dec_f])
    | (refine And.intro ?_ ?_
       · first | omega | decide | (simp (disch := omega) only [toNat_add, Int.toNat_natCast, Int.reduceToNat, Int.reducePow, Nat.min_eq_left, wrap_i64, wrap_u64, wrap_u8, and7_u8, fdiv_pos, tdiv_pos, tmod_pos]; done) | (simp (disch := omega) only [toNat_add, Int.toNat_natCast, Int.reduceToNat, Int.reducePow, Nat.min_eq_left, wrap_i64, wrap_u64, wrap_u8, and7_u8, fdiv_pos, tdiv_pos, tmod_pos]; omega) | (simp; done) | (simp; omega))
    | (simp (disch := omega) only [toNat_add, Int.toNat_natCast, Int.reduceToNat, Int.reducePow, Nat.min_eq_left, wrap_i64, wrap_u64, wrap_u8, and7_u8, fdiv_pos, tdiv_pos, tmod_pos])
    | fail
theorem from_uint1 (x : Int) (hx : ¬ x = 0) : Meets Try.prog 17 [.int .u64 x] (.ints .u64 [x]) := by
  refine meets_by ttOk Try.func17 Try.ntmps17 Try.results17 (by kernel_rfl) (c := _) rfl rfl rfl fun E => ?_
  simp only [argsFrame]
  repeat' first
    | (with_reducible refine PW.seq ?_)
    | (with_reducible refine PW.block ?_)
    | (with_reducible refine PW.region ttOk ?_ ?_
       · rfl)
    | (with_reducible refine PW.regionD ttOk mixed ?_ ?_ ?_
       · rfl
       · rfl)
    | (with_reducible refine PW.fork ?_)
    | (with_reducible refine PW.skip ?_)
    | (with_reducible refine PW.exit ?_)
    | (with_reducible refine PW.ret ?_)
    | (with_reducible refine ifW_dec (fun g => ?_) (fun g => ?_) <;> first | (exfalso; omega) | (simp -dsimp only [g, ifW_tt, ifW_ff, ifW_tf, ifW_ft, decide_true, decide_false, Bool.not_true, Bool.not_false]))
    | (with_reducible refine condE_dec (fun g => ?_) (fun g => ?_) <;> try (exfalso; omega))
    | (with_reducible refine condE_not (fun g => ?_) (fun g => ?_) <;> try (exfalso; omega))
    | (simp -dsimp only [↓opsW, ↓opsD, ↓stepD, ↓wantW_eq, ↓opW, ↓qw, ↓ev, ↓toPV, ↓toPV0, ↓thenQ, ↓blockQ, ↓Frame.put, ↓get_cons, get_nil, Nat.reduceBEq, Nat.reduceEqDiff, ↓reduceIte, ↓guardV, ↓dstAt, List.getElem?_cons_succ, List.getElem?_cons_zero, Option.bind_some, ↓isEffect, ↓tt, ↓lenW, ↓binW, ↓unW, ↓idxW, ↓load_int, ↓rowSz, ↓rowLen, List.getD_cons_zero, List.getD_cons_succ, Nat.reduceLT, ↓loadW, ↓partW, ↓cellsOf, ↓isOther, ↓isStruct, ifW_tt, ifW_ff, ifW_tf, ifW_ft, condE_t, condE_f, true_and, and_true, cond_true, cond_false, decide_true, decide_false, Bool.not_true, Bool.not_false, Fin_ret, Fin_normal, FinH_ret, FinH_normal, ↓resHs, ↓resH, ↓resVs, ↓resV, ↓view, ↓view0, ↓okView, ↓okView0, ↓oneOf, ↓extractW, List.map_cons, List.map_nil, Array.toList, ↓sliceW, ↓elemSize, ↓cutW, ↓cutL, ↓optI, Option.map_some, Option.map_none, ↓litW, inOrder, Bool.true_and, Bool.and_true, decide_eq_true_eq, ↓intsOf, ↓builtinW, ↓appW, ↓notInt, ↓baseI, ↓srcI, ↓putRes, ↓Heap.new, ↓Heap.newT, dropT, ↓elemT, ↓Heap.move, ↓Heap.moveT, hasT, getT, ↓Heap.set, setRow, killRows, killRow, ↓Heap.get, getRow, ↓killF, Frame.kill, ↓Go.PV.kill, ↓kill1, ↓kill0, ↓convW, ↓strOf, List.length_cons, List.length_nil, List.length_append, List.drop_zero, List.take_length, List.cons_append, List.nil_append, ↓indexW, ↓copyW, ↓storeW, ↓nilCheckW, ↓fieldAddrW, ↓setL, List.set_cons_zero, List.set_cons_succ, ↓dataB, ↓dataB0, ↓makeW, known, List.append_assoc, Nat.zero_add, List.map_append, beq_self_eq_true, ↓isBytes, Nat.reduceAdd, Nat.reduceMul, ↓IntKind.bits, Int.reduceToNat, Int.reducePow, List.take_succ_cons, List.take_zero, Int.toNat_natCast, toNat_add, fillW, List.all_cons, List.all_nil, Value.oneCell', ↓okViews0, bytesI_mk, UInt8.reduceToNat, Int.cast_ofNat_Int, ofNat_cast])
    | (simp -dsimp (disch := first | assumption | omega) only [dec_t, dec_f])
    | (refine And.intro ?_ ?_
       · first | omega | decide | (simp (disch := omega) only [toNat_add, Int.toNat_natCast, Int.reduceToNat, Int.reducePow, Nat.min_eq_left, wrap_i64, wrap_u64, wrap_u8, and7_u8, fdiv_pos, tdiv_pos, tmod_pos]; done) | (simp (disch := omega) only [toNat_add, Int.toNat_natCast, Int.reduceToNat, Int.reducePow, Nat.min_eq_left, wrap_i64, wrap_u64, wrap_u8, and7_u8, fdiv_pos, tdiv_pos, tmod_pos]; omega) | (simp; done) | (simp; omega))
    | (simp (disch := omega) only [toNat_add, Int.toNat_natCast, Int.reduceToNat, Int.reducePow, Nat.min_eq_left, wrap_i64, wrap_u64, wrap_u8, and7_u8, fdiv_pos, tdiv_pos, tmod_pos])
    | fail
  exact Nat.le_refl 1
theorem in_base_nil (b : Nat) (hb : 2 ≤ b ∧ b ≤ 36) (u : Bool) : Meets Try.prog 27 [.nil, .int .i64 (b : Int), .bool u] (.tup [.str (written b u 0), .int .i64 0]) := by
  have h := in_base_ok (a := []) (fun x hx => by cases hx) (by simp) hb u (by decide)
  exact Meets.nilArg h
theorem in_base_uint (x : Nat) (hx : (x : Int) < B64) (b : Nat) (hb : 2 ≤ b ∧ b ≤ 36) (u : Bool) :
    (x = 0 ∧ Meets Try.prog 17 [.int .u64 (x : Int)] .nil ∧ Meets Try.prog 27 [.nil, .int .i64 (b : Int), .bool u] (.tup [.str (written b u x), .int .i64 0])) ∨
    (x ≠ 0 ∧ Meets Try.prog 17 [.int .u64 (x : Int)] (.ints .u64 [(x : Int)]) ∧ Meets Try.prog 27 [.ints .u64 [(x : Int)], .int .i64 (b : Int), .bool u] (.tup [.str (written b u x), .int .i64 0])) := by
  by_cases h : x = 0
  · subst h
    exact .inl ⟨rfl, from_uint0, in_base_nil b hb u⟩
  · exact .inr ⟨h, from_uint1 _ (by omega), in_base_one x hx b hb u⟩

set_option maxRecDepth 20000 in
set_option maxHeartbeats 4000000 in
theorem whole_unsigned (v f w p : Int) (x : Nat) (hv : 0 ≤ v ∧ v < 256) (hx : (x : Int) < B64) : Meets Try.prog 11 [specV v f w p, .int .u64 (x : Int)] (.tup [.str (unsT v f w p x), .int .i64 (unsE v f w p x)]) := by
  have hc := check_all [111, 117, 120, 88] v f w p rfl (by simp) hv
  refine meets_by ttOk Try.func11 Try.ntmps11 Try.results11 (by kernel_rfl) (c := _) rfl rfl rfl fun E => ?_
  simp only [argsFrame]
  unfold unsT unsE
  by_cases he : checkE [111, 117, 120, 88] v f w p ≠ 0
  · rw [if_pos he, if_pos he]
    generalize checkE [111, 117, 120, 88] v f w p = e at *
    repeat' first
      | (with_reducible refine PW.seq ?_)
      | (with_reducible refine PW.block ?_)
      | (with_reducible refine PW.region ttOk ?_ ?_
         · rfl)
      | (with_reducible refine PW.regionD ttOk mixed ?_ ?_ ?_
         · rfl
         · rfl)
      | (with_reducible refine PW.fork ?_)
      | (with_reducible refine PW.skip ?_)
      | (with_reducible refine PW.exit ?_)
      | (with_reducible refine PW.ret ?_)
      | (with_reducible refine ifW_dec (fun g => ?_) (fun g => ?_) <;> first | (exfalso; omega) | (simp -dsimp only [g, ifW_tt, ifW_ff, ifW_tf, ifW_ft, decide_true, decide_false, Bool.not_true, Bool.not_false]))
      | (with_reducible refine condE_dec (fun g => ?_) (fun g => ?_) <;> try (exfalso; omega))
      | (with_reducible refine condE_not (fun g => ?_) (fun g => ?_) <;> try (exfalso; omega))
      | (simp -dsimp only [↓opsW, ↓opsD, ↓stepD, ↓wantW_eq, ↓opW, ↓qw, ↓ev, ↓toPV, ↓toPV0, ↓thenQ, ↓blockQ, ↓Frame.put, ↓get_cons, get_nil, Nat.reduceBEq, Nat.reduceEqDiff, ↓reduceIte, ↓guardV, ↓dstAt, List.getElem?_cons_succ, List.getElem?_cons_zero, Option.bind_some, ↓isEffect, ↓tt, ↓lenW, ↓binW, ↓unW, ↓idxW, ↓load_int, ↓rowSz, ↓rowLen, List.getD_cons_zero, List.getD_cons_succ, Nat.reduceLT, ↓loadW, ↓partW, ↓cellsOf, ↓isOther, ↓isStruct, ifW_tt, ifW_ff, ifW_tf, ifW_ft, condE_t, condE_f, true_and, and_true, cond_true, cond_false, decide_true, decide_false, Bool.not_true, Bool.not_false, Fin_ret, Fin_normal, FinH_ret, FinH_normal, ↓resHs, ↓resH, ↓resVs, ↓resV, ↓view, ↓view0, ↓okView, ↓okView0, ↓oneOf, ↓extractW, List.map_cons, List.map_nil, Array.toList, ↓sliceW, ↓elemSize, ↓cutW, ↓cutL, ↓optI, Option.map_some, Option.map_none, ↓litW, inOrder, Bool.true_and, Bool.and_true, decide_eq_true_eq, ↓intsOf, ↓builtinW, ↓appW, ↓notInt, ↓baseI, ↓srcI, ↓putRes, ↓Heap.new, ↓Heap.newT, dropT, ↓elemT, ↓Heap.move, ↓Heap.moveT, hasT, getT, ↓Heap.set, setRow, killRows, killRow, ↓Heap.get, getRow, ↓killF, Frame.kill, ↓Go.PV.kill, ↓kill1, ↓kill0, ↓convW, ↓strOf, List.length_cons, List.length_nil, List.length_append, List.drop_zero, List.take_length, List.cons_append, List.nil_append, ↓indexW, ↓copyW, ↓storeW, ↓nilCheckW, ↓fieldAddrW, ↓setL, List.set_cons_zero, List.set_cons_succ, ↓dataB, ↓dataB0, ↓makeW, known, List.append_assoc, Nat.zero_add, List.map_append, beq_self_eq_true, ↓isBytes, Nat.reduceAdd, Nat.reduceMul, ↓IntKind.bits, Int.reduceToNat, Int.reducePow, List.take_succ_cons, List.take_zero, Int.toNat_natCast, toNat_add, fillW, List.all_cons, List.all_nil, Value.oneCell', ↓okViews0, bytesI_mk, UInt8.reduceToNat, Int.cast_ofNat_Int, ofNat_cast])
      | (refine call_by hc (views_data rfl) ⟨⟨trivial, trivial, trivial, trivial, trivial⟩, trivial, trivial⟩ rfl ?_)
      | (simp -dsimp (disch := first | assumption | omega) only [dec_t, dec_f])
      | (refine And.intro ?_ ?_
         · first | omega | decide | (simp (disch := omega) only [toNat_add, Int.toNat_natCast, Int.reduceToNat, Int.reducePow, Nat.min_eq_left, wrap_i64, wrap_u64, wrap_u8, and7_u8, fdiv_pos, tdiv_pos, tmod_pos]; done) | (simp (disch := omega) only [toNat_add, Int.toNat_natCast, Int.reduceToNat, Int.reducePow, Nat.min_eq_left, wrap_i64, wrap_u64, wrap_u8, and7_u8, fdiv_pos, tdiv_pos, tmod_pos]; omega) | (simp; done) | (simp; omega))
      | (simp (disch := omega) only [toNat_add, Int.toNat_natCast, Int.reduceToNat, Int.reducePow, Nat.min_eq_left, wrap_i64, wrap_u64, wrap_u8, and7_u8, fdiv_pos, tdiv_pos, tmod_pos])
      | fail
  rw [if_neg he, if_neg he]
  have he0 : checkE [111, 117, 120, 88] v f w p = 0 := by omega
  rw [he0] at hc
  obtain ⟨hm, hr⟩ := checkE_ok he0
  obtain ⟨f0, f1, w0, w1, p0, p1⟩ := rawE_ok hr
  have b8 := (and_f ⟨f0, f1⟩).2.2.2.2
  have hpad := fun h b hh => whole_pad v f w p h b (decide (p = -1)) hh
  simp only [padR_eq] at hpad
  have hu : (x : Int) < 18446744073709551616 := hx
  have hby : PV.byteOf 120 = 120 ∧ PV.byteOf 88 = 88 := by decide
  obtain ⟨D, hD⟩ : ∃ D, unsDig v x = D := ⟨_, rfl⟩
  rw [hD]
  obtain ⟨b, hb, hb2⟩ : ∃ b : Nat, b = (if v = 111 then 8 else if v = 120 ∨ v = 88 then 16 else 10) ∧ (2 ≤ b ∧ b ≤ 36) := ⟨_, rfl, by (repeat' split) <;> decide⟩
  have hD' : written b (decide (v = 88)) x = D := by rw [hb]; exact hD
  have hib := in_base_uint x hx b hb2 (decide (v = 88))
  have hDl := written_one x hx hb2 (decide (v = 88))
  have hDb := written_bytes hb2 (decide (v = 88)) x
  rw [hD'] at hib hDl hDb
  have hfl := whole_precise v f w p ⟨p0, p1⟩ D (by omega)
  have hhp0 := has_prefix0 (fill p D) (fill_byte hDb)
  have hfn := fill_len p D
  generalize fill p D = B at *
  have hBl : B.length ≤ 1000000 := by omega
  have hp00 := hpad [] B ⟨by simp, by omega⟩
  have hp10 := hpad [48, v] B ⟨by simp, by omega⟩
  have hp01 := hpad [] (48 :: B) ⟨by simp, by rw [List.length_cons]; omega⟩
  clear hpad
  clear hD hD' he he0 hr hfn hDb
  simp only [List.mem_cons, List.not_mem_nil, or_false] at hm
  obtain ⟨q, hq, hhp⟩ : ∃ q : Bool, (q = true ↔ (0 < B.length ∧ B.getD 0 0 = 48)) ∧ Meets Try.prog 28 [.str B, .str [48]] (.bool q) := ⟨_, decide_eq_true_iff, hhp0⟩
  clear hhp0
  obtain ⟨up, bi, hbu, hib2⟩ : ∃ (up : Bool) (bi : Int), ((v = 111 ∧ bi = 8 ∧ up = false) ∨ (v = 117 ∧ bi = 10 ∧ up = false) ∨ (v = 120 ∧ bi = 16 ∧ up = false) ∨ (v = 88 ∧ bi = 16 ∧ up = true)) ∧ ((x = 0 ∧ Meets Try.prog 17 [.int .u64 (x : Int)] .nil ∧ Meets Try.prog 27 [.nil, .int .i64 bi, .bool up] (.tup [.str D, .int .i64 0])) ∨
    (x ≠ 0 ∧ Meets Try.prog 17 [.int .u64 (x : Int)] (.ints .u64 [(x : Int)]) ∧ Meets Try.prog 27 [.ints .u64 [(x : Int)], .int .i64 bi, .bool up] (.tup [.str D, .int .i64 0]))) := by
    refine ⟨_, _, ?_, hib⟩
    rcases hm with rfl | rfl | rfl | rfl
    · obtain rfl : b = 8 := hb
      exact .inl ⟨rfl, rfl, rfl⟩
    · obtain rfl : b = 10 := hb
      exact .inr (.inl ⟨rfl, rfl, rfl⟩)
    · obtain rfl : b = 16 := hb
      exact .inr (.inr (.inl ⟨rfl, rfl, rfl⟩))
    · obtain rfl : b = 16 := hb
      exact .inr (.inr (.inr ⟨rfl, rfl, rfl⟩))
  clear hb hm hb2 hDl hib
  rcases hbu with ⟨rfl, rfl, rfl⟩ | ⟨rfl, rfl, rfl⟩ | ⟨rfl, rfl, rfl⟩ | ⟨rfl, rfl, rfl⟩
  all_goals rcases hib2 with ⟨hx0, hfu, hib⟩ | ⟨hx0, hfu, hib⟩
  all_goals rcases q with _ | _
  all_goals simp only [Bool.false_eq_true, false_iff, true_iff] at hq
  all_goals
    repeat' first
      | (simp only [hby.1, hby.2])
      | (with_reducible refine PW.seq ?_)
      | (with_reducible refine PW.block ?_)
      | (with_reducible refine PW.region ttOk ?_ ?_
         · rfl)
      | (with_reducible refine PW.regionD ttOk mixed ?_ ?_ ?_
         · rfl
         · rfl)
      | (with_reducible refine PW.fork ?_)
      | (with_reducible refine PW.skip ?_)
      | (with_reducible refine PW.exit ?_)
      | (with_reducible refine PW.ret ?_)
      | (with_reducible refine ifW_dec (fun g => ?_) (fun g => ?_) <;> first | (exfalso; omega) | (simp -dsimp only [g, ifW_tt, ifW_ff, ifW_tf, ifW_ft, decide_true, decide_false, Bool.not_true, Bool.not_false]))
      | (with_reducible refine condE_dec (fun g => ?_) (fun g => ?_) <;> try (exfalso; omega))
      | (with_reducible refine condE_not (fun g => ?_) (fun g => ?_) <;> try (exfalso; omega))
      | (simp -dsimp only [↓opsW, ↓opsD, ↓stepD, ↓wantW_eq, ↓opW, ↓qw, ↓ev, ↓toPV, ↓toPV0, ↓thenQ, ↓blockQ, ↓Frame.put, ↓get_cons, get_nil, Nat.reduceBEq, Nat.reduceEqDiff, ↓reduceIte, ↓guardV, ↓dstAt, List.getElem?_cons_succ, List.getElem?_cons_zero, Option.bind_some, ↓isEffect, ↓tt, ↓lenW, ↓binW, ↓unW, ↓idxW, ↓load_int, ↓rowSz, ↓rowLen, List.getD_cons_zero, List.getD_cons_succ, Nat.reduceLT, ↓loadW, ↓partW, ↓cellsOf, ↓isOther, ↓isStruct, ifW_tt, ifW_ff, ifW_tf, ifW_ft, condE_t, condE_f, true_and, and_true, cond_true, cond_false, decide_true, decide_false, Bool.not_true, Bool.not_false, Fin_ret, Fin_normal, FinH_ret, FinH_normal, ↓resHs, ↓resH, ↓resVs, ↓resV, ↓view, ↓view0, ↓okView, ↓okView0, ↓oneOf, ↓extractW, List.map_cons, List.map_nil, Array.toList, ↓sliceW, ↓elemSize, ↓cutW, ↓cutL, ↓optI, Option.map_some, Option.map_none, ↓litW, inOrder, Bool.true_and, Bool.and_true, decide_eq_true_eq, ↓intsOf, ↓builtinW, ↓appW, ↓notInt, ↓baseI, ↓srcI, ↓putRes, ↓Heap.new, ↓Heap.newT, dropT, ↓elemT, ↓Heap.move, ↓Heap.moveT, hasT, getT, ↓Heap.set, setRow, killRows, killRow, ↓Heap.get, getRow, ↓killF, Frame.kill, ↓Go.PV.kill, ↓kill1, ↓kill0, ↓convW, ↓strOf, List.length_cons, List.length_nil, List.length_append, List.drop_zero, List.take_length, List.cons_append, List.nil_append, ↓indexW, ↓copyW, ↓storeW, ↓nilCheckW, ↓fieldAddrW, ↓setL, List.set_cons_zero, List.set_cons_succ, ↓dataB, ↓dataB0, ↓makeW, known, List.append_assoc, Nat.zero_add, List.map_append, beq_self_eq_true, ↓isBytes, Nat.reduceAdd, Nat.reduceMul, ↓IntKind.bits, Int.reduceToNat, Int.reducePow, List.take_succ_cons, List.take_zero, Int.toNat_natCast, toNat_add, fillW, List.all_cons, List.all_nil, Value.oneCell', ↓okViews0, bytesI_mk, UInt8.reduceToNat, Int.cast_ofNat_Int, ofNat_cast])
      | (with_reducible refine ifW_not (fun g => ?_) (fun g => ?_) <;> first | (exfalso; omega) | (simp -dsimp only [g, ifW_tt, ifW_ff, ifW_tf, ifW_ft, decide_true, decide_false, Bool.not_true, Bool.not_false]))
      | (refine call_by hc (views_data rfl) ⟨⟨trivial, trivial, trivial, trivial, trivial⟩, trivial, trivial⟩ rfl ?_)
      | (refine call_by hfu (views_data rfl) ⟨trivial, trivial⟩ rfl ?_)
      | (refine call_by hib (views_data rfl) ⟨trivial, trivial, trivial, trivial⟩ rfl ?_)
      | (refine call_by hfl (views_data rfl) ⟨⟨trivial, trivial, trivial, trivial, trivial⟩, trivial, trivial⟩ rfl ?_)
      | (refine call_by hhp (views_data rfl) ⟨trivial, trivial, trivial⟩ rfl ?_)
      | (refine call_by hp00 (views_data rfl) ⟨⟨trivial, trivial, trivial, trivial, trivial⟩, trivial, trivial, trivial, trivial⟩ rfl ?_)
      | (refine call_by hp10 (views_data rfl) ⟨⟨trivial, trivial, trivial, trivial, trivial⟩, trivial, trivial, trivial, trivial⟩ rfl ?_)
      | (refine call_by hp01 (views_data rfl) ⟨⟨trivial, trivial, trivial, trivial, trivial⟩, trivial, trivial, trivial, trivial⟩ rfl ?_)
      | (simp -dsimp (disch := first | assumption | omega) only [dec_t, dec_f])
      | (refine And.intro ?_ ?_
         · first | omega | decide | (simp (disch := omega) only [toNat_add, Int.toNat_natCast, Int.reduceToNat, Int.reducePow, Nat.min_eq_left, wrap_i64, wrap_u64, wrap_u8, and7_u8, fdiv_pos, tdiv_pos, tmod_pos]; done) | (simp (disch := omega) only [toNat_add, Int.toNat_natCast, Int.reduceToNat, Int.reducePow, Nat.min_eq_left, wrap_i64, wrap_u64, wrap_u8, and7_u8, fdiv_pos, tdiv_pos, tmod_pos]; omega) | (simp; done) | (simp; omega))
      | (simp (disch := omega) only [toNat_add, Int.toNat_natCast, Int.reduceToNat, Int.reducePow, Nat.min_eq_left, wrap_i64, wrap_u64, wrap_u8, and7_u8, fdiv_pos, tdiv_pos, tmod_pos])
      | fail
  all_goals clear hp00 hp10 hp01 hfl hc hib hfu hhp
  all_goals (simp only [unsHead, unsBody, List.getD_cons_zero, List.length_cons, List.length_nil] <;> (repeat' split) <;> first | rfl | (exfalso; omega) | (exfalso; simp_all; done) | (exfalso; simp_all; omega) | trace_state)
end Go.Proofs.Ytmoigffjpijpaab


import Derived.Test.YtmoigffjpijpaabDoorD2
set_option linter.unusedVariables false
set_option linter.unusedSimpArgs false
namespace Go.Proofs.YtmoigffjpijpaabDoor
open Go Go.PV

abbrev fA (Y y1 y0 u m1 m0 s q r : Int) : PV.Frame := [(15, .int .u64 q), (16, .int .u64 r), (2, .int .u64 Y), (9, .int .u64 y1), (10, .int .u64 y0), (11, .int .u64 u), (13, .int .u64 m1), (14, .int .u64 m0), (8, .int .u64 s)]
abbrev fA' (Y y1 y0 u m1 m0 s : Int) : PV.Frame := [(15, .int .u64 (halfQ u y1 y0 m1)), (2, .int .u64 Y), (9, .int .u64 y1), (10, .int .u64 y0), (11, .int .u64 u), (13, .int .u64 m1), (14, .int .u64 m0), (8, .int .u64 s)]
abbrev fB (Y y1 y0 q1 u m0 s q r : Int) : PV.Frame := [(18, .int .u64 q), (16, .int .u64 r), (2, .int .u64 Y), (9, .int .u64 y1), (10, .int .u64 y0), (17, .int .u64 u), (15, .int .u64 q1), (14, .int .u64 m0), (8, .int .u64 s)]
abbrev fB' (Y y1 y0 q1 u m0 s : Int) : PV.Frame := [(18, .int .u64 (halfQ u y1 y0 m0)), (2, .int .u64 Y), (17, .int .u64 u), (15, .int .u64 q1), (14, .int .u64 m0), (8, .int .u64 s)]

/-- The state at the head of the first loop. -/
def DivA (Y y1 y0 u m1 m0 s : Int) (n : Nat) (F : PV.Frame) (H : PV.Heap) : Prop :=
  ∃ q r, Est u y1 y0 m1 q r ∧ r < 4294967296 ∧ q.toNat = n ∧ F = [(15, .int .u64 q), (16, .int .u64 r), (2, .int .u64 Y), (9, .int .u64 y1), (10, .int .u64 y0), (11, .int .u64 u), (13, .int .u64 m1), (14, .int .u64 m0), (8, .int .u64 s)] ∧ H = ⟨0, [], [], []⟩
def DivA' (Y y1 y0 u m1 m0 s : Int) (F : PV.Frame) (H : PV.Heap) : Prop :=
  F = [(15, .int .u64 (halfQ u y1 y0 m1)), (2, .int .u64 Y), (9, .int .u64 y1), (10, .int .u64 y0), (11, .int .u64 u), (13, .int .u64 m1), (14, .int .u64 m0), (8, .int .u64 s)] ∧ H = ⟨0, [], [], []⟩
/-- .. and of the second. -/
def DivB (Y y1 y0 q1 u m0 s : Int) (n : Nat) (F : PV.Frame) (H : PV.Heap) : Prop :=
  ∃ q r, Est u y1 y0 m0 q r ∧ r < 4294967296 ∧ q.toNat = n ∧ F = [(18, .int .u64 q), (16, .int .u64 r), (2, .int .u64 Y), (9, .int .u64 y1), (10, .int .u64 y0), (17, .int .u64 u), (15, .int .u64 q1), (14, .int .u64 m0), (8, .int .u64 s)] ∧ H = ⟨0, [], [], []⟩
def DivB' (Y y1 y0 q1 u m0 s : Int) (F : PV.Frame) (H : PV.Heap) : Prop :=
  F = [(18, .int .u64 (halfQ u y1 y0 m0)), (2, .int .u64 Y), (17, .int .u64 u), (15, .int .u64 q1), (14, .int .u64 m0), (8, .int .u64 s)] ∧ H = ⟨0, [], [], []⟩

set_option maxHeartbeats 2000000 in
theorem div64 (hi lo y : Int) (hy : 0 < y ∧ y < B64) (hh : 0 ≤ hi ∧ hi < y) (hl : 0 ≤ lo ∧ lo < B64) : Meets Tryd.prog 25 [.int .u64 hi, .int .u64 lo, .int .u64 y] (.tup [.int .u64 ((hi * B64 + lo) / y), .int .u64 ((hi * B64 + lo) % y)]) := by
  obtain ⟨s, hs, hn1, hn2, hm⟩ := leading y hy
  simp only [B64] at *
  have hs1 : ((s : Int)).toNat = s := Int.toNat_natCast s
  have hs2 : min s 64 = s := by omega
  have hs3 : (64 - (s : Int)).toNat = 64 - s := by omega
  have hs4 : min (64 - s) 64 = 64 - s := by omega
  have hBC : (2 : Int) ^ (64 - s) * 2 ^ s = 18446744073709551616 := by
    rw [← Int.pow_add, show 64 - s + s = 64 by omega]; rfl
  have hor := or_low hi
  obtain ⟨B, hB'⟩ : ∃ B, (2 : Int) ^ s = B := ⟨_, rfl⟩
  obtain ⟨C, hC⟩ : ∃ C, (2 : Int) ^ (64 - s) = C := ⟨_, rfl⟩
  have hB0 : 0 < B := by rw [← hB']; exact Int.pow_pos (by decide)
  have hC0 : 0 < C := by rw [← hC]; exact Int.pow_pos (by decide)
  have hor := fun z => hor z s hh.1
  rw [hB'] at hn1 hn2 hBC
  simp only [hB'] at hor
  rw [hC] at hBC
  have hd1 : 0 ≤ lo / C := Int.ediv_nonneg hl.1 (by omega)
  have hd2 : lo / C < B := by
    rw [Int.ediv_lt_iff_lt_mul hC0, Int.mul_comm]; omega
  have hhB : 0 ≤ hi * B := Int.mul_nonneg hh.1 (by omega)
  have hhB2 : (hi + 1) * B ≤ y * B := Int.mul_le_mul_of_nonneg_right (by omega) (by omega)
  have hhB3 : (hi + 1) * B = hi * B + B := by grind
  have hfd : lo.fdiv C = lo / C := fdiv_pos (by omega)
  have hwB : IntKind.wrap .u64 (hi * B) = hi * B := wrap_u64 (by omega)
  have hwY : IntKind.wrap .u64 (y * B) = y * B := wrap_u64 (by omega)
  have hoU := hor (lo / C) ⟨hd1, hd2⟩ (by omega)
  have hL : IntKind.wrap .u64 (lo * B) = lo % C * B := by
    rw [wrap_u64']
    have e1 := Int.emod_add_mul_ediv lo C
    have e2 : lo * B = lo % C * B + 18446744073709551616 * (lo / C) := by
      have e3 : lo * B = (lo % C + C * (lo / C)) * B := by rw [e1]
      rw [e3, ← hBC]; grind
    have e4 := Int.emod_nonneg lo (show C ≠ 0 by omega)
    have e5 := Int.emod_lt_of_pos lo hC0
    have e6 : 0 ≤ lo % C * B := Int.mul_nonneg e4 (by omega)
    have e7 : (lo % C + 1) * B ≤ C * B := Int.mul_le_mul_of_nonneg_right (by omega) (by omega)
    have e8 : (lo % C + 1) * B = lo % C * B + B := by grind
    rw [e2]; omega
  have hL0 : 0 ≤ lo % C * B ∧ lo % C * B < 18446744073709551616 := by rw [← hL, wrap_u64']; omega
  have hN : (hi * 18446744073709551616 + lo) * B = (hi * B + lo / C) * 18446744073709551616 + lo % C * B := by
    have e1 := Int.emod_add_mul_ediv lo C
    have e3 : lo * B = (lo % C + C * (lo / C)) * B := by rw [e1]
    have e4 : (hi * 18446744073709551616 + lo) * B = hi * B * 18446744073709551616 + lo * B := by grind
    rw [e4, e3, ← hBC]; grind
  have hU0 : 0 ≤ hi * B + lo / C ∧ hi * B + lo / C < y * B := by omega
  obtain ⟨U, hU⟩ : ∃ U, hi * B + lo / C = U := ⟨_, rfl⟩
  obtain ⟨L, hLL⟩ : ∃ L, lo % C * B = L := ⟨_, rfl⟩
  obtain ⟨Y, hY⟩ : ∃ Y, y * B = Y := ⟨_, rfl⟩
  rw [hU] at hoU hN hU0
  rw [hLL] at hL hL0 hN
  rw [hY] at hn1 hn2 hwY hU0
  obtain ⟨y1, hy1⟩ : ∃ v, Y / 4294967296 = v := ⟨_, rfl⟩
  obtain ⟨y0, hy0⟩ : ∃ v, Y % 4294967296 = v := ⟨_, rfl⟩
  obtain ⟨m1, hm1⟩ : ∃ v, L / 4294967296 = v := ⟨_, rfl⟩
  obtain ⟨m0, hm0⟩ : ∃ v, L % 4294967296 = v := ⟨_, rfl⟩
  have hYe : Y = y1 * 4294967296 + y0 := by omega
  have hA : Half U y1 y0 m1 := ⟨by omega, by omega, by omega, by omega⟩
  obtain ⟨hi1, hi2⟩ := est_init hA
  have hwq : IntKind.wrap .u64 (U.tdiv y1) = U / y1 := by
    have := hi1.hi; have := hi1.q0
    rw [tdiv_pos hU0.1]; exact wrap_u64 (by omega)
  have hwp : IntKind.wrap .u64 (U / y1 * y1) = U / y1 * y1 := by
    have := hi1.he; have := hi1.hr
    have h1 : 0 ≤ U / y1 * y1 := Int.mul_nonneg hi1.q0 (by omega)
    exact wrap_u64 (by omega)
  have hwr : IntKind.wrap .u64 (U - U / y1 * y1) = U - U / y1 * y1 := by
    have := hi1.hr
    exact wrap_u64 (by omega)
  have hay : ibits .and .u64 Y 4294967295 = y0 := by rw [and32' (by omega), hy0]
  have haL : ibits .and .u64 L 4294967295 = m0 := by rw [and32' (by omega), hm0]
  refine meets_by ttOk Tryd.func25 Tryd.ntmps25 Tryd.results25 (by kernel_rfl) (c := _) rfl rfl rfl fun E => ?_
  simp only [argsFrame]
  repeat' first
    | (simp only [hs1, hs2, hs3, hs4, hB', hC, hwB, hfd, hoU, hL, hY, hwY, hay, haL, hy1, hm1, hwq, hwp, hwr])
    | (simp (disch := omega) only [hs1, hs2, hs3, hs4, toNat_add, Int.toNat_natCast, Int.reduceToNat, Int.reducePow, Nat.min_eq_left, wrap_i64, wrap_u64, wrap_u8, and7_u8, fdiv_pos, tdiv_pos, tmod_pos])
    | (with_reducible refine PW.seq ?_)
    | (with_reducible refine PW.block ?_)
    | (with_reducible refine PW.region ttOk ?_ ?_
       · rfl)
    | (with_reducible refine PW.regionD ttOk mixed ?_ ?_ ?_
       · rfl
       · rfl)
    | (with_reducible refine PW.fork ?_)
    | (with_reducible refine PW.skip ?_)
    | (with_reducible refine PW.exit ?_)
    | (with_reducible refine PW.ret ?_)
    | (with_reducible refine ifW_dec (fun g => ?_) (fun g => ?_) <;> first | (exfalso; omega) | (simp -dsimp only [g, ifW_tt, ifW_ff, ifW_tf, ifW_ft, decide_true, decide_false, Bool.not_true, Bool.not_false]))
    | (with_reducible refine condE_dec (fun g => ?_) (fun g => ?_) <;> try (exfalso; omega))
    | (with_reducible refine condE_not (fun g => ?_) (fun g => ?_) <;> try (exfalso; omega))
    | (simp -dsimp only [↓opsW, ↓opsD, ↓stepD, ↓wantW_eq, ↓opW, ↓qw, ↓ev, ↓toPV, ↓toPV0, ↓thenQ, ↓blockQ, ↓Frame.put, ↓get_cons, get_nil, Nat.reduceBEq, Nat.reduceEqDiff, ↓reduceIte, ↓guardV, ↓dstAt, List.getElem?_cons_succ, List.getElem?_cons_zero, Option.bind_some, ↓isEffect, ↓tt, ↓lenW, ↓binT, ↓asB, ↓boolT, ↓binW, ↓unW, ↓idxW, ↓load_int, ↓rowSz, ↓rowLen, List.getD_cons_zero, List.getD_cons_succ, Nat.reduceLT, ↓loadW, ↓partW, ↓cellsOf, ↓isOther, ↓isStruct, ifW_tt, ifW_ff, ifW_tf, ifW_ft, condE_t, condE_f, true_and, and_true, cond_true, cond_false, decide_true, decide_false, Bool.not_true, Bool.not_false, Fin_ret, Fin_normal, FinH_ret, FinH_normal, ↓resHs, ↓resH, ↓resVs, ↓resV, ↓view, ↓view0, ↓okView, ↓okView0, ↓oneOf, ↓extractW, List.map_cons, List.map_nil, Array.toList, ↓sliceW, ↓elemSize, ↓cutW, ↓cutL, ↓optI, Option.map_some, Option.map_none, ↓litW, inOrder, Bool.true_and, Bool.and_true, decide_eq_true_eq, ↓intsOf, ↓builtinW, ↓appW, ↓notInt, ↓baseI, ↓srcI, ↓putRes, ↓Heap.new, ↓Heap.newT, dropT, ↓elemT, ↓Heap.move, ↓Heap.moveT, hasT, getT, ↓Heap.set, setRow, killRows, killRow, ↓Heap.get, getRow, ↓killF, Frame.kill, ↓Go.PV.kill, ↓kill1, ↓kill0, ↓convW, ↓strOf, List.length_cons, List.length_nil, List.length_append, List.drop_zero, List.take_length, List.cons_append, List.nil_append, ↓indexW, ↓copyW, ↓storeW, ↓nilCheckW, ↓fieldAddrW, ↓setL, List.set_cons_zero, List.set_cons_succ, ↓dataB, ↓dataB0, ↓makeW, known, List.append_assoc, Nat.zero_add, List.map_append, beq_self_eq_true, ↓isBytes, Nat.reduceAdd, Nat.reduceMul, ↓IntKind.bits, Int.reduceToNat, Int.reducePow, List.take_succ_cons, List.take_zero, Int.toNat_natCast, toNat_add, fillW, List.all_cons, List.all_nil, Value.oneCell', ↓okViews0, bytesI_mk, UInt8.reduceToNat, Int.cast_ofNat_Int, ofNat_cast])
    | (refine call_by hm (views_data rfl) ⟨trivial, trivial⟩ rfl ?_)
    | (simp -dsimp (disch := first | assumption | omega) only [dec_t, dec_f])
    | (refine And.intro ?_ ?_
       · first | omega | decide | (simp (disch := omega) only [toNat_add, Int.toNat_natCast, Int.reduceToNat, Int.reducePow, Nat.min_eq_left, wrap_i64, wrap_u64, wrap_u8, and7_u8, fdiv_pos, tdiv_pos, tmod_pos]; done) | (simp (disch := omega) only [toNat_add, Int.toNat_natCast, Int.reduceToNat, Int.reducePow, Nat.min_eq_left, wrap_i64, wrap_u64, wrap_u8, and7_u8, fdiv_pos, tdiv_pos, tmod_pos]; omega) | (simp; done) | (simp; omega))
    | (simp (disch := omega) only [toNat_add, Int.toNat_natCast, Int.reduceToNat, Int.reducePow, Nat.min_eq_left, wrap_i64, wrap_u64, wrap_u8, and7_u8, fdiv_pos, tdiv_pos, tmod_pos])
    | fail
  · subst g
    have h1 : 0 ≤ lo / y := Int.ediv_nonneg hl.1 (by omega)
    have h2 : lo / y ≤ lo := Int.ediv_le_self _ hl.1
    simp (disch := omega) only [toNat_add, Int.toNat_natCast, Int.reduceToNat, Int.reducePow, Nat.min_eq_left, wrap_i64, wrap_u64, wrap_u8, and7_u8, fdiv_pos, tdiv_pos, tmod_pos, Int.zero_mul, Int.zero_add]
  refine PW.meetB (DivA' Y y1 y0 U m1 m0 s) ?_ ?_
  · refine PW.loopA (DivA Y y1 y0 U m1 m0 s) (U / y1).toNat [(15, .int .u64 (U / y1)), (16, .int .u64 (U - U / y1 * y1)), (2, .int .u64 Y), (9, .int .u64 y1), (10, .int .u64 y0), (11, .int .u64 U), (13, .int .u64 m1), (14, .int .u64 m0), (8, .int .u64 s)] ⟨0, [], [], []⟩ (Sub.norm ⟨rfl, rfl, rfl, rfl, rfl, rfl, rfl, rfl, rfl, trivial⟩ trivial (by simp) rfl rfl rfl rfl) ⟨_, _, hi1, by omega, rfl, rfl, rfl⟩ ?_
    rintro n F H ⟨q, r, hq, hr, hn, rfl, rfl⟩
    have hq1 := hq.q0; have hq2 := hq.hi; have hq3 := hq.hr
    have hp := est_prod hA hq
    have hz : q ≤ 0 → q * y0 ≤ 0 := fun h => by have : q = 0 := by omega
                                                subst this; simp
    repeat' first
      | (simp (disch := omega) only [toNat_add, Int.toNat_natCast, Int.reduceToNat, Int.reducePow, Nat.min_eq_left, wrap_i64, wrap_u64, wrap_u8, and7_u8, fdiv_pos, tdiv_pos, tmod_pos])
      | (with_reducible refine PW.seq ?_)
      | (with_reducible refine PW.block ?_)
      | (with_reducible refine PW.region ttOk ?_ ?_
         · rfl)
      | (with_reducible refine PW.regionD ttOk mixed ?_ ?_ ?_
         · rfl
         · rfl)
      | (with_reducible refine PW.fork ?_)
      | (with_reducible refine PW.skip ?_)
      | (with_reducible refine PW.exit ?_)
      | (with_reducible refine PW.ret ?_)
      | (with_reducible refine ifW_dec (fun g => ?_) (fun g => ?_) <;> first | (exfalso; omega) | (simp -dsimp only [g, ifW_tt, ifW_ff, ifW_tf, ifW_ft, decide_true, decide_false, Bool.not_true, Bool.not_false]))
      | (with_reducible refine condE_dec (fun g => ?_) (fun g => ?_) <;> try (exfalso; omega))
      | (with_reducible refine condE_not (fun g => ?_) (fun g => ?_) <;> try (exfalso; omega))
      | (simp -dsimp only [↓opsW, ↓opsD, ↓stepD, ↓wantW_eq, ↓opW, ↓qw, ↓ev, ↓toPV, ↓toPV0, ↓thenQ, ↓blockQ, ↓Frame.put, ↓get_cons, get_nil, Nat.reduceBEq, Nat.reduceEqDiff, ↓reduceIte, ↓guardV, ↓dstAt, List.getElem?_cons_succ, List.getElem?_cons_zero, Option.bind_some, ↓isEffect, ↓tt, ↓lenW, ↓binT, ↓asB, ↓boolT, ↓binW, ↓unW, ↓idxW, ↓load_int, ↓rowSz, ↓rowLen, List.getD_cons_zero, List.getD_cons_succ, Nat.reduceLT, ↓loadW, ↓partW, ↓cellsOf, ↓isOther, ↓isStruct, ifW_tt, ifW_ff, ifW_tf, ifW_ft, condE_t, condE_f, true_and, and_true, cond_true, cond_false, decide_true, decide_false, Bool.not_true, Bool.not_false, Fin_ret, Fin_normal, FinH_ret, FinH_normal, ↓resHs, ↓resH, ↓resVs, ↓resV, ↓view, ↓view0, ↓okView, ↓okView0, ↓oneOf, ↓extractW, List.map_cons, List.map_nil, Array.toList, ↓sliceW, ↓elemSize, ↓cutW, ↓cutL, ↓optI, Option.map_some, Option.map_none, ↓litW, inOrder, Bool.true_and, Bool.and_true, decide_eq_true_eq, ↓intsOf, ↓builtinW, ↓appW, ↓notInt, ↓baseI, ↓srcI, ↓putRes, ↓Heap.new, ↓Heap.newT, dropT, ↓elemT, ↓Heap.move, ↓Heap.moveT, hasT, getT, ↓Heap.set, setRow, killRows, killRow, ↓Heap.get, getRow, ↓killF, Frame.kill, ↓Go.PV.kill, ↓kill1, ↓kill0, ↓convW, ↓strOf, List.length_cons, List.length_nil, List.length_append, List.drop_zero, List.take_length, List.cons_append, List.nil_append, ↓indexW, ↓copyW, ↓storeW, ↓nilCheckW, ↓fieldAddrW, ↓setL, List.set_cons_zero, List.set_cons_succ, ↓dataB, ↓dataB0, ↓makeW, known, List.append_assoc, Nat.zero_add, List.map_append, beq_self_eq_true, ↓isBytes, Nat.reduceAdd, Nat.reduceMul, ↓IntKind.bits, Int.reduceToNat, Int.reducePow, List.take_succ_cons, List.take_zero, Int.toNat_natCast, toNat_add, fillW, List.all_cons, List.all_nil, Value.oneCell', ↓okViews0, bytesI_mk, UInt8.reduceToNat, Int.cast_ofNat_Int, ofNat_cast])
      | (simp -dsimp (disch := first | assumption | omega) only [dec_t, dec_f])
      | (refine And.intro ?_ ?_
         · first | omega | decide | (simp (disch := omega) only [toNat_add, Int.toNat_natCast, Int.reduceToNat, Int.reducePow, Nat.min_eq_left, wrap_i64, wrap_u64, wrap_u8, and7_u8, fdiv_pos, tdiv_pos, tmod_pos]; done) | (simp (disch := omega) only [toNat_add, Int.toNat_natCast, Int.reduceToNat, Int.reducePow, Nat.min_eq_left, wrap_i64, wrap_u64, wrap_u8, and7_u8, fdiv_pos, tdiv_pos, tmod_pos]; omega) | (simp; done) | (simp; omega))
      | (simp (disch := omega) only [toNat_add, Int.toNat_natCast, Int.reduceToNat, Int.reducePow, Nat.min_eq_left, wrap_i64, wrap_u64, wrap_u8, and7_u8, fdiv_pos, tdiv_pos, tmod_pos])
      | fail
    · obtain ⟨h1, h2⟩ := est_dec hA hq (.inl (by omega))
      have h3 := est_over hA h1 (by omega) (by omega)
      exact Meet.mk (fA' Y y1 y0 U m1 m0 s) ⟨0, [], [], []⟩ (Sub.norm ⟨congrArg (PV.int .u64) h3, rfl, rfl, rfl, rfl, rfl, rfl, rfl, trivial⟩ trivial (by simp) rfl rfl rfl rfl) ⟨rfl, rfl⟩
    · obtain ⟨h1, h2⟩ := est_dec hA hq (.inl (by omega))
      exact Again.mk (q - 1).toNat (fA Y y1 y0 U m1 m0 s (q - 1) (r + y1)) ⟨0, [], [], []⟩ (by omega) (Sub.norm ⟨rfl, rfl, rfl, rfl, rfl, rfl, rfl, rfl, rfl, trivial⟩ trivial (by simp) rfl rfl rfl rfl) ⟨_, _, h1, by omega, rfl, rfl, rfl⟩
    · obtain ⟨h1, h2⟩ := est_dec hA hq (.inr (by omega))
      have h3 := est_over hA h1 (by omega) (by omega)
      exact Meet.mk (fA' Y y1 y0 U m1 m0 s) ⟨0, [], [], []⟩ (Sub.norm ⟨congrArg (PV.int .u64) h3, rfl, rfl, rfl, rfl, rfl, rfl, rfl, trivial⟩ trivial (by simp) rfl rfl rfl rfl) ⟨rfl, rfl⟩
    · obtain ⟨h1, h2⟩ := est_dec hA hq (.inr (by omega))
      exact Again.mk (q - 1).toNat (fA Y y1 y0 U m1 m0 s (q - 1) (r + y1)) ⟨0, [], [], []⟩ (by omega) (Sub.norm ⟨rfl, rfl, rfl, rfl, rfl, rfl, rfl, rfl, rfl, trivial⟩ trivial (by simp) rfl rfl rfl rfl) ⟨_, _, h1, by omega, rfl, rfl, rfl⟩
    · have h3 := est_stop hA hq (by omega)
      exact Meet.mk (fA' Y y1 y0 U m1 m0 s) ⟨0, [], [], []⟩ (Sub.norm ⟨congrArg (PV.int .u64) h3, rfl, rfl, rfl, rfl, rfl, rfl, rfl, trivial⟩ trivial (by simp) rfl rfl rfl rfl) ⟨rfl, rfl⟩
  · rintro F H ⟨rfl, rfl⟩
    have hQt := half_top hA
    have hQn := half_nonneg hA
    have hQe := Int.emod_add_mul_ediv (U * 4294967296 + m1) Y
    have hVn := Int.emod_nonneg (U * 4294967296 + m1) (show Y ≠ 0 by omega)
    have hVl := Int.emod_lt_of_pos (U * 4294967296 + m1) (show 0 < Y by omega)
    rw [show halfQ U y1 y0 m1 = (U * 4294967296 + m1) / Y by rw [halfQ, hYe]] at hQt hQn ⊢
    obtain ⟨Q1, hQ1⟩ : ∃ v, (U * 4294967296 + m1) / Y = v := ⟨_, rfl⟩
    obtain ⟨V, hV⟩ : ∃ v, (U * 4294967296 + m1) % Y = v := ⟨_, rfl⟩
    simp only [hQ1, hV] at hQt hQn hQe hVn hVl ⊢
    have hYQ : Y * Q1 = Q1 * Y := Int.mul_comm _ _
    have hVw : IntKind.wrap .u64 (IntKind.wrap .u64 (IntKind.wrap .u64 (U * 4294967296) + m1) - IntKind.wrap .u64 (Q1 * Y)) = V := by
      simp only [wrap_u64']; omega
    have hB : Half V y1 y0 m0 := ⟨by omega, by omega, by omega, by omega⟩
    obtain ⟨hi1, hi2⟩ := est_init hB
    have hwq : IntKind.wrap .u64 (V.tdiv y1) = V / y1 := by
      have := hi1.hi; have := hi1.q0
      rw [tdiv_pos hVn]; exact wrap_u64 (by omega)
    have hwp : IntKind.wrap .u64 (V / y1 * y1) = V / y1 * y1 := by
      have := hi1.he; have := hi1.hr
      have h1 : 0 ≤ V / y1 * y1 := Int.mul_nonneg hi1.q0 (by omega)
      exact wrap_u64 (by omega)
    have hwr : IntKind.wrap .u64 (V - V / y1 * y1) = V - V / y1 * y1 := by
      have := hi1.hr
      exact wrap_u64 (by omega)
    repeat' first
      | (simp only [hVw, hwq, hwp, hwr])
      | (with_reducible refine PW.seq ?_)
      | (with_reducible refine PW.block ?_)
      | (with_reducible refine PW.region ttOk ?_ ?_
         · rfl)
      | (with_reducible refine PW.regionD ttOk mixed ?_ ?_ ?_
         · rfl
         · rfl)
      | (with_reducible refine PW.fork ?_)
      | (with_reducible refine PW.skip ?_)
      | (with_reducible refine PW.exit ?_)
      | (with_reducible refine PW.ret ?_)
      | (with_reducible refine ifW_dec (fun g => ?_) (fun g => ?_) <;> first | (exfalso; omega) | (simp -dsimp only [g, ifW_tt, ifW_ff, ifW_tf, ifW_ft, decide_true, decide_false, Bool.not_true, Bool.not_false]))
      | (with_reducible refine condE_dec (fun g => ?_) (fun g => ?_) <;> try (exfalso; omega))
      | (with_reducible refine condE_not (fun g => ?_) (fun g => ?_) <;> try (exfalso; omega))
      | (simp -dsimp only [↓opsW, ↓opsD, ↓stepD, ↓wantW_eq, ↓opW, ↓qw, ↓ev, ↓toPV, ↓toPV0, ↓thenQ, ↓blockQ, ↓Frame.put, ↓get_cons, get_nil, Nat.reduceBEq, Nat.reduceEqDiff, ↓reduceIte, ↓guardV, ↓dstAt, List.getElem?_cons_succ, List.getElem?_cons_zero, Option.bind_some, ↓isEffect, ↓tt, ↓lenW, ↓binT, ↓asB, ↓boolT, ↓binW, ↓unW, ↓idxW, ↓load_int, ↓rowSz, ↓rowLen, List.getD_cons_zero, List.getD_cons_succ, Nat.reduceLT, ↓loadW, ↓partW, ↓cellsOf, ↓isOther, ↓isStruct, ifW_tt, ifW_ff, ifW_tf, ifW_ft, condE_t, condE_f, true_and, and_true, cond_true, cond_false, decide_true, decide_false, Bool.not_true, Bool.not_false, Fin_ret, Fin_normal, FinH_ret, FinH_normal, ↓resHs, ↓resH, ↓resVs, ↓resV, ↓view, ↓view0, ↓okView, ↓okView0, ↓oneOf, ↓extractW, List.map_cons, List.map_nil, Array.toList, ↓sliceW, ↓elemSize, ↓cutW, ↓cutL, ↓optI, Option.map_some, Option.map_none, ↓litW, inOrder, Bool.true_and, Bool.and_true, decide_eq_true_eq, ↓intsOf, ↓builtinW, ↓appW, ↓notInt, ↓baseI, ↓srcI, ↓putRes, ↓Heap.new, ↓Heap.newT, dropT, ↓elemT, ↓Heap.move, ↓Heap.moveT, hasT, getT, ↓Heap.set, setRow, killRows, killRow, ↓Heap.get, getRow, ↓killF, Frame.kill, ↓Go.PV.kill, ↓kill1, ↓kill0, ↓convW, ↓strOf, List.length_cons, List.length_nil, List.length_append, List.drop_zero, List.take_length, List.cons_append, List.nil_append, ↓indexW, ↓copyW, ↓storeW, ↓nilCheckW, ↓fieldAddrW, ↓setL, List.set_cons_zero, List.set_cons_succ, ↓dataB, ↓dataB0, ↓makeW, known, List.append_assoc, Nat.zero_add, List.map_append, beq_self_eq_true, ↓isBytes, Nat.reduceAdd, Nat.reduceMul, ↓IntKind.bits, Int.reduceToNat, Int.reducePow, List.take_succ_cons, List.take_zero, Int.toNat_natCast, toNat_add, fillW, List.all_cons, List.all_nil, Value.oneCell', ↓okViews0, bytesI_mk, UInt8.reduceToNat, Int.cast_ofNat_Int, ofNat_cast])
      | (simp -dsimp (disch := first | assumption | omega) only [dec_t, dec_f])
      | (refine And.intro ?_ ?_
         · first | omega | decide | (simp (disch := omega) only [toNat_add, Int.toNat_natCast, Int.reduceToNat, Int.reducePow, Nat.min_eq_left, wrap_i64, wrap_u64, wrap_u8, and7_u8, fdiv_pos, tdiv_pos, tmod_pos]; done) | (simp (disch := omega) only [toNat_add, Int.toNat_natCast, Int.reduceToNat, Int.reducePow, Nat.min_eq_left, wrap_i64, wrap_u64, wrap_u8, and7_u8, fdiv_pos, tdiv_pos, tmod_pos]; omega) | (simp; done) | (simp; omega))
      | (simp (disch := omega) only [toNat_add, Int.toNat_natCast, Int.reduceToNat, Int.reducePow, Nat.min_eq_left, wrap_i64, wrap_u64, wrap_u8, and7_u8, fdiv_pos, tdiv_pos, tmod_pos])
      | fail
    refine PW.meetB (DivB' Y y1 y0 Q1 V m0 s) ?_ ?_
    · refine PW.loopA (DivB Y y1 y0 Q1 V m0 s) (V / y1).toNat [(18, .int .u64 (V / y1)), (16, .int .u64 (V - V / y1 * y1)), (2, .int .u64 Y), (9, .int .u64 y1), (10, .int .u64 y0), (17, .int .u64 V), (15, .int .u64 Q1), (14, .int .u64 m0), (8, .int .u64 s)] ⟨0, [], [], []⟩ (Sub.norm ⟨rfl, rfl, rfl, rfl, rfl, rfl, rfl, rfl, rfl, trivial⟩ trivial (by simp) rfl rfl rfl rfl) ⟨_, _, hi1, by omega, rfl, rfl, rfl⟩ ?_
      rintro n F H ⟨q, r, hq, hr, hn, rfl, rfl⟩
      have hq1 := hq.q0; have hq2 := hq.hi; have hq3 := hq.hr
      have hp := est_prod hB hq
      have hz : q ≤ 0 → q * y0 ≤ 0 := fun h => by have : q = 0 := by omega
                                                  subst this; simp
      repeat' first
        | (simp (disch := omega) only [toNat_add, Int.toNat_natCast, Int.reduceToNat, Int.reducePow, Nat.min_eq_left, wrap_i64, wrap_u64, wrap_u8, and7_u8, fdiv_pos, tdiv_pos, tmod_pos])
        | (with_reducible refine PW.seq ?_)
        | (with_reducible refine PW.block ?_)
        | (with_reducible refine PW.region ttOk ?_ ?_
           · rfl)
        | (with_reducible refine PW.regionD ttOk mixed ?_ ?_ ?_
           · rfl
           · rfl)
        | (with_reducible refine PW.fork ?_)
        | (with_reducible refine PW.skip ?_)
        | (with_reducible refine PW.exit ?_)
        | (with_reducible refine PW.ret ?_)
        | (with_reducible refine ifW_dec (fun g => ?_) (fun g => ?_) <;> first | (exfalso; omega) | (simp -dsimp only [g, ifW_tt, ifW_ff, ifW_tf, ifW_ft, decide_true, decide_false, Bool.not_true, Bool.not_false]))
        | (with_reducible refine condE_dec (fun g => ?_) (fun g => ?_) <;> try (exfalso; omega))
        | (with_reducible refine condE_not (fun g => ?_) (fun g => ?_) <;> try (exfalso; omega))
        | (simp -dsimp only [↓opsW, ↓opsD, ↓stepD, ↓wantW_eq, ↓opW, ↓qw, ↓ev, ↓toPV, ↓toPV0, ↓thenQ, ↓blockQ, ↓Frame.put, ↓get_cons, get_nil, Nat.reduceBEq, Nat.reduceEqDiff, ↓reduceIte, ↓guardV, ↓dstAt, List.getElem?_cons_succ, List.getElem?_cons_zero, Option.bind_some, ↓isEffect, ↓tt, ↓lenW, ↓binT, ↓asB, ↓boolT, ↓binW, ↓unW, ↓idxW, ↓load_int, ↓rowSz, ↓rowLen, List.getD_cons_zero, List.getD_cons_succ, Nat.reduceLT, ↓loadW, ↓partW, ↓cellsOf, ↓isOther, ↓isStruct, ifW_tt, ifW_ff, ifW_tf, ifW_ft, condE_t, condE_f, true_and, and_true, cond_true, cond_false, decide_true, decide_false, Bool.not_true, Bool.not_false, Fin_ret, Fin_normal, FinH_ret, FinH_normal, ↓resHs, ↓resH, ↓resVs, ↓resV, ↓view, ↓view0, ↓okView, ↓okView0, ↓oneOf, ↓extractW, List.map_cons, List.map_nil, Array.toList, ↓sliceW, ↓elemSize, ↓cutW, ↓cutL, ↓optI, Option.map_some, Option.map_none, ↓litW, inOrder, Bool.true_and, Bool.and_true, decide_eq_true_eq, ↓intsOf, ↓builtinW, ↓appW, ↓notInt, ↓baseI, ↓srcI, ↓putRes, ↓Heap.new, ↓Heap.newT, dropT, ↓elemT, ↓Heap.move, ↓Heap.moveT, hasT, getT, ↓Heap.set, setRow, killRows, killRow, ↓Heap.get, getRow, ↓killF, Frame.kill, ↓Go.PV.kill, ↓kill1, ↓kill0, ↓convW, ↓strOf, List.length_cons, List.length_nil, List.length_append, List.drop_zero, List.take_length, List.cons_append, List.nil_append, ↓indexW, ↓copyW, ↓storeW, ↓nilCheckW, ↓fieldAddrW, ↓setL, List.set_cons_zero, List.set_cons_succ, ↓dataB, ↓dataB0, ↓makeW, known, List.append_assoc, Nat.zero_add, List.map_append, beq_self_eq_true, ↓isBytes, Nat.reduceAdd, Nat.reduceMul, ↓IntKind.bits, Int.reduceToNat, Int.reducePow, List.take_succ_cons, List.take_zero, Int.toNat_natCast, toNat_add, fillW, List.all_cons, List.all_nil, Value.oneCell', ↓okViews0, bytesI_mk, UInt8.reduceToNat, Int.cast_ofNat_Int, ofNat_cast])
        | (simp -dsimp (disch := first | assumption | omega) only [dec_t, dec_f])
        | (refine And.intro ?_ ?_
           · first | omega | decide | (simp (disch := omega) only [toNat_add, Int.toNat_natCast, Int.reduceToNat, Int.reducePow, Nat.min_eq_left, wrap_i64, wrap_u64, wrap_u8, and7_u8, fdiv_pos, tdiv_pos, tmod_pos]; done) | (simp (disch := omega) only [toNat_add, Int.toNat_natCast, Int.reduceToNat, Int.reducePow, Nat.min_eq_left, wrap_i64, wrap_u64, wrap_u8, and7_u8, fdiv_pos, tdiv_pos, tmod_pos]; omega) | (simp; done) | (simp; omega))
        | (simp (disch := omega) only [toNat_add, Int.toNat_natCast, Int.reduceToNat, Int.reducePow, Nat.min_eq_left, wrap_i64, wrap_u64, wrap_u8, and7_u8, fdiv_pos, tdiv_pos, tmod_pos])
        | fail
      · obtain ⟨h1, h2⟩ := est_dec hB hq (.inl (by omega))
        have h3 := est_over hB h1 (by omega) (by omega)
        exact Meet.mk (fB' Y y1 y0 Q1 V m0 s) ⟨0, [], [], []⟩ (Sub.norm ⟨congrArg (PV.int .u64) h3, rfl, rfl, rfl, rfl, rfl, trivial⟩ trivial (by simp) rfl rfl rfl rfl) ⟨rfl, rfl⟩
      · obtain ⟨h1, h2⟩ := est_dec hB hq (.inl (by omega))
        exact Again.mk (q - 1).toNat (fB Y y1 y0 Q1 V m0 s (q - 1) (r + y1)) ⟨0, [], [], []⟩ (by omega) (Sub.norm ⟨rfl, rfl, rfl, rfl, rfl, rfl, rfl, rfl, rfl, trivial⟩ trivial (by simp) rfl rfl rfl rfl) ⟨_, _, h1, by omega, rfl, rfl, rfl⟩
      · obtain ⟨h1, h2⟩ := est_dec hB hq (.inr (by omega))
        have h3 := est_over hB h1 (by omega) (by omega)
        exact Meet.mk (fB' Y y1 y0 Q1 V m0 s) ⟨0, [], [], []⟩ (Sub.norm ⟨congrArg (PV.int .u64) h3, rfl, rfl, rfl, rfl, rfl, trivial⟩ trivial (by simp) rfl rfl rfl rfl) ⟨rfl, rfl⟩
      · obtain ⟨h1, h2⟩ := est_dec hB hq (.inr (by omega))
        exact Again.mk (q - 1).toNat (fB Y y1 y0 Q1 V m0 s (q - 1) (r + y1)) ⟨0, [], [], []⟩ (by omega) (Sub.norm ⟨rfl, rfl, rfl, rfl, rfl, rfl, rfl, rfl, rfl, trivial⟩ trivial (by simp) rfl rfl rfl rfl) ⟨_, _, h1, by omega, rfl, rfl, rfl⟩
      · have h3 := est_stop hB hq (by omega)
        exact Meet.mk (fB' Y y1 y0 Q1 V m0 s) ⟨0, [], [], []⟩ (Sub.norm ⟨congrArg (PV.int .u64) h3, rfl, rfl, rfl, rfl, rfl, trivial⟩ trivial (by simp) rfl rfl rfl rfl) ⟨rfl, rfl⟩
    · rintro F H ⟨rfl, rfl⟩
      have hQt2 := half_top hB
      have hQn2 := half_nonneg hB
      have hQe2 := Int.emod_add_mul_ediv (V * 4294967296 + m0) Y
      have hRn := Int.emod_nonneg (V * 4294967296 + m0) (show Y ≠ 0 by omega)
      have hRl := Int.emod_lt_of_pos (V * 4294967296 + m0) (show 0 < Y by omega)
      rw [show halfQ V y1 y0 m0 = (V * 4294967296 + m0) / Y by rw [halfQ, hYe]] at hQt2 hQn2 ⊢
      obtain ⟨Q0, hQ0⟩ : ∃ v, (V * 4294967296 + m0) / Y = v := ⟨_, rfl⟩
      obtain ⟨R, hR⟩ : ∃ v, (V * 4294967296 + m0) % Y = v := ⟨_, rfl⟩
      simp only [hQ0, hR] at hQt2 hQn2 hQe2 hRn hRl ⊢
      have hYQ2 : Y * Q0 = Q0 * Y := Int.mul_comm _ _
      have hRw : IntKind.wrap .u64 (IntKind.wrap .u64 (IntKind.wrap .u64 (V * 4294967296) + m0) - IntKind.wrap .u64 (Q0 * Y)) = R := by
        simp only [wrap_u64']; omega
      have hfd2 : R.fdiv B = R / B := fdiv_pos (by omega)
      -- what the whole comes to
      have key : (hi * 18446744073709551616 + lo) / y = Q1 * 4294967296 + Q0 ∧ (hi * 18446744073709551616 + lo) % y = R / B := by
        have e1 := Int.emod_add_mul_ediv (hi * 18446744073709551616 + lo) y
        have e2 := Int.emod_nonneg (hi * 18446744073709551616 + lo) (show y ≠ 0 by omega)
        have e3 := Int.emod_lt_of_pos (hi * 18446744073709551616 + lo) (show 0 < y by omega)
        generalize (hi * 18446744073709551616 + lo) / y = qd at *
        generalize (hi * 18446744073709551616 + lo) % y = rd at *
        have e4 : 0 ≤ rd * B := Int.mul_nonneg e2 (by omega)
        have e5 : (rd + 1) * B ≤ y * B := Int.mul_le_mul_of_nonneg_right (by omega) (by omega)
        have e6 : (rd + 1) * B = rd * B + B := by grind
        have u1 := (Int.ediv_emod_unique (a := U * 18446744073709551616 + L) (r := rd * B) (q := qd) (show 0 < Y by omega)).2 ⟨by rw [← hN, ← e1, ← hY]; grind, e4, by omega⟩
        have u2 := (Int.ediv_emod_unique (a := U * 18446744073709551616 + L) (r := R) (q := Q1 * 4294967296 + Q0) (show 0 < Y by omega)).2 ⟨by
          have e7 : Y * (Q1 * 4294967296 + Q0) = Y * Q1 * 4294967296 + Y * Q0 := by grind
          rw [e7]; omega, hRn, hRl⟩
        refine ⟨u1.1.symm.trans u2.1, ?_⟩
        have e8 : rd * B = R := u1.2.symm.trans u2.2
        rw [← e8, Int.mul_ediv_cancel _ (by omega)]
      repeat' first
        | (simp only [hRw, hs1, hs2, hB', hfd2])
        | (with_reducible refine PW.seq ?_)
        | (with_reducible refine PW.block ?_)
        | (with_reducible refine PW.region ttOk ?_ ?_
           · rfl)
        | (with_reducible refine PW.regionD ttOk mixed ?_ ?_ ?_
           · rfl
           · rfl)
        | (with_reducible refine PW.fork ?_)
        | (with_reducible refine PW.skip ?_)
        | (with_reducible refine PW.exit ?_)
        | (with_reducible refine PW.ret ?_)
        | (with_reducible refine ifW_dec (fun g => ?_) (fun g => ?_) <;> first | (exfalso; omega) | (simp -dsimp only [g, ifW_tt, ifW_ff, ifW_tf, ifW_ft, decide_true, decide_false, Bool.not_true, Bool.not_false]))
        | (with_reducible refine condE_dec (fun g => ?_) (fun g => ?_) <;> try (exfalso; omega))
        | (with_reducible refine condE_not (fun g => ?_) (fun g => ?_) <;> try (exfalso; omega))
        | (simp -dsimp only [↓opsW, ↓opsD, ↓stepD, ↓wantW_eq, ↓opW, ↓qw, ↓ev, ↓toPV, ↓toPV0, ↓thenQ, ↓blockQ, ↓Frame.put, ↓get_cons, get_nil, Nat.reduceBEq, Nat.reduceEqDiff, ↓reduceIte, ↓guardV, ↓dstAt, List.getElem?_cons_succ, List.getElem?_cons_zero, Option.bind_some, ↓isEffect, ↓tt, ↓lenW, ↓binT, ↓asB, ↓boolT, ↓binW, ↓unW, ↓idxW, ↓load_int, ↓rowSz, ↓rowLen, List.getD_cons_zero, List.getD_cons_succ, Nat.reduceLT, ↓loadW, ↓partW, ↓cellsOf, ↓isOther, ↓isStruct, ifW_tt, ifW_ff, ifW_tf, ifW_ft, condE_t, condE_f, true_and, and_true, cond_true, cond_false, decide_true, decide_false, Bool.not_true, Bool.not_false, Fin_ret, Fin_normal, FinH_ret, FinH_normal, ↓resHs, ↓resH, ↓resVs, ↓resV, ↓view, ↓view0, ↓okView, ↓okView0, ↓oneOf, ↓extractW, List.map_cons, List.map_nil, Array.toList, ↓sliceW, ↓elemSize, ↓cutW, ↓cutL, ↓optI, Option.map_some, Option.map_none, ↓litW, inOrder, Bool.true_and, Bool.and_true, decide_eq_true_eq, ↓intsOf, ↓builtinW, ↓appW, ↓notInt, ↓baseI, ↓srcI, ↓putRes, ↓Heap.new, ↓Heap.newT, dropT, ↓elemT, ↓Heap.move, ↓Heap.moveT, hasT, getT, ↓Heap.set, setRow, killRows, killRow, ↓Heap.get, getRow, ↓killF, Frame.kill, ↓Go.PV.kill, ↓kill1, ↓kill0, ↓convW, ↓strOf, List.length_cons, List.length_nil, List.length_append, List.drop_zero, List.take_length, List.cons_append, List.nil_append, ↓indexW, ↓copyW, ↓storeW, ↓nilCheckW, ↓fieldAddrW, ↓setL, List.set_cons_zero, List.set_cons_succ, ↓dataB, ↓dataB0, ↓makeW, known, List.append_assoc, Nat.zero_add, List.map_append, beq_self_eq_true, ↓isBytes, Nat.reduceAdd, Nat.reduceMul, ↓IntKind.bits, Int.reduceToNat, Int.reducePow, List.take_succ_cons, List.take_zero, Int.toNat_natCast, toNat_add, fillW, List.all_cons, List.all_nil, Value.oneCell', ↓okViews0, bytesI_mk, UInt8.reduceToNat, Int.cast_ofNat_Int, ofNat_cast])
        | (simp -dsimp (disch := first | assumption | omega) only [dec_t, dec_f])
        | (refine And.intro ?_ ?_
           · first | omega | decide | (simp (disch := omega) only [toNat_add, Int.toNat_natCast, Int.reduceToNat, Int.reducePow, Nat.min_eq_left, wrap_i64, wrap_u64, wrap_u8, and7_u8, fdiv_pos, tdiv_pos, tmod_pos]; done) | (simp (disch := omega) only [toNat_add, Int.toNat_natCast, Int.reduceToNat, Int.reducePow, Nat.min_eq_left, wrap_i64, wrap_u64, wrap_u8, and7_u8, fdiv_pos, tdiv_pos, tmod_pos]; omega) | (simp; done) | (simp; omega))
        | (simp (disch := omega) only [toNat_add, Int.toNat_natCast, Int.reduceToNat, Int.reducePow, Nat.min_eq_left, wrap_i64, wrap_u64, wrap_u8, and7_u8, fdiv_pos, tdiv_pos, tmod_pos])
        | fail
      rw [key.1, key.2]
end Go.Proofs.YtmoigffjpijpaabDoor


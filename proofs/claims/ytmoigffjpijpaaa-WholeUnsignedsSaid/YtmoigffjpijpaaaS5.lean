import Derived.Test.YtmoigffjpijpaaaS2
set_option linter.unusedVariables false
set_option linter.unusedSimpArgs false
namespace Go.Proofs.Ytmoigffjpijpaaa
open Go Go.PV

/-- Pad's text and error. -/
def padT (f w p : Int) (head body : List Int) (z : Bool) : List Int :=
  if rawE f w p ≠ 0 then [] else if 16777216 < head.length + body.length then [] else padS f (w.toNat - (head.length + body.length)) head body z
def padE (f w p : Int) (head body : List Int) : Int :=
  if rawE f w p ≠ 0 then rawE f w p else if 16777216 < head.length + body.length then 3 else 0
theorem padR_eq (f w p : Int) (head body : List Int) (z : Bool) : padR f w p head body z = .tup [.str (padT f w p head body z), .int .i64 (padE f w p head body)] := by
  unfold padR padT padE
  split
  · rfl
  · split <;> rfl

theorem Meets.nilArg {P : Program} {f : FuncId} {k : IntKind} {args : List PV} {res : PV} (hm : Meets P f (.ints k [] :: args) res) : Meets P f (.nil :: args) res := ⟨fun w A vs hA hl ha => by
  refine hm.run w A vs hA hl fun i hi => ?_
  cases i with
  | zero =>
    have h := ha 0 hi
    simp only [List.getD_cons_zero] at h ⊢
    generalize vs.getD 0 undef = v at *
    cases h
    exact .intsNil k
  | succ i => exact ha (i + 1) hi⟩

def unsDig (v : Int) (x : Nat) : List Int := written (if v = 111 then 8 else if v = 120 ∨ v = 88 then 16 else 10) (decide (v = 88)) x
def unsHead (v f : Int) (x : Nat) : List Int := if f / 8 % 2 = 1 ∧ (v = 120 ∨ v = 88) ∧ x ≠ 0 then [48, v] else []
def unsBody (v f : Int) (B : List Int) : List Int := if f / 8 % 2 = 1 ∧ v = 111 ∧ ¬ (0 < B.length ∧ B.getD 0 0 = 48) then 48 :: B else B
def unsT (v f w p : Int) (x : Nat) : List Int :=
  if checkE [111, 117, 120, 88] v f w p ≠ 0 then [] else padT f w p (unsHead v f x) (unsBody v f (fill p (unsDig v x))) (decide (p = -1))
def unsE (v f w p : Int) (x : Nat) : Int :=
  if checkE [111, 117, 120, 88] v f w p ≠ 0 then checkE [111, 117, 120, 88] v f w p else padE f w p (unsHead v f x) (unsBody v f (fill p (unsDig v x)))

theorem fill_byte {p : Int} {D : List Int} (h : Bytes' D) : Bytes' (fill p D) := by
  unfold fill
  intro x hx
  split at hx
  · have := List.eq_of_mem_replicate hx; subst this; decide
  · rcases List.mem_append.1 hx with h1 | h1
    · have := List.eq_of_mem_replicate h1; subst this; decide
    · exact h x h1

theorem one_limb (x : Nat) (hx : (x : Int) < B64) : Limbs [(x : Int)] ∧ size [(x : Int)] ≤ 4096 ∧ (val [(x : Int)]).toNat = x := by
  refine ⟨fun y hy => ?_, ?_, by rw [val_one]; rfl⟩
  · rw [List.mem_singleton] at hy; subst hy; exact ⟨by omega, hx⟩
  · have := size_le [(x : Int)]
    simp only [List.length_singleton] at this; omega

theorem ref_in_base_one (x : Nat) (hx : (x : Int) < B64) (b : Nat) (hb : 2 ≤ b ∧ b ≤ 36) (u : Bool) : Meets Try.prog 106 [.ints .u64 [(x : Int)], .int .i64 (b : Int), .bool u] (.tup [.str (written b u x), .int .i64 0]) := by
  obtain ⟨h1, h2, h3⟩ := one_limb x hx
  have h := ref_in_base_main [(x : Int)] h1 (by simp) b hb u h2
  rw [h3] at h; exact h
theorem in_base_one (x : Nat) (hx : (x : Int) < B64) (b : Nat) (hb : 2 ≤ b ∧ b ≤ 36) (u : Bool) : Meets Try.prog 30 [.ints .u64 [(x : Int)], .int .i64 (b : Int), .bool u] (.tup [.str (written b u x), .int .i64 0]) := by
  obtain ⟨h1, h2, h3⟩ := one_limb x hx
  have h := in_base_ok h1 (by simp) hb u h2
  rw [h3] at h; exact h
theorem written_one (x : Nat) (hx : (x : Int) < B64) {b : Nat} (hb : 2 ≤ b ∧ b ≤ 36) (u : Bool) : (written b u x).length ≤ 262144 := by
  obtain ⟨h1, h2, h3⟩ := one_limb x hx
  have h := written_len h1 h2 hb.1 u
  rw [h3] at h; exact h

set_option maxRecDepth 20000 in
set_option maxHeartbeats 4000000 in
theorem ref_unsigned (v f w p : Int) (x : Nat) (hv : 0 ≤ v ∧ v < 256) (hx : (x : Int) < B64) : Meets Try.prog 77 [specV v f w p, .int .u64 (x : Int)] (.tup [.str (unsT v f w p x), .int .i64 (unsE v f w p x)]) := by
  have hc := ref_bad [111, 117, 120, 88] v f w p (by simp)
  refine meets_by ttOk Try.func77 Try.ntmps77 Try.results77 (by kernel_rfl) (c := _) rfl rfl rfl fun E => ?_
  simp only [argsFrame]
  unfold unsT unsE
  by_cases he : checkE [111, 117, 120, 88] v f w p ≠ 0
  · rw [if_pos he, if_pos he]
    generalize checkE [111, 117, 120, 88] v f w p = e at *
    repeat' first
      | (with_reducible refine PW.seq ?_)
      | (with_reducible refine PW.block ?_)
      | (with_reducible refine PW.region ttOk ?_ ?_
         · rfl)
      | (with_reducible refine PW.regionD ttOk mixed ?_ ?_ ?_
         · rfl
         · rfl)
      | (with_reducible refine PW.fork ?_)
      | (with_reducible refine PW.skip ?_)
      | (with_reducible refine PW.exit ?_)
      | (with_reducible refine PW.ret ?_)
      | (with_reducible refine ifW_dec (fun g => ?_) (fun g => ?_) <;> first | (exfalso; omega) | (simp -dsimp only [g, ifW_tt, ifW_ff, ifW_tf, ifW_ft, decide_true, decide_false, Bool.not_true, Bool.not_false]))
      | (with_reducible refine condE_dec (fun g => ?_) (fun g => ?_) <;> try (exfalso; omega))
      | (with_reducible refine condE_not (fun g => ?_) (fun g => ?_) <;> try (exfalso; omega))
      | (simp -dsimp only [↓opsW, ↓opsD, ↓stepD, ↓wantW_eq, ↓opW, ↓qw, ↓ev, ↓toPV, ↓toPV0, ↓thenQ, ↓blockQ, ↓Frame.put, ↓get_cons, get_nil, Nat.reduceBEq, Nat.reduceEqDiff, ↓reduceIte, ↓guardV, ↓dstAt, List.getElem?_cons_succ, List.getElem?_cons_zero, Option.bind_some, ↓isEffect, ↓tt, ↓lenW, ↓binW, ↓unW, ↓idxW, ↓load_int, ↓rowSz, ↓rowLen, List.getD_cons_zero, List.getD_cons_succ, Nat.reduceLT, ↓loadW, ↓partW, ↓cellsOf, ↓isOther, ↓isStruct, ifW_tt, ifW_ff, ifW_tf, ifW_ft, condE_t, condE_f, true_and, and_true, cond_true, cond_false, decide_true, decide_false, Bool.not_true, Bool.not_false, Fin_ret, Fin_normal, FinH_ret, FinH_normal, ↓resHs, ↓resH, ↓resVs, ↓resV, ↓view, ↓view0, ↓okView, ↓okView0, ↓oneOf, ↓extractW, List.map_cons, List.map_nil, Array.toList, ↓sliceW, ↓elemSize, ↓cutW, ↓cutL, ↓optI, Option.map_some, Option.map_none, ↓litW, inOrder, Bool.true_and, Bool.and_true, decide_eq_true_eq, ↓intsOf, ↓builtinW, ↓appW, ↓notInt, ↓baseI, ↓srcI, ↓putRes, ↓Heap.new, ↓Heap.newT, dropT, ↓elemT, ↓Heap.move, ↓Heap.moveT, hasT, getT, ↓Heap.set, setRow, killRows, killRow, ↓Heap.get, getRow, ↓killF, Frame.kill, ↓Go.PV.kill, ↓kill1, ↓kill0, ↓convW, ↓strOf, List.length_cons, List.length_nil, List.length_append, List.drop_zero, List.take_length, List.cons_append, List.nil_append, ↓indexW, ↓copyW, ↓storeW, ↓nilCheckW, ↓fieldAddrW, ↓setL, List.set_cons_zero, List.set_cons_succ, ↓dataB, ↓dataB0, ↓makeW, known, List.append_assoc, Nat.zero_add, List.map_append, beq_self_eq_true, ↓isBytes, Nat.reduceAdd, Nat.reduceMul, ↓IntKind.bits, Int.reduceToNat, Int.reducePow, List.take_succ_cons, List.take_zero, Int.toNat_natCast, toNat_add, fillW, List.all_cons, List.all_nil, Value.oneCell', ↓okViews0, bytesI_mk, UInt8.reduceToNat, Int.cast_ofNat_Int, ofNat_cast])
      | (refine call_by hc (views_data rfl) ⟨⟨trivial, trivial, trivial, trivial, trivial⟩, trivial, trivial⟩ rfl ?_)
      | (simp -dsimp (disch := first | assumption | omega) only [dec_t, dec_f])
      | (refine And.intro ?_ ?_
         · first | omega | decide | (simp (disch := omega) only [toNat_add, Int.toNat_natCast, Int.reduceToNat, Int.reducePow, Nat.min_eq_left, wrap_i64, wrap_u64, wrap_u8, and7_u8, fdiv_pos, tdiv_pos, tmod_pos]; done) | (simp (disch := omega) only [toNat_add, Int.toNat_natCast, Int.reduceToNat, Int.reducePow, Nat.min_eq_left, wrap_i64, wrap_u64, wrap_u8, and7_u8, fdiv_pos, tdiv_pos, tmod_pos]; omega) | (simp; done) | (simp; omega))
      | (simp (disch := omega) only [toNat_add, Int.toNat_natCast, Int.reduceToNat, Int.reducePow, Nat.min_eq_left, wrap_i64, wrap_u64, wrap_u8, and7_u8, fdiv_pos, tdiv_pos, tmod_pos])
      | fail
  rw [if_neg he, if_neg he]
  have he0 : checkE [111, 117, 120, 88] v f w p = 0 := by omega
  rw [he0] at hc
  obtain ⟨hm, hr⟩ := checkE_ok he0
  obtain ⟨f0, f1, w0, w1, p0, p1⟩ := rawE_ok hr
  have hhas := ref_has f 8 ⟨f0, f1⟩ (by omega)
  have hpad := fun h b hh => ref_pad v f w p h b (decide (p = -1)) hh
  simp only [padR_eq] at hpad
  have hu : (x : Int) < 18446744073709551616 := hx
  have hz0 : (x : Int) = 0 ↔ x = 0 := by omega
  have hby : PV.byteOf 120 = 120 ∧ PV.byteOf 88 = 88 := by decide
  obtain ⟨D, hD⟩ : ∃ D, unsDig v x = D := ⟨_, rfl⟩
  rw [hD]
  obtain ⟨b, hb, hb2⟩ : ∃ b : Nat, b = (if v = 111 then 8 else if v = 120 ∨ v = 88 then 16 else 10) ∧ (2 ≤ b ∧ b ≤ 36) := ⟨_, rfl, by (repeat' split) <;> decide⟩
  have hD' : written b (decide (v = 88)) x = D := by rw [hb]; exact hD
  have hib := ref_in_base_one x hx b hb2 (decide (v = 88))
  have hDl := written_one x hx hb2 (decide (v = 88))
  rw [hD'] at hib hDl
  have hfl := ref14_filled p ⟨p0, p1⟩ D (by omega)
  have hfn := fill_len p D
  generalize fill p D = B at *
  have hBl : B.length ≤ 1000000 := by omega
  have hp00 := hpad [] B ⟨by simp, by omega⟩
  have hp10 := hpad [48, v] B ⟨by simp, by omega⟩
  have hp01 := hpad [] (48 :: B) ⟨by simp, by rw [List.length_cons]; omega⟩
  clear hpad
  clear hD hD' he he0 hr hfn
  simp only [List.mem_cons, List.not_mem_nil, or_false] at hm
  obtain ⟨rfl, hib2⟩ | ⟨rfl, hib2⟩ | ⟨rfl, hib2⟩ | ⟨rfl, hib2⟩ : (v = 111 ∧ Meets Try.prog 106 [.ints .u64 [(x : Int)], .int .i64 8, .bool false] (.tup [.str D, .int .i64 0])) ∨ (v = 117 ∧ Meets Try.prog 106 [.ints .u64 [(x : Int)], .int .i64 10, .bool false] (.tup [.str D, .int .i64 0])) ∨ (v = 120 ∧ Meets Try.prog 106 [.ints .u64 [(x : Int)], .int .i64 16, .bool false] (.tup [.str D, .int .i64 0])) ∨ (v = 88 ∧ Meets Try.prog 106 [.ints .u64 [(x : Int)], .int .i64 16, .bool true] (.tup [.str D, .int .i64 0])) := by
    rcases hm with rfl | rfl | rfl | rfl
    · obtain rfl : b = 8 := hb
      exact .inl ⟨rfl, hib⟩
    · obtain rfl : b = 10 := hb
      exact .inr (.inl ⟨rfl, hib⟩)
    · obtain rfl : b = 16 := hb
      exact .inr (.inr (.inl ⟨rfl, hib⟩))
    · obtain rfl : b = 16 := hb
      exact .inr (.inr (.inr ⟨rfl, hib⟩))
  all_goals clear hb hm hib
  all_goals rcases B with _ | ⟨b0, B'⟩
  all_goals simp only [List.length_cons, List.length_nil] at hBl
  all_goals
    repeat' first
      | (simp only [reduceCtorEq, decide_false, hby.1, hby.2])
      | (with_reducible refine PW.seq ?_)
      | (with_reducible refine PW.block ?_)
      | (with_reducible refine PW.region ttOk ?_ ?_
         · rfl)
      | (with_reducible refine PW.regionD ttOk mixed ?_ ?_ ?_
         · rfl
         · rfl)
      | (with_reducible refine PW.fork ?_)
      | (with_reducible refine PW.skip ?_)
      | (with_reducible refine PW.exit ?_)
      | (with_reducible refine PW.ret ?_)
      | (with_reducible refine ifW_dec (fun g => ?_) (fun g => ?_) <;> first | (exfalso; omega) | (simp -dsimp only [g, ifW_tt, ifW_ff, ifW_tf, ifW_ft, decide_true, decide_false, Bool.not_true, Bool.not_false]))
      | (with_reducible refine condE_dec (fun g => ?_) (fun g => ?_) <;> try (exfalso; omega))
      | (with_reducible refine condE_not (fun g => ?_) (fun g => ?_) <;> try (exfalso; omega))
      | (simp -dsimp only [↓opsW, ↓opsD, ↓stepD, ↓wantW_eq, ↓opW, ↓qw, ↓ev, ↓toPV, ↓toPV0, ↓thenQ, ↓blockQ, ↓Frame.put, ↓get_cons, get_nil, Nat.reduceBEq, Nat.reduceEqDiff, ↓reduceIte, ↓guardV, ↓dstAt, List.getElem?_cons_succ, List.getElem?_cons_zero, Option.bind_some, ↓isEffect, ↓tt, ↓lenW, ↓binW, ↓unW, ↓idxW, ↓load_int, ↓rowSz, ↓rowLen, List.getD_cons_zero, List.getD_cons_succ, Nat.reduceLT, ↓loadW, ↓partW, ↓cellsOf, ↓isOther, ↓isStruct, ifW_tt, ifW_ff, ifW_tf, ifW_ft, condE_t, condE_f, true_and, and_true, cond_true, cond_false, decide_true, decide_false, Bool.not_true, Bool.not_false, Fin_ret, Fin_normal, FinH_ret, FinH_normal, ↓resHs, ↓resH, ↓resVs, ↓resV, ↓view, ↓view0, ↓okView, ↓okView0, ↓oneOf, ↓extractW, List.map_cons, List.map_nil, Array.toList, ↓sliceW, ↓elemSize, ↓cutW, ↓cutL, ↓optI, Option.map_some, Option.map_none, ↓litW, inOrder, Bool.true_and, Bool.and_true, decide_eq_true_eq, ↓intsOf, ↓builtinW, ↓appW, ↓notInt, ↓baseI, ↓srcI, ↓putRes, ↓Heap.new, ↓Heap.newT, dropT, ↓elemT, ↓Heap.move, ↓Heap.moveT, hasT, getT, ↓Heap.set, setRow, killRows, killRow, ↓Heap.get, getRow, ↓killF, Frame.kill, ↓Go.PV.kill, ↓kill1, ↓kill0, ↓convW, ↓strOf, List.length_cons, List.length_nil, List.length_append, List.drop_zero, List.take_length, List.cons_append, List.nil_append, ↓indexW, ↓copyW, ↓storeW, ↓nilCheckW, ↓fieldAddrW, ↓setL, List.set_cons_zero, List.set_cons_succ, ↓dataB, ↓dataB0, ↓makeW, known, List.append_assoc, Nat.zero_add, List.map_append, beq_self_eq_true, ↓isBytes, Nat.reduceAdd, Nat.reduceMul, ↓IntKind.bits, Int.reduceToNat, Int.reducePow, List.take_succ_cons, List.take_zero, Int.toNat_natCast, toNat_add, fillW, List.all_cons, List.all_nil, Value.oneCell', ↓okViews0, bytesI_mk, UInt8.reduceToNat, Int.cast_ofNat_Int, ofNat_cast])
      | (refine call_by hc (views_data rfl) ⟨⟨trivial, trivial, trivial, trivial, trivial⟩, trivial, trivial⟩ rfl ?_)
      | (refine call_by' (args' := [.ints .u64 [(x : Int)], .int .i64 _, .bool _]) rfl hib2 (by simp -dsimp only [okViews, ↓opsW, ↓opsD, ↓stepD, ↓wantW_eq, ↓opW, ↓qw, ↓ev, ↓toPV, ↓toPV0, ↓thenQ, ↓blockQ, ↓Frame.put, ↓get_cons, get_nil, Nat.reduceBEq, Nat.reduceEqDiff, ↓reduceIte, ↓guardV, ↓dstAt, List.getElem?_cons_succ, List.getElem?_cons_zero, Option.bind_some, ↓isEffect, ↓tt, ↓lenW, ↓binW, ↓unW, ↓idxW, ↓load_int, ↓rowSz, ↓rowLen, List.getD_cons_zero, List.getD_cons_succ, Nat.reduceLT, ↓loadW, ↓partW, ↓cellsOf, ↓isOther, ↓isStruct, ifW_tt, ifW_ff, ifW_tf, ifW_ft, condE_t, condE_f, true_and, and_true, cond_true, cond_false, decide_true, decide_false, Bool.not_true, Bool.not_false, Fin_ret, Fin_normal, FinH_ret, FinH_normal, ↓resHs, ↓resH, ↓resVs, ↓resV, ↓view, ↓view0, ↓okView, ↓okView0, ↓oneOf, ↓extractW, List.map_cons, List.map_nil, Array.toList, ↓sliceW, ↓elemSize, ↓cutW, ↓cutL, ↓optI, Option.map_some, Option.map_none, ↓litW, inOrder, Bool.true_and, Bool.and_true, decide_eq_true_eq, ↓intsOf, ↓builtinW, ↓appW, ↓notInt, ↓baseI, ↓srcI, ↓putRes, ↓Heap.new, ↓Heap.newT, dropT, ↓elemT, ↓Heap.move, ↓Heap.moveT, hasT, getT, ↓Heap.set, setRow, killRows, killRow, ↓Heap.get, getRow, ↓killF, Frame.kill, ↓Go.PV.kill, ↓kill1, ↓kill0, ↓convW, ↓strOf, List.length_cons, List.length_nil, List.length_append, List.drop_zero, List.take_length, List.cons_append, List.nil_append, ↓indexW, ↓copyW, ↓storeW, ↓nilCheckW, ↓fieldAddrW, ↓setL, List.set_cons_zero, List.set_cons_succ, ↓dataB, ↓dataB0, ↓makeW, known, List.append_assoc, Nat.zero_add, List.map_append, beq_self_eq_true, ↓isBytes, Nat.reduceAdd, Nat.reduceMul, ↓IntKind.bits, Int.reduceToNat, Int.reducePow, List.take_succ_cons, List.take_zero, Int.toNat_natCast, toNat_add, fillW, List.all_cons, List.all_nil, Value.oneCell', ↓okViews0, bytesI_mk, UInt8.reduceToNat, Int.cast_ofNat_Int, ofNat_cast]; decide) rfl ?_)
      | (refine call_by hfl (views_data rfl) ⟨trivial, trivial, trivial⟩ rfl ?_)
      | (refine call_by hhas (views_data rfl) ⟨trivial, trivial, trivial⟩ rfl ?_)
      | (refine call_by hp00 (views_data rfl) ⟨⟨trivial, trivial, trivial, trivial, trivial⟩, trivial, trivial, trivial, trivial⟩ rfl ?_)
      | (refine call_by hp10 (views_data rfl) ⟨⟨trivial, trivial, trivial, trivial, trivial⟩, trivial, trivial, trivial, trivial⟩ rfl ?_)
      | (refine call_by hp01 (views_data rfl) ⟨⟨trivial, trivial, trivial, trivial, trivial⟩, trivial, trivial, trivial, trivial⟩ rfl ?_)
      | (simp -dsimp (disch := first | assumption | omega) only [dec_t, dec_f])
      | (refine And.intro ?_ ?_
         · first | omega | decide | (simp (disch := omega) only [toNat_add, Int.toNat_natCast, Int.reduceToNat, Int.reducePow, Nat.min_eq_left, wrap_i64, wrap_u64, wrap_u8, and7_u8, fdiv_pos, tdiv_pos, tmod_pos]; done) | (simp (disch := omega) only [toNat_add, Int.toNat_natCast, Int.reduceToNat, Int.reducePow, Nat.min_eq_left, wrap_i64, wrap_u64, wrap_u8, and7_u8, fdiv_pos, tdiv_pos, tmod_pos]; omega) | (simp; done) | (simp; omega))
      | (simp (disch := omega) only [toNat_add, Int.toNat_natCast, Int.reduceToNat, Int.reducePow, Nat.min_eq_left, wrap_i64, wrap_u64, wrap_u8, and7_u8, fdiv_pos, tdiv_pos, tmod_pos])
      | fail
  all_goals clear hp00 hp10 hp01 hfl hc hib2 hhas
  all_goals (simp only [unsHead, unsBody, List.getD_cons_zero, List.length_cons, List.length_nil] <;> (repeat' split) <;> first | rfl | (exfalso; omega) | (exfalso; simp_all; done) | (exfalso; simp_all; omega))
end Go.Proofs.Ytmoigffjpijpaaa


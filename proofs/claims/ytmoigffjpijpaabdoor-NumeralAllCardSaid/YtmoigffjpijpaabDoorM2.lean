import Derived.Test.YtmoigffjpijpaabDoorM1
set_option linter.unusedVariables false
set_option linter.unusedSimpArgs false
namespace Go.Proofs.YtmoigffjpijpaabDoor
open Go Go.PV

theorem grow_step {P hi m c : Nat} (hP : 2 ≤ P) (h : hi ≠ 0) (hm : 1 ≤ m) : digs P (hi * m + c) = ((hi % P * m + c) % P) :: digs P (hi / P * m + (hi % P * m + c) / P) := by
  have e : hi * m + c = (hi % P * m + c) + P * (hi / P * m) := by
    have := Nat.mod_add_div hi P
    calc hi * m + c = (hi % P + P * (hi / P)) * m + c := by rw [this]
      _ = _ := by grind
  have h0 : hi * m ≠ 0 := Nat.mul_ne_zero h (by omega)
  rw [digs_step hP (by omega), e, Nat.add_mul_mod_self_left, Nat.add_mul_div_left _ _ (by omega), Nat.add_comm (_ / P)]

/-- done is done; hi's halves are still to be multiplied. -/
def GrI' (P M : Nat) (R : List Int) (m : Nat) (F : PV.Frame) (H : PV.Heap) : Prop :=
  ∃ (done : List Int) (hi c : Nat), done ++ toI (digs P (hi * M + c)) = R ∧ c < 2147483648 ∧ (digs P hi).length = m ∧
    F = [(7, .int .i64 (done.length : Int)), (0, .sl 0 0 (done ++ toI (digs P hi)).length true), (1, .int .u64 (M : Int)), (2, .int .u64 (c : Int))] ∧ H = ⟨1, [(0, .ints .u64 (done ++ toI (digs P hi)))], [], []⟩

theorem ref_grown (P u M c : Nat) (hP : P = 4294967296) (hM : 1 ≤ M ∧ M < 2147483648) (hc : c < 2147483648) (R : List Int) (hR : toI (digs P (u * M + c)) = R) (hRl : R.length ≤ 1000000) :
    HMeets Tryd.prog 37 [.sl 0 0 (toI (digs P u)).length true, .int .u64 (M : Int), .int .u64 (c : Int)] ⟨1, [(0, .ints .u64 (toI (digs P u)))], [], []⟩ fun res H' => ∃ l', l' = R ∧ res = .sl 0 0 l'.length true ∧ H'.get 0 = some (.ints .u64 l') := by
  refine hmeets_by ttOk Tryd.func37 Tryd.ntmps37 Tryd.results37 (by kernel_rfl) (c := _) rfl rfl fun E => ?_
  simp only [argsFrame]
  repeat' first
    | (with_reducible refine PW.seq ?_)
    | (with_reducible refine PW.block ?_)
    | (with_reducible refine PW.region ttOk ?_ ?_
       · rfl)
    | (with_reducible refine PW.regionD ttOk mixed ?_ ?_ ?_
       · rfl
       · rfl)
    | (with_reducible refine PW.fork ?_)
    | (with_reducible refine PW.skip ?_)
    | (with_reducible refine PW.exit ?_)
    | (with_reducible refine PW.ret ?_)
    | (with_reducible refine ifW_dec (fun g => ?_) (fun g => ?_) <;> first | (exfalso; omega) | (simp -dsimp only [g, ifW_tt, ifW_ff, ifW_tf, ifW_ft, decide_true, decide_false, Bool.not_true, Bool.not_false]))
    | (with_reducible refine condE_dec (fun g => ?_) (fun g => ?_) <;> try (exfalso; omega))
    | (with_reducible refine condE_not (fun g => ?_) (fun g => ?_) <;> try (exfalso; omega))
    | (simp -dsimp only [↓opsW, ↓opsD, ↓stepD, ↓wantW_eq, ↓opW, ↓qw, ↓ev, ↓toPV, ↓toPV0, ↓thenQ, ↓blockQ, ↓Frame.put, ↓get_cons, get_nil, Nat.reduceBEq, Nat.reduceEqDiff, ↓reduceIte, ↓guardV, ↓dstAt, List.getElem?_cons_succ, List.getElem?_cons_zero, Option.bind_some, ↓isEffect, ↓tt, ↓lenW, ↓binT, ↓asB, ↓boolT, ↓binW, ↓unW, ↓idxW, ↓load_int, ↓rowSz, ↓rowLen, List.getD_cons_zero, List.getD_cons_succ, Nat.reduceLT, ↓loadW, ↓partW, ↓cellsOf, ↓isOther, ↓isStruct, ifW_tt, ifW_ff, ifW_tf, ifW_ft, condE_t, condE_f, true_and, and_true, cond_true, cond_false, decide_true, decide_false, Bool.not_true, Bool.not_false, Fin_ret, Fin_normal, FinH_ret, FinH_normal, ↓resHs, ↓resH, ↓resVs, ↓resV, ↓view, ↓view0, ↓okView, ↓okView0, ↓oneOf, ↓extractW, List.map_cons, List.map_nil, Array.toList, ↓sliceW, ↓elemSize, ↓cutW, ↓cutL, ↓optI, Option.map_some, Option.map_none, ↓litW, inOrder, Bool.true_and, Bool.and_true, decide_eq_true_eq, ↓intsOf, ↓builtinW, ↓appW, ↓notInt, ↓baseI, ↓srcI, ↓putRes, ↓Heap.new, ↓Heap.newT, dropT, ↓elemT, ↓Heap.move, ↓Heap.moveT, hasT, getT, ↓Heap.set, setRow, killRows, killRow, ↓Heap.get, getRow, ↓killF, Frame.kill, ↓Go.PV.kill, ↓kill1, ↓kill0, ↓convW, ↓strOf, List.length_cons, List.length_nil, List.length_append, List.drop_zero, List.take_length, List.cons_append, List.nil_append, ↓indexW, ↓copyW, ↓storeW, ↓nilCheckW, ↓fieldAddrW, ↓setL, List.set_cons_zero, List.set_cons_succ, ↓dataB, ↓dataB0, ↓makeW, known, List.append_assoc, Nat.zero_add, List.map_append, beq_self_eq_true, ↓isBytes, Nat.reduceAdd, Nat.reduceMul, ↓IntKind.bits, Int.reduceToNat, Int.reducePow, List.take_succ_cons, List.take_zero, Int.toNat_natCast, toNat_add, fillW, List.all_cons, List.all_nil, Value.oneCell', ↓okViews0, bytesI_mk, UInt8.reduceToNat, Int.cast_ofNat_Int, ofNat_cast])
    | (simp -dsimp (disch := first | assumption | omega) only [dec_t, dec_f])
    | (refine And.intro ?_ ?_
       · first | omega | decide | (simp (disch := omega) only [toNat_add, Int.toNat_natCast, Int.reduceToNat, Int.reducePow, Nat.min_eq_left, wrap_i64, wrap_u64, wrap_u8, and7_u8, fdiv_pos, tdiv_pos, tmod_pos]; done) | (simp (disch := omega) only [toNat_add, Int.toNat_natCast, Int.reduceToNat, Int.reducePow, Nat.min_eq_left, wrap_i64, wrap_u64, wrap_u8, and7_u8, fdiv_pos, tdiv_pos, tmod_pos]; omega) | (simp; done) | (simp; omega))
    | (simp (disch := omega) only [toNat_add, Int.toNat_natCast, Int.reduceToNat, Int.reducePow, Nat.min_eq_left, wrap_i64, wrap_u64, wrap_u8, and7_u8, fdiv_pos, tdiv_pos, tmod_pos])
    | fail
  have h0 : GrI' P M R (digs P u).length [(7, .int .i64 (0 : Int)), (0, .sl 0 0 (toI (digs P u)).length true), (1, .int .u64 (M : Int)), (2, .int .u64 (c : Int))] ⟨1, [(0, .ints .u64 (toI (digs P u)))], [], []⟩ :=
    ⟨[], u, c, by rw [List.nil_append]; exact hR, hc, rfl, by rw [List.nil_append]; rfl, by rw [List.nil_append]⟩
  generalize toI (digs P u) = D at *
  refine PW.loopA (GrI' P M R) (digs P u).length [(7, .int .i64 (0 : Int)), (0, .sl 0 0 D.length true), (1, .int .u64 (M : Int)), (2, .int .u64 (c : Int))] ⟨1, [(0, .ints .u64 D)], [], []⟩ (Sub.norm ⟨rfl, rfl, rfl, rfl, trivial⟩ ⟨rfl, trivial⟩ (Nat.le_refl _) rfl rfl rfl rfl) h0 ?_
  clear h0 hR hc
  rintro m F H ⟨done, hi, c, hR, hc, hm, rfl, rfl⟩
  have hdl : done.length ≤ 1000000 := by rw [← hR, List.length_append] at hRl; omega
  have hP2 : 2 ≤ P := by omega
  by_cases h0 : hi = 0
  · subst h0
    by_cases hc0 : c = 0
    · subst hc0
      simp only [digs_zero, toI, List.map_nil, List.append_nil, Nat.zero_mul, Nat.zero_add] at hR ⊢
      repeat' first
        | (with_reducible refine PW.seq ?_)
        | (with_reducible refine PW.block ?_)
        | (with_reducible refine PW.region ttOk ?_ ?_
           · rfl)
        | (with_reducible refine PW.regionD ttOk mixed ?_ ?_ ?_
           · rfl
           · rfl)
        | (with_reducible refine PW.fork ?_)
        | (with_reducible refine PW.skip ?_)
        | (with_reducible refine PW.exit ?_)
        | (with_reducible refine PW.ret ?_)
        | (with_reducible refine ifW_dec (fun g => ?_) (fun g => ?_) <;> first | (exfalso; omega) | (simp -dsimp only [g, ifW_tt, ifW_ff, ifW_tf, ifW_ft, decide_true, decide_false, Bool.not_true, Bool.not_false]))
        | (with_reducible refine condE_dec (fun g => ?_) (fun g => ?_) <;> try (exfalso; omega))
        | (with_reducible refine condE_not (fun g => ?_) (fun g => ?_) <;> try (exfalso; omega))
        | (simp -dsimp only [↓opsW, ↓opsD, ↓stepD, ↓wantW_eq, ↓opW, ↓qw, ↓ev, ↓toPV, ↓toPV0, ↓thenQ, ↓blockQ, ↓Frame.put, ↓get_cons, get_nil, Nat.reduceBEq, Nat.reduceEqDiff, ↓reduceIte, ↓guardV, ↓dstAt, List.getElem?_cons_succ, List.getElem?_cons_zero, Option.bind_some, ↓isEffect, ↓tt, ↓lenW, ↓binT, ↓asB, ↓boolT, ↓binW, ↓unW, ↓idxW, ↓load_int, ↓rowSz, ↓rowLen, List.getD_cons_zero, List.getD_cons_succ, Nat.reduceLT, ↓loadW, ↓partW, ↓cellsOf, ↓isOther, ↓isStruct, ifW_tt, ifW_ff, ifW_tf, ifW_ft, condE_t, condE_f, true_and, and_true, cond_true, cond_false, decide_true, decide_false, Bool.not_true, Bool.not_false, Fin_ret, Fin_normal, FinH_ret, FinH_normal, ↓resHs, ↓resH, ↓resVs, ↓resV, ↓view, ↓view0, ↓okView, ↓okView0, ↓oneOf, ↓extractW, List.map_cons, List.map_nil, Array.toList, ↓sliceW, ↓elemSize, ↓cutW, ↓cutL, ↓optI, Option.map_some, Option.map_none, ↓litW, inOrder, Bool.true_and, Bool.and_true, decide_eq_true_eq, ↓intsOf, ↓builtinW, ↓appW, ↓notInt, ↓baseI, ↓srcI, ↓putRes, ↓Heap.new, ↓Heap.newT, dropT, ↓elemT, ↓Heap.move, ↓Heap.moveT, hasT, getT, ↓Heap.set, setRow, killRows, killRow, ↓Heap.get, getRow, ↓killF, Frame.kill, ↓Go.PV.kill, ↓kill1, ↓kill0, ↓convW, ↓strOf, List.length_cons, List.length_nil, List.length_append, List.drop_zero, List.take_length, List.cons_append, List.nil_append, ↓indexW, ↓copyW, ↓storeW, ↓nilCheckW, ↓fieldAddrW, ↓setL, List.set_cons_zero, List.set_cons_succ, ↓dataB, ↓dataB0, ↓makeW, known, List.append_assoc, Nat.zero_add, List.map_append, beq_self_eq_true, ↓isBytes, Nat.reduceAdd, Nat.reduceMul, ↓IntKind.bits, Int.reduceToNat, Int.reducePow, List.take_succ_cons, List.take_zero, Int.toNat_natCast, toNat_add, fillW, List.all_cons, List.all_nil, Value.oneCell', ↓okViews0, bytesI_mk, UInt8.reduceToNat, Int.cast_ofNat_Int, ofNat_cast])
        | (simp -dsimp (disch := first | assumption | omega) only [dec_t, dec_f])
        | (refine And.intro ?_ ?_
           · first | omega | decide | (simp (disch := omega) only [toNat_add, Int.toNat_natCast, Int.reduceToNat, Int.reducePow, Nat.min_eq_left, wrap_i64, wrap_u64, wrap_u8, and7_u8, fdiv_pos, tdiv_pos, tmod_pos]; done) | (simp (disch := omega) only [toNat_add, Int.toNat_natCast, Int.reduceToNat, Int.reducePow, Nat.min_eq_left, wrap_i64, wrap_u64, wrap_u8, and7_u8, fdiv_pos, tdiv_pos, tmod_pos]; omega) | (simp; done) | (simp; omega))
        | (simp (disch := omega) only [toNat_add, Int.toNat_natCast, Int.reduceToNat, Int.reducePow, Nat.min_eq_left, wrap_i64, wrap_u64, wrap_u8, and7_u8, fdiv_pos, tdiv_pos, tmod_pos])
        | fail
      exact ⟨done, hR, rfl, rfl⟩
    · rw [Nat.zero_mul, Nat.zero_add, digs_step hP2 hc0, Nat.div_eq_of_lt (by omega), Nat.mod_eq_of_lt (by omega)] at hR
      simp only [digs_zero, toI, List.map_nil, List.map_cons, List.append_nil] at hR ⊢
      have hl1 : (done ++ [(c : Int)]).length = done.length + 1 := by simp
      repeat' first
        | (with_reducible refine PW.seq ?_)
        | (with_reducible refine PW.block ?_)
        | (with_reducible refine PW.region ttOk ?_ ?_
           · rfl)
        | (with_reducible refine PW.regionD ttOk mixed ?_ ?_ ?_
           · rfl
           · rfl)
        | (with_reducible refine PW.fork ?_)
        | (with_reducible refine PW.skip ?_)
        | (with_reducible refine PW.exit ?_)
        | (with_reducible refine PW.ret ?_)
        | (with_reducible refine ifW_dec (fun g => ?_) (fun g => ?_) <;> first | (exfalso; omega) | (simp -dsimp only [g, ifW_tt, ifW_ff, ifW_tf, ifW_ft, decide_true, decide_false, Bool.not_true, Bool.not_false]))
        | (with_reducible refine condE_dec (fun g => ?_) (fun g => ?_) <;> try (exfalso; omega))
        | (with_reducible refine condE_not (fun g => ?_) (fun g => ?_) <;> try (exfalso; omega))
        | (simp -dsimp only [↓opsW, ↓opsD, ↓stepD, ↓wantW_eq, ↓opW, ↓qw, ↓ev, ↓toPV, ↓toPV0, ↓thenQ, ↓blockQ, ↓Frame.put, ↓get_cons, get_nil, Nat.reduceBEq, Nat.reduceEqDiff, ↓reduceIte, ↓guardV, ↓dstAt, List.getElem?_cons_succ, List.getElem?_cons_zero, Option.bind_some, ↓isEffect, ↓tt, ↓lenW, ↓binT, ↓asB, ↓boolT, ↓binW, ↓unW, ↓idxW, ↓load_int, ↓rowSz, ↓rowLen, List.getD_cons_zero, List.getD_cons_succ, Nat.reduceLT, ↓loadW, ↓partW, ↓cellsOf, ↓isOther, ↓isStruct, ifW_tt, ifW_ff, ifW_tf, ifW_ft, condE_t, condE_f, true_and, and_true, cond_true, cond_false, decide_true, decide_false, Bool.not_true, Bool.not_false, Fin_ret, Fin_normal, FinH_ret, FinH_normal, ↓resHs, ↓resH, ↓resVs, ↓resV, ↓view, ↓view0, ↓okView, ↓okView0, ↓oneOf, ↓extractW, List.map_cons, List.map_nil, Array.toList, ↓sliceW, ↓elemSize, ↓cutW, ↓cutL, ↓optI, Option.map_some, Option.map_none, ↓litW, inOrder, Bool.true_and, Bool.and_true, decide_eq_true_eq, ↓intsOf, ↓builtinW, ↓appW, ↓notInt, ↓baseI, ↓srcI, ↓putRes, ↓Heap.new, ↓Heap.newT, dropT, ↓elemT, ↓Heap.move, ↓Heap.moveT, hasT, getT, ↓Heap.set, setRow, killRows, killRow, ↓Heap.get, getRow, ↓killF, Frame.kill, ↓Go.PV.kill, ↓kill1, ↓kill0, ↓convW, ↓strOf, List.length_cons, List.length_nil, List.length_append, List.drop_zero, List.take_length, List.cons_append, List.nil_append, ↓indexW, ↓copyW, ↓storeW, ↓nilCheckW, ↓fieldAddrW, ↓setL, List.set_cons_zero, List.set_cons_succ, ↓dataB, ↓dataB0, ↓makeW, known, List.append_assoc, Nat.zero_add, List.map_append, beq_self_eq_true, ↓isBytes, Nat.reduceAdd, Nat.reduceMul, ↓IntKind.bits, Int.reduceToNat, Int.reducePow, List.take_succ_cons, List.take_zero, Int.toNat_natCast, toNat_add, fillW, List.all_cons, List.all_nil, Value.oneCell', ↓okViews0, bytesI_mk, UInt8.reduceToNat, Int.cast_ofNat_Int, ofNat_cast])
        | (simp -dsimp (disch := first | assumption | omega) only [dec_t, dec_f])
        | (refine And.intro ?_ ?_
           · first | omega | decide | (simp (disch := omega) only [toNat_add, Int.toNat_natCast, Int.reduceToNat, Int.reducePow, Nat.min_eq_left, wrap_i64, wrap_u64, wrap_u8, and7_u8, fdiv_pos, tdiv_pos, tmod_pos]; done) | (simp (disch := omega) only [toNat_add, Int.toNat_natCast, Int.reduceToNat, Int.reducePow, Nat.min_eq_left, wrap_i64, wrap_u64, wrap_u8, and7_u8, fdiv_pos, tdiv_pos, tmod_pos]; omega) | (simp; done) | (simp; omega))
        | (simp (disch := omega) only [toNat_add, Int.toNat_natCast, Int.reduceToNat, Int.reducePow, Nat.min_eq_left, wrap_i64, wrap_u64, wrap_u8, and7_u8, fdiv_pos, tdiv_pos, tmod_pos])
        | fail
      exact ⟨_, hR, by rw [hl1], rfl⟩
  · rw [grow_step hP2 h0 hM.1, toI_cons] at hR
    have hd := digs_step hP2 h0
    rw [hd, List.length_cons] at hm
    rw [hd, toI_cons]
    have hmod := Nat.mod_lt hi (show P > 0 by omega)
    have htb : hi % P * M + c < 4294967296 * 2147483648 := by
      have : hi % P * M ≤ 4294967295 * 2147483647 := Nat.mul_le_mul (by omega) (by omega)
      omega
    have hx : ((hi % P : Nat) : Int) * (M : Int) + (c : Int) = ((hi % P * M + c : Nat) : Int) := by simp
    obtain ⟨h2, hh2⟩ : ∃ h2, hi / P = h2 := ⟨_, rfl⟩
    obtain ⟨d, hd0⟩ : ∃ d, hi % P = d := ⟨_, rfl⟩
    have hmulw : ((d : Nat) : Int) * (M : Int) = ((d * M : Nat) : Int) := by simp
    obtain ⟨dm, hdm⟩ : ∃ dm, d * M = dm := ⟨_, rfl⟩
    simp only [hd0, hh2] at hR hmod htb hx hm ⊢
    rw [hdm] at hmulw htb hR hx
    obtain ⟨t, ht0⟩ : ∃ t, dm + c = t := ⟨_, rfl⟩
    simp only [ht0] at hR htb hx
    have hadd : (dm : Int) + (c : Int) = (t : Int) := by omega
    have hand := and_low32 t (by omega)
    have hshr0 : ((t : Int)).fdiv 4294967296 = ((t / 4294967296 : Nat) : Int) := by rw [fdiv_pos (by decide)]; omega
    have hshr : (t : Int) / 4294967296 = ((t / 4294967296 : Nat) : Int) := by omega
    rw [hP] at hR
    have hcar : t / 4294967296 < 2147483648 := by omega
    have hxlt : t % 4294967296 < 4294967296 := Nat.mod_lt _ (by decide)
    obtain ⟨q, hq0⟩ : ∃ q, t / 4294967296 = q := ⟨_, rfl⟩
    obtain ⟨x, hx0⟩ : ∃ x, t % 4294967296 = x := ⟨_, rfl⟩
    simp only [hq0, hx0] at hR hcar hxlt hand hshr0 hshr
    rw [← hP] at hR
    have hw : IntKind.wrap .u64 (q : Int) = (q : Int) := wrap_u64 (by omega)
    have hget := get_mid done (d : Int) (toI (digs P h2))
    have hset := set_mid done (d : Int) (x : Int) (toI (digs P h2))
    have hpos : done.length < (done ++ (d : Int) :: toI (digs P h2)).length := by simp
    have hlast : ((done ++ [(x : Int)]).length : Int) = (done.length : Int) + 1 := by simp
    have hml := digs_mono hP2 h2 (h2 * M + q) (by have := Nat.le_mul_of_pos_right h2 (show 0 < M by omega); omega)
    have hlen : (done ++ (d : Int) :: toI (digs P h2)).length = (done ++ [(x : Int)] ++ toI (digs P h2)).length := by simp
    have hpd : done ++ [(x : Int)] ++ toI (digs P (h2 * M + q)) = R := by rw [← hR]; simp
    have hL2 : (done ++ (d : Int) :: toI (digs P h2)).length ≤ 2000000 := by
      have h2 := congrArg List.length hR
      simp only [List.length_append, List.length_cons, toI_len] at h2 ⊢
      omega
    clear hR hd hml
    obtain ⟨row', hrow'⟩ : ∃ row', done ++ [(x : Int)] ++ toI (digs P h2) = row' := ⟨_, rfl⟩
    rw [hrow'] at hset hlen
    generalize done ++ (d : Int) :: toI (digs P h2) = row at *
    repeat' first
      | (simp only [Int.toNat_natCast, hget, hmulw, hdm, hadd, hand, hshr0, hshr, hw, hset])
      | (with_reducible refine PW.seq ?_)
      | (with_reducible refine PW.block ?_)
      | (with_reducible refine PW.region ttOk ?_ ?_
         · rfl)
      | (with_reducible refine PW.regionD ttOk mixed ?_ ?_ ?_
         · rfl
         · rfl)
      | (with_reducible refine PW.fork ?_)
      | (with_reducible refine PW.skip ?_)
      | (with_reducible refine PW.exit ?_)
      | (with_reducible refine PW.ret ?_)
      | (with_reducible refine ifW_dec (fun g => ?_) (fun g => ?_) <;> first | (exfalso; omega) | (simp -dsimp only [g, ifW_tt, ifW_ff, ifW_tf, ifW_ft, decide_true, decide_false, Bool.not_true, Bool.not_false]))
      | (with_reducible refine condE_dec (fun g => ?_) (fun g => ?_) <;> try (exfalso; omega))
      | (with_reducible refine condE_not (fun g => ?_) (fun g => ?_) <;> try (exfalso; omega))
      | (simp -dsimp only [↓opsW, ↓opsD, ↓stepD, ↓wantW_eq, ↓opW, ↓qw, ↓ev, ↓toPV, ↓toPV0, ↓thenQ, ↓blockQ, ↓Frame.put, ↓get_cons, get_nil, Nat.reduceBEq, Nat.reduceEqDiff, ↓reduceIte, ↓guardV, ↓dstAt, List.getElem?_cons_succ, List.getElem?_cons_zero, Option.bind_some, ↓isEffect, ↓tt, ↓lenW, ↓binT, ↓asB, ↓boolT, ↓binW, ↓unW, ↓idxW, ↓load_int, ↓rowSz, ↓rowLen, List.getD_cons_zero, List.getD_cons_succ, Nat.reduceLT, ↓loadW, ↓partW, ↓cellsOf, ↓isOther, ↓isStruct, ifW_tt, ifW_ff, ifW_tf, ifW_ft, condE_t, condE_f, true_and, and_true, cond_true, cond_false, decide_true, decide_false, Bool.not_true, Bool.not_false, Fin_ret, Fin_normal, FinH_ret, FinH_normal, ↓resHs, ↓resH, ↓resVs, ↓resV, ↓view, ↓view0, ↓okView, ↓okView0, ↓oneOf, ↓extractW, List.map_cons, List.map_nil, Array.toList, ↓sliceW, ↓elemSize, ↓cutW, ↓cutL, ↓optI, Option.map_some, Option.map_none, ↓litW, inOrder, Bool.true_and, Bool.and_true, decide_eq_true_eq, ↓intsOf, ↓builtinW, ↓appW, ↓notInt, ↓baseI, ↓srcI, ↓putRes, ↓Heap.new, ↓Heap.newT, dropT, ↓elemT, ↓Heap.move, ↓Heap.moveT, hasT, getT, ↓Heap.set, setRow, killRows, killRow, ↓Heap.get, getRow, ↓killF, Frame.kill, ↓Go.PV.kill, ↓kill1, ↓kill0, ↓convW, ↓strOf, List.length_cons, List.length_nil, List.length_append, List.drop_zero, List.take_length, List.cons_append, List.nil_append, ↓indexW, ↓copyW, ↓storeW, ↓nilCheckW, ↓fieldAddrW, ↓setL, List.set_cons_zero, List.set_cons_succ, ↓dataB, ↓dataB0, ↓makeW, known, List.append_assoc, Nat.zero_add, List.map_append, beq_self_eq_true, ↓isBytes, Nat.reduceAdd, Nat.reduceMul, ↓IntKind.bits, Int.reduceToNat, Int.reducePow, List.take_succ_cons, List.take_zero, Int.toNat_natCast, toNat_add, fillW, List.all_cons, List.all_nil, Value.oneCell', ↓okViews0, bytesI_mk, UInt8.reduceToNat, Int.cast_ofNat_Int, ofNat_cast])
      | (simp -dsimp (disch := first | assumption | omega) only [dec_t, dec_f])
      | (refine And.intro ?_ ?_
         · first | omega | decide | (simp (disch := omega) only [toNat_add, Int.toNat_natCast, Int.reduceToNat, Int.reducePow, Nat.min_eq_left, wrap_i64, wrap_u64, wrap_u8, and7_u8, fdiv_pos, tdiv_pos, tmod_pos]; done) | (simp (disch := omega) only [toNat_add, Int.toNat_natCast, Int.reduceToNat, Int.reducePow, Nat.min_eq_left, wrap_i64, wrap_u64, wrap_u8, and7_u8, fdiv_pos, tdiv_pos, tmod_pos]; omega) | (simp; done) | (simp; omega))
      | (simp (disch := omega) only [toNat_add, Int.toNat_natCast, Int.reduceToNat, Int.reducePow, Nat.min_eq_left, wrap_i64, wrap_u64, wrap_u8, and7_u8, fdiv_pos, tdiv_pos, tmod_pos])
      | fail
    exact Again.mk (m - 1) [(7, .int .i64 ((done ++ [(x : Int)]).length : Int)), (0, .sl 0 0 ((done ++ [(x : Int)]) ++ toI (digs P h2)).length true), (1, .int .u64 (M : Int)), (2, .int .u64 (q : Int))] ⟨1, [(0, .ints .u64 ((done ++ [(x : Int)]) ++ toI (digs P h2)))], [], []⟩ (by omega) (Sub.norm ⟨congrArg (PV.int .i64) hlast.symm, congrArg (fun n => PV.sl 0 0 n true) (by rw [hrow']; exact hlen), rfl, rfl, trivial⟩ ⟨congrArg (fun l => some (PV.Row.ints .u64 l)) hrow'.symm, trivial⟩ (Nat.le_refl _) rfl rfl rfl rfl) ⟨_, h2, q, hpd, hcar, by omega, rfl, rfl⟩
end Go.Proofs.YtmoigffjpijpaabDoor


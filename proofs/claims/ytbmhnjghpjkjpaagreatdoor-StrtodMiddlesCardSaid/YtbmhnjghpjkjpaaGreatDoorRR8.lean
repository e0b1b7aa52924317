/- Every finite double is read back from its exact decimal, and the middle above it, and the numbers just beside that middle, are read as they should. -/
import Derived.Test.YtbmhnjghpjkjpaaGreatDoorRows
import Derived.Test.YtbmhnjghpjkjpaaGreatDoorTie
import Derived.Test.YtbmhnjghpjkjpaaGreatDoorCards
import Derived.Test.YtbmhnjghpjkjpaaGreatDoorPart11
import Derived.WalkKit
import Derived.LaidMore
import Derived.Lay
import Derived.SevenTiedAt
import Derived.Stop.Joined
import Derived.ProofKit
import Derived.OpenShut
import Derived.ShutString
import Derived.ChangeOld
import Derived.Below
import Derived.SizedLaws
import Derived.Carry
namespace Go.Proofs.YtbmhnjghpjkjpaaGreatDoor.strtodMiddles
open Go Go.PV Go.ChangeShapes Go.WideShapes Go.ChangeAt Go.RowKit
open Go.ChangeMaps (open_string shut_string)
set_option linter.unusedVariables false
set_option linter.unusedSimpArgs false
theorem own : ownKnob Tryz.prog.godebug = none := by kernel_rfl
set_option maxRecDepth 100000 in
theorem lifted (os : Os) (started : os.Started) (H : Type) (enc : TypeId × Value → H) :
    ReturnsInHanded {} Tryz.checked os 12 .any (fun w args => (Rows.strtodMiddlesSpec.pre enc Tryz.prog Tryz.f12 Rows.strtodMiddlesRow.domain false w args ∧ laidMetH Tryz.prog Rows.strtodMiddlesRow.laid w) ∧ sizedMet enc Tryz.prog Tryz.f12 (OpenSpec.ofChange Rows.strtodMiddlesSpec) false w args)
      (Rows.strtodMiddlesSpec.post enc Tryz.prog Tryz.f12 false true false false) := by
  refine returnsInHanded_of_change_and (C := Tryz.checked) (X := fun w _ => laidMetH Tryz.prog Rows.strtodMiddlesRow.laid w) (fun _ _ _ hh h => h.of_heap hh) own started (by kernel_rfl) Tryz.func12
    (ChangeSpec.witness_shaped (enc := enc) (C := Tryz.checked) (os := os) (X := fun w _ => laidMetH Tryz.prog Rows.strtodMiddlesRow.laid w) false (World.laidAll Tryz.prog os Rows.strtodMiddlesRow.laid) #[.int .u64 0, .int .u16 0] 8 (World.laidAll_os _ _ _)
      (World.shaped_of_ZipB (by kernel_rfl) (by kernel_rfl)) (by kernel_rfl) (by kernel_rfl) (by kernel_rfl)
      (by rw [MakeChecks.laidMetH_plain _ _ _ (by kernel_rfl)]; exact laidMet_laidAll _ (by kernel_rfl) (by kernel_rfl))) ?_
  intro W base args ds gs before hval0 hW hcnd hsz0 hlaid _
  have hsz : (DataW.weightsEach Tryz.prog (Tryz.f12.params.toList ++ Rows.strtodMiddlesSpec.plain.varTypes Tryz.prog) (ds ++ gs)).all (· ≤ reachBytes) = true := hsz0
  have hval : ∀ (j : Nat) t v, Tryz.f12.params[j]? = some t → args[j]? = some v → Value.okWide Tryz.prog W .any base t v := hval0
  have hW' := hW
  obtain ⟨p, q, hA0, hV, rfl, hfz, hnd⟩ := hW
  have hA : DataW.TrodAll enc Tryz.prog W 0 (fun _ => true) true Tryz.f12.params.toList args.toList ds p := hA0
  rw [Tryz.params12] at hA hval hsz
  obtain ⟨v0, vs0, d0, ds0, p0, q0, hargs, rfl, rfl, h0, r0⟩ := trodAll_cons hA
  obtain ⟨v1, vs1, d1, ds1, p1, q1, rfl, rfl, rfl, h1, r1⟩ := trodAll_cons r0
  obtain ⟨rfl, rfl, rfl⟩ := trodAll_nil r1
  obtain rfl : args = #[v0, v1] := by cases args; simp_all
  obtain ⟨rfl, rfl⟩ := trodVars_none hV
  obtain ⟨a0, rfl, rfl, rfl, w0⟩ := open_int Tryz.underlying27 (hval 0 27 v0 rfl rfl) h0
  have b0 := wf_u64 w0
  obtain ⟨a1, rfl, rfl, rfl, w1⟩ := open_int Tryz.underlying68 (hval 1 68 v1 rfl rfl) h1
  have b1 := wf_u16 w1
  clear hA0 hval0 hsz0 hsz
  have hmeets := (by have h := strtod_middles a0.toNat a1.toNat (by omega) (by omega); rw [Int.toNat_of_nonneg b0.1, Int.toNat_of_nonneg b1.1] at h; exact h)
  refine (hmeets.calls Tryz.func12 (by kernel_rfl) (c := _) rfl W (tabsOk hlaid (List.mem_of_getElem? (i := 0) (by kernel_rfl))) #[.int .u64 a0, .int .u16 a1] rfl (args2 (.int _ a0) (.int _ a1))).mono fun e W' ⟨v, he, hb⟩ => ?_
  subst he
  obtain ⟨rfl, bel⟩ := back_true hb
  exact ⟨_, rfl, _, _, _, [], _, [], hW', trodAll_mk1 (shut_bool Tryz.underlying4 _), (trodAll_cons_mk (shut_int Tryz.underlying27 w0) (trodAll_cons_mk (shut_int Tryz.underlying68 w1) trodAll_mk0)), rfl, bel.frame _, fun h => by cases h⟩
theorem over : Rows.strtodMiddlesRow.holds Tryz.pinned (OpenSpec.ofChange Rows.strtodMiddlesSpec) :=
  OpenClaim.holds_of_wide 12 Tryz.f12 rfl rfl rfl rfl rfl rfl rfl ⟨rfl, rfl, rfl, rfl, rfl⟩ rfl rfl rfl rfl rfl (by kernel_rfl) Tryz.func12 (by kernel_rfl)
    (of_decide_eq_true (by kernel_rfl)) (by unfold Func.isWrapper; first | (rw [if_pos (by decide +kernel)]; kernel_rfl) | (rw [if_neg (by decide +kernel)]; exact ⟨rfl, rfl⟩))
    (fun os started H enc _ => lifted os started H enc)
theorem card : Rows.StrtodMiddlesCardSaid :=
  Claim7.holds_tied_plain_at .later [] [.data, .data, .pinned] true (true, "1fb38bde2a6313c339c323fbd7d3c8a858f864d2b2241baeb7c2cf7e17e37021") false over (fun _ h => by cases h) (by kernel_rfl) (fun _ h => by cases h) strtodMiddles_row_tie rfl ⟨rfl, rfl⟩ (by kernel_rfl) rfl
    (fun f fn hf hfn => by
      obtain rfl : f = 12 := Option.some.inj ((show Tryz.prog.funcNamed "abacus/abacuslaw10.StrtodMiddles" = some 12 by kernel_rfl).symm.trans hf) |>.symm
      obtain rfl : fn = Tryz.f12 := (Option.some.inj (Tryz.func12.symm.trans hfn)).symm
      exact ⟨by kernel_rfl, fun j t ht => by
        rw [Tryz.params12] at ht
        have hm : t ∈ [27, 68] := by simpa using Array.mem_of_getElem? ht
        have hall : ([27, 68].all fun u => !Tryz.prog.wantsStandIn u) = true := by kernel_rfl
        exact (show Tryz.prog.wantsStandIn t = false by simpa using List.all_eq_true.1 hall t hm)⟩)
    (by kernel_rfl)
#print axioms card
end Go.Proofs.YtbmhnjghpjkjpaaGreatDoor.strtodMiddles
namespace Go.Proofs.YtbmhnjghpjkjpaaGreatDoor
theorem strtodMiddles_holds : Rows.StrtodMiddlesCardSaid := strtodMiddles.card
end Go.Proofs.YtbmhnjghpjkjpaaGreatDoor


/- Pure values, part 24: the rule for regions that draw their order; calls in them. -/
import Derived.Test.YtmoigffjpijpaaaV23
set_option linter.unusedVariables false
set_option linter.unusedSimpArgs false
namespace Go.PV
open Go Go.RowKit

section
variable {P : Program} {w w' : World} {ow ow' : Nat → Prop} {loc loc' : Locs} {n nt : Nat} {E : Entry} {H : Heap} {F : Frame} {a : Act} {tt : Tab} {rows : Nat → Option Row}

theorem PW.regionD {id : Nat} {ops : Array Oper} {Q : Exit → Frame → Heap → Prop} (hT : TabOk P tt) (hm : P.follows .mixedOrders = true) (hr : regOk ops.toList = true) (hd : ops.toList.all (fun o => dstOk nt o.dst) = true)
    (h : opsD P tt ops.toList ops.toList F H fun F' => Q .normal F' H) : PW P E nt (.region id ops true) Q F H := fun a w hst => by
  obtain ⟨qs, hy, hq⟩ := trace_of _ _ h
  refine wp_region_any hm ?_
  refine any_sound hT (regOk_spec hr) hd hy (fun a' w' hst' => ⟨_, H, hq, hst'⟩) ops.size (Array.replicate ops.size false) F a _ ⟨by simp, ?_, fun t _ => rfl, ?_⟩ (fun _ _ _ => ⟨0, by omega⟩) hst.drawn (Nat.le_trans (List.length_filter_le _ _) (by simp))
  · intro j t _ hl
    rcases Nat.lt_or_ge j ops.size with hj | hj
    · simp [hj] at hl
    · simp [hj] at hl
  · intro j oj _ hl
    rcases Nat.lt_or_ge j ops.size with hj | hj
    · simp [hj] at hl
    · simp [hj] at hl

@[congr] theorem callD_congr {f : FuncId} {args args' : List PV} {H H' : Heap} {K : PV → Prop} (h1 : args = args') (h2 : H = H') : callD P f args H K = callD P f args' H' K := by rw [h1, h2]

/-- A call by the callee's contract. -/
theorem callD_by {f : FuncId} {args : List PV} {res : PV} {K : PV → Prop} (hm : Meets P f args res) (hv : args.map (view H.get) = args) (ho : okViews H.get args) (hfl : (flatB res || args.all dataB) = true) (h : K res) : callD P f args H K :=
  ⟨ho, res, by rw [hv]; exact hm, hfl, h⟩
theorem callD_by' {f : FuncId} {args args' : List PV} {res : PV} {K : PV → Prop} (hv : args.map (view H.get) = args') (hm : Meets P f args' res) (ho : okViews H.get args) (hfl : (flatB res || args.all dataB) = true) (h : K res) : callD P f args H K :=
  ⟨ho, res, by rw [hv]; exact hm, hfl, h⟩

/-- Nothing is handed over but data. -/
theorem view0_data {p : PV} (h : dataB0 p = true) : view0 rows p = p := by
  cases p <;> first | rfl | (simp [dataB0] at h; done)
theorem view_data {p : PV} (h : dataB p = true) : view rows p = p := by
  cases p with
  | agg l =>
    simp only [dataB, List.all_eq_true] at h
    simp only [view, PV.agg.injEq]
    exact (List.map_congr_left fun p hp => view0_data (h p hp)).trans (List.map_id' l)
  | _ => first | rfl | (simp [dataB, dataB0] at h; done)
theorem views_data {args : List PV} (h : args.all dataB = true) : args.map (view rows) = args := by
  induction args with
  | nil => rfl
  | cons p rest ih =>
    simp only [List.all_cons, Bool.and_eq_true] at h
    rw [List.map_cons, view_data h.1, ih h.2]
end
end Go.PV

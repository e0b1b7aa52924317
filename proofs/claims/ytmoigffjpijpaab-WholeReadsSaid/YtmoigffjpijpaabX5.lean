import Derived.Test.YtmoigffjpijpaabVD
import Derived.Test.YtmoigffjpijpaabW12
set_option linter.unusedVariables false
set_option linter.unusedSimpArgs false
namespace Go.PV
open Go Go.RowKit

/-- A struct that came in. -/
theorem opened_agg {P : Program} {w : World} {H : Type} {enc : TypeId × Value → H} {held : Bool} {t : TypeId} {ss : List Shape} (h : Typed P t ss) {cs : Array Value} {d : DataW H} {pl : List MemPlace} (hd : DataW.Trod enc P w 0 (fun _ => true) held t (.agg cs) d pl) (hn : ∀ n ∈ d.weights P t, n ≤ reachBytes) :
    ∃ ps : List PV, ps.length = ss.length ∧ (∀ j, j < ss.length → Fits (ss.getD j .bool) (ps.getD j .undef)) ∧ RD w (fun _ => False) (.agg ps) (.agg cs) := by
  obtain ⟨fuel, hf⟩ := hd
  have e : (Value.agg cs).cells.toList = cs.toList := rfl
  rw [e] at hf
  obtain ⟨ps, h1, h2, h3, h4⟩ := opened h hf hn
  have hsz : cs.size = ss.length := by rw [← h2, Array.length_toList]
  refine ⟨ps, h1, h3, .agg ps cs (by omega) (fun u hu => ?_) (fun i hi => ?_)⟩
  · obtain ⟨i, hi, rfl⟩ := List.getElem_of_mem hu
    have := (h4 i (by omega)).1
    rw [List.getD_eq_getElem?_getD, List.getElem?_eq_getElem hi] at this
    exact this
  · have := (h4 i (by omega)).2
    rw [List.getD_eq_getElem?_getD (l := cs.toList), Array.getElem?_toList] at this
    rw [Array.getD_eq_getD_getElem?]
    exact this
end Go.PV
namespace Go.Proofs.Ytmoigffjpijpaab
open Go Go.PV

theorem fits_ask {ps : List PV} (hl : ps.length = askS.length) (hf : ∀ j, j < askS.length → Fits (askS.getD j .bool) (ps.getD j .undef)) : ∃ a : Ask, PV.agg ps = a.pv ∧ a.Ok := by
  match ps, hl with
  | [p0, p1, p2, p3, p4, p5, p6, p7], _ =>
    have h0 : Fits (.int .u8) p0 := hf 0 (by decide)
    have h1 : Fits (.int .i64) p1 := hf 1 (by decide)
    have h2 : Fits (.int .i64) p2 := hf 2 (by decide)
    have h3 : Fits (.int .i64) p3 := hf 3 (by decide)
    have h4 : Fits .bool p4 := hf 4 (by decide)
    have h5 : Fits (.ints .u64 8) p5 := hf 5 (by decide)
    have h6 : Fits (.int .u64) p6 := hf 6 (by decide)
    have h7 : Fits .str p7 := hf 7 (by decide)
    cases h0 with | int _ v hv =>
    cases h1 with | int _ f hff =>
    cases h2 with | int _ w hw =>
    cases h3 with | int _ p hp =>
    cases h4 with | bool neg =>
    cases h5 with | ints _ _ n hn hnw =>
    cases h6 with | int _ u hu =>
    cases h7 with | str t ht _ =>
    exact ⟨⟨v, f, w, p, neg, n, u, t⟩, rfl, ⟨wf_u8 hv, wf_i64 hff, wf_i64 hw, wf_i64 hp, fun x hx => wf_u64 (hnw x hx), hn, wf_u64 hu, ht⟩⟩

theorem fits_spec {ps : List PV} (hl : ps.length = specS.length) (hf : ∀ j, j < specS.length → Fits (specS.getD j .bool) (ps.getD j .undef)) : ∃ v f w p : Int, PV.agg ps = specV v f w p ∧ 0 ≤ v ∧ v < 256 := by
  match ps, hl with
  | [p0, p1, p2, p3], _ =>
    have h0 : Fits (.int .u8) p0 := hf 0 (by decide)
    have h1 : Fits (.int .i64) p1 := hf 1 (by decide)
    have h2 : Fits (.int .i64) p2 := hf 2 (by decide)
    have h3 : Fits (.int .i64) p3 := hf 3 (by decide)
    cases h0 with | int _ v hv =>
    cases h1 with | int _ f hff =>
    cases h2 with | int _ w hw =>
    cases h3 with | int _ p hp =>
    exact ⟨v, f, w, p, rfl, wf_u8 hv⟩
end Go.Proofs.Ytmoigffjpijpaab


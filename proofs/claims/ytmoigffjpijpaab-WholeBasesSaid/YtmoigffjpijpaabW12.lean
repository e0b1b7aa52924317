import Derived.Test.YtmoigffjpijpaabW11
set_option linter.unusedVariables false
set_option linter.unusedSimpArgs false
namespace Go.Proofs.Ytmoigffjpijpaab
open Go Go.PV

abbrev specS : List Shape := [.int .u8, .int .i64, .int .i64, .int .i64]
abbrev askS : List Shape := [.int .u8, .int .i64, .int .i64, .int .i64, .bool, .ints .u64 8, .int .u64, .str]

theorem typed_spec : Typed Try.prog 23 specS :=
  .struct [[.int .u8], [.int .i64], [.int .i64], [.int .i64]] Try.underlying23 rfl (by kernel_rfl)
    (fun i f h => by
      match i, h with
      | 0, h => cases h; exact .int (by kernel_rfl)
      | 1, h => cases h; exact .int (by kernel_rfl)
      | 2, h => cases h; exact .int (by kernel_rfl)
      | 3, h => cases h; exact .int (by kernel_rfl)
      | i + 4, h => simp at h)
    (fun i f h => by
      match i, h with
      | 0, h => cases h; exact ⟨rfl, by kernel_rfl⟩
      | 1, h => cases h; exact ⟨rfl, by kernel_rfl⟩
      | 2, h => cases h; exact ⟨rfl, by kernel_rfl⟩
      | 3, h => cases h; exact ⟨rfl, by kernel_rfl⟩
      | i + 4, h => simp at h)

theorem typed_ask : Typed Try.prog 27 askS :=
  .struct [specS, [.bool], [.ints .u64 8], [.int .u64], [.str]] Try.underlying27 rfl (by kernel_rfl)
    (fun i f h => by
      match i, h with
      | 0, h => cases h; exact typed_spec
      | 1, h => cases h; exact .bool (by kernel_rfl)
      | 2, h => cases h; exact .ints Try.underlying24 (by kernel_rfl) (by kernel_rfl) (by kernel_rfl)
      | 3, h => cases h; exact .int (by kernel_rfl)
      | 4, h => cases h; exact .str (by kernel_rfl)
      | i + 5, h => simp at h)
    (fun i f h => by
      match i, h with
      | 0, h => cases h; exact ⟨rfl, by kernel_rfl⟩
      | 1, h => cases h; exact ⟨rfl, by kernel_rfl⟩
      | 2, h => cases h; exact ⟨rfl, by kernel_rfl⟩
      | 3, h => cases h; exact ⟨rfl, by kernel_rfl⟩
      | 4, h => cases h; exact ⟨rfl, by kernel_rfl⟩
      | i + 5, h => simp at h)

theorem fits_asks {p : PV} (h : Fits (.rows true 88 askS) p) : ∃ asks : List Ask, p = .list 8 (asks.map Ask.pv) ∧ (∀ a ∈ asks, a.Ok) ∧ asks.length * 88 ≤ 140737488351232 := by
  refine fits_list h Ask.pv Ask.Ok fun ps hl hf => ?_
  match ps, hl with
  | [p0, p1, p2, p3, p4, p5, p6, p7], _ =>
    have h0 : Fits (.int .u8) p0 := hf 0 (by decide)
    have h1 : Fits (.int .i64) p1 := hf 1 (by decide)
    have h2 : Fits (.int .i64) p2 := hf 2 (by decide)
    have h3 : Fits (.int .i64) p3 := hf 3 (by decide)
    have h4 : Fits .bool p4 := hf 4 (by decide)
    have h5 : Fits (.ints .u64 8) p5 := hf 5 (by decide)
    have h6 : Fits (.int .u64) p6 := hf 6 (by decide)
    have h7 : Fits .str p7 := hf 7 (by decide)
    cases h0 with | int _ v hv =>
    cases h1 with | int _ f hff =>
    cases h2 with | int _ w hw =>
    cases h3 with | int _ p hp =>
    cases h4 with | bool neg =>
    cases h5 with | ints _ _ n hn hnw =>
    cases h6 with | int _ u hu =>
    cases h7 with | str t ht _ =>
    exact ⟨⟨v, f, w, p, neg, n, u, t⟩, rfl, ⟨wf_u8 hv, wf_i64 hff, wf_i64 hw, wf_i64 hp, fun x hx => wf_u64 (hnw x hx), hn, wf_u64 hu, ht⟩⟩
end Go.Proofs.Ytmoigffjpijpaab


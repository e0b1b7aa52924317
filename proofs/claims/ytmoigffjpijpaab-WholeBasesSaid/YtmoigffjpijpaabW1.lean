import Derived.Test.YtmoigffjpijpaabC2
import Derived.Test.YtmoigffjpijpaabSh
set_option linter.unusedVariables false
set_option linter.unusedSimpArgs false
namespace Go.Proofs.Ytmoigffjpijpaab
open Go Go.PV

/-- A contract of the library's that hands back a value: as ours. -/
theorem meets_lib {f : FuncId} {fn : Func} {c : Code} {args : List PV} {res : PV} (hf : Try.prog.funcs[f]? = some fn) (hname : (fn.name == "runtime.NumGoroutine") = false) (hb : fn.body = some c)
    (h : ∀ (w : World) (A : Nat → Prop) (vs : Array Value), args.length = vs.size → (∀ i, i < args.length → RD w A (args.getD i .undef) (vs.getD i undef)) →
      ∃ v, (∀ w' A, RD w' A res v) ∧ Calls Try.prog f vs w fun e w' => e = .returned v ∧ Go.RowKit.Below w.heap.size w w') : Meets Try.prog f args res := by
  refine ⟨fun w A vs hA hl ha => ?_⟩
  obtain ⟨v, hv, hc⟩ := h w A vs hl ha
  exact .inl ⟨call_enters hf hname hb vs w, hc.mono fun e w' ⟨he, hbel⟩ => ⟨v, he, hbel, hv _ _⟩⟩

theorem two_args {w : World} {A : Nat → Prop} {p q : PV} {vs : Array Value} (hl : [p, q].length = vs.size) (ha : ∀ i, i < [p, q].length → RD w A ([p, q].getD i .undef) (vs.getD i undef)) : ∃ u v, vs = #[u, v] ∧ RD w A p u ∧ RD w A q v := by
  have hs : vs.size = 2 := by simpa using hl.symm
  refine ⟨vs[0], vs[1], Array.ext (by simp [hs]) fun i h1 h2 => ?_, ?_, ?_⟩
  · match i, h1, h2 with
    | 0, _, _ => rfl
    | 1, _, _ => rfl
    | i + 2, h1, _ => omega
  · have := ha 0 (by simp)
    simpa [Array.getD, hs] using this
  · have := ha 1 (by simp)
    simpa [Array.getD, hs] using this

theorem bytes_of {s : ByteArray} {l : List Int} (h : bytesI s = l) : s.data.toList = l.map fun x => x.toNat.toUInt8 := by
  subst h
  unfold bytesI
  rw [List.map_map]
  refine (List.map_id _).symm.trans (List.map_congr_left fun b _ => ?_)
  simp

theorem repeatL_one (y : UInt8) : ∀ c, Lib.repeatL [y] c = List.replicate c y
  | 0 => rfl
  | c + 1 => by rw [Lib.repeatL, repeatL_one y c]; rfl

/-- strings.Repeat of one byte. -/
theorem repeat_byte (x : Int) (hx : 0 ≤ x ∧ x < 256) (c : Nat) (hc : c ≤ 1000000000) : Meets Try.prog 35 [.str [x], .int .i64 (c : Int)] (.str (List.replicate c x)) := by
  refine meets_lib Try.func35 (by kernel_rfl) (c := _) rfl fun w A vs hl ha => ?_
  obtain ⟨u, v, rfl, h1, h2⟩ := two_args hl ha
  obtain rfl := rd_int h2
  cases h1 with
  | str s _ h =>
    have hb := bytes_of h
    have hsz : s.size = 1 := by
      have := bytesI_length s
      rw [h] at this
      simpa using this.symm
    refine ⟨.string ⟨(Lib.repeatL s.data.toList c).toArray⟩, fun w' A => .str _ _ ?_, Try.strings_Repeat s c w (by omega) (by rw [hsz]; omega)⟩
    rw [hb]
    simp only [List.map_cons, List.map_nil, repeatL_one]
    unfold bytesI
    simp only [List.map_replicate]
    congr 1
    simp
    omega

/-- strings.IndexByte. -/
theorem index_byte (s : List Int) (c : Int) : Meets Try.prog 33 [.str s, .int .u8 c] (.int .i64 (Lib.indexByte (s.map fun x => x.toNat.toUInt8) c.toNat.toUInt8)) := by
  refine meets_lib Try.func33 (by kernel_rfl) (c := _) rfl fun w A vs hl ha => ?_
  obtain ⟨u, v, rfl, h1, h2⟩ := two_args hl ha
  obtain rfl := rd_int h2
  cases h1 with
  | str b _ h =>
    have hb := bytes_of h
    refine ⟨_, fun w' A => .int _ _, ?_⟩
    rw [← hb]
    exact (Try.strings_IndexByte b c w).mono fun e w' ⟨he, hw⟩ => ⟨he, by rw [hw]; exact Go.RowKit.Below.refl _ _⟩
end Go.Proofs.Ytmoigffjpijpaab


/- Contracts and laws that the row leans on, part 11: texts that were built one by one, laid together. -/
import Derived.Shelf.Small.Strs
import Derived.Shelf.Strconv.Itoa0
import Derived.Shelf.Strconv.Itoa1
import Derived.Shelf.LaysM
import Derived.Shelf.Strconv.Itoa2
import Derived.Shelf.Strconv.Itoa3
import Derived.Shelf.Strconv.Clone
import Derived.Shelf.Strings.Search1
import Derived.Shelf.Strings.Prefix
import Derived.Shelf.Strings.Repeat
import Derived.Test.YtmoilbeomnapfaaGreatDoorProg
import Derived.Test.YtmoilbeomnapfaaGreatDoorPart10
import Derived.Test.YtmoilbeomnapfaaGreatDoorPart9
import Derived.Test.YtmoilbeomnapfaaGreatDoorPart5
namespace Go.Proofs
open Go.Shelf
open Go.RowKit in
def Tryz.laysM171_ren : Go.Shelf.Ren := ⟨fun | 171 => 23 | 243 => 49 | 246 => 89 | 283 => 121 | 284 => 122 | 285 => 123 | 286 => 124 | 129 => 91 | 317 => 154 | 318 => 155 | 319 => 156 | 320 => 157 | 337 => 167 | 338 => 168 | n => n, fun | 3 => 3 | 9 => 9 | 2 => 2 | 4 => 4 | 171 => 137 | 0 => 0 | 53 => 25 | 37 => 70 | 5 => 5 | 173 => 139 | 212 => 164 | 51 => 109 | 20 => 20 | 213 => 165 | 46 => 65 | 232 => 173 | 233 => 174 | n => n, fun | 17 => 1 | 18 => 4 | 19 => 5 | n => n⟩
theorem Tryz.laysM171 : Go.Proofs.LaysM.n171 Tryz.prog Tryz.laysM171_ren := {
  mixed := by kernel_rfl
  f129 := Tryz.func91.trans (congrArg some (by kernel_rfl))
  f171 := Tryz.func23.trans (congrArg some (by kernel_rfl))
  f243 := Tryz.func49.trans (congrArg some (by kernel_rfl))
  f246 := Tryz.func89.trans (congrArg some (by kernel_rfl))
  f283 := Tryz.func121.trans (congrArg some (by kernel_rfl))
  f284 := Tryz.func122.trans (congrArg some (by kernel_rfl))
  f285 := Tryz.func123.trans (congrArg some (by kernel_rfl))
  f286 := Tryz.func124.trans (congrArg some (by kernel_rfl))
  f317 := Tryz.func154.trans (congrArg some (by kernel_rfl))
  f318 := Tryz.func155.trans (congrArg some (by kernel_rfl))
  f319 := Tryz.func156.trans (congrArg some (by kernel_rfl))
  f320 := Tryz.func157.trans (congrArg some (by kernel_rfl))
  f337 := Tryz.func167.trans (congrArg some (by kernel_rfl))
  f338 := Tryz.func168.trans (congrArg some (by kernel_rfl))
  t0 := Tryz.underlying0
  a0 := Tryz.isAgg0
  z0 := Tryz.sizeOf0
  v0 := Tryz.zeroValue0
  t2 := Tryz.underlying2
  a2 := Tryz.isAgg2
  z2 := Tryz.sizeOf2
  v2 := Tryz.zeroValue2
  t3 := Tryz.underlying3
  a3 := Tryz.isAgg3
  z3 := Tryz.sizeOf3
  v3 := Tryz.zeroValue3
  t4 := Tryz.underlying4
  a4 := Tryz.isAgg4
  z4 := Tryz.sizeOf4
  v4 := Tryz.zeroValue4
  t5 := Tryz.underlying5
  a5 := Tryz.isAgg5
  z5 := Tryz.sizeOf5
  v5 := Tryz.zeroValue5
  t9 := Tryz.underlying9
  a9 := Tryz.isAgg9
  z9 := Tryz.sizeOf9
  v9 := Tryz.zeroValue9
  t20 := Tryz.underlying20
  a20 := Tryz.isAgg20
  z20 := Tryz.sizeOf20
  v20 := Tryz.zeroValue20
  t37 := Tryz.underlying70
  a37 := Tryz.isAgg70
  z37 := Tryz.sizeOf70
  v37 := Tryz.zeroValue70
  t46 := Tryz.underlying65
  a46 := Tryz.isAgg65
  z46 := Tryz.sizeOf65
  v46 := Tryz.zeroValue65
  t51 := Tryz.underlying109
  a51 := Tryz.isAgg109
  z51 := Tryz.sizeOf109
  v51 := Tryz.zeroValue109
  t53 := Tryz.underlying25
  a53 := Tryz.isAgg25
  z53 := Tryz.sizeOf25
  v53 := Tryz.zeroValue25
  t171 := Tryz.underlying137
  a171 := Tryz.isAgg137
  z171 := Tryz.sizeOf137
  v171 := Tryz.zeroValue137
  t173 := Tryz.underlying139
  a173 := Tryz.isAgg139
  z173 := Tryz.sizeOf139
  v173 := Tryz.zeroValue139
  t212 := Tryz.underlying164
  a212 := Tryz.isAgg164
  z212 := Tryz.sizeOf164
  v212 := Tryz.zeroValue164
  t213 := Tryz.underlying165
  a213 := Tryz.isAgg165
  z213 := Tryz.sizeOf165
  t232 := Tryz.underlying173
  a232 := Tryz.isAgg173
  z232 := Tryz.sizeOf173
  v232 := Tryz.zeroValue173
  t233 := Tryz.underlying174
  a233 := Tryz.isAgg174
  z233 := Tryz.sizeOf174
  v233 := Tryz.zeroValue174
  g17 := by kernel_rfl
  g18 := by kernel_rfl
  g19 := by kernel_rfl
  i0 := by kernel_rfl
  i2 := by kernel_rfl
  i3 := by kernel_rfl
  i4 := by kernel_rfl
  i5 := by kernel_rfl
  i9 := by kernel_rfl
  i20 := by kernel_rfl
  i37 := by kernel_rfl
  i46 := by kernel_rfl
  i51 := by kernel_rfl
  i53 := by kernel_rfl
  i171 := by kernel_rfl
  i173 := by kernel_rfl
  i212 := by kernel_rfl
  i232 := by kernel_rfl
  i233 := by kernel_rfl
  m17 := by kernel_rfl
  m18 := by kernel_rfl
  m19 := by kernel_rfl }
open Go.RowKit Go.Sort Go.Lib in
theorem Tryz.strconv_Itoa (n : Int) (h0 : -9223372036854775808 ≤ n) (h1 : n ≤ 9223372036854775807) (w : World) (htab : Lib.TabIs Tryz.prog w "internal/strconv.uint64pow10" .u64 Lib.pow10Tab) :
    Calls Tryz.prog 23 #[.int .i64 n] w fun e w' => e = .returned (.string ⟨(Lib.itoa n).toArray⟩) ∧ ∃ k os, w' = grow (w.drewN k) os := Any.strconv_Itoa Tryz.laysM171 n h0 h1 w htab
def Tryz.laysM316_ren : Go.Shelf.Ren := ⟨fun | 316 => 142 | n => n, fun | 9 => 9 | 3 => 3 | 4 => 4 | 37 => 70 | 0 => 0 | 127 => 114 | 5 => 5 | n => n, fun | n => n⟩
theorem Tryz.laysM316 : Go.Proofs.LaysM.n316 Tryz.prog Tryz.laysM316_ren := {
  mixed := by kernel_rfl
  f316 := Tryz.func142.trans (congrArg some (by kernel_rfl))
  t0 := Tryz.underlying0
  a0 := Tryz.isAgg0
  z0 := Tryz.sizeOf0
  v0 := Tryz.zeroValue0
  t3 := Tryz.underlying3
  a3 := Tryz.isAgg3
  z3 := Tryz.sizeOf3
  v3 := Tryz.zeroValue3
  t4 := Tryz.underlying4
  a4 := Tryz.isAgg4
  z4 := Tryz.sizeOf4
  v4 := Tryz.zeroValue4
  t9 := Tryz.underlying9
  a9 := Tryz.isAgg9
  z9 := Tryz.sizeOf9
  v9 := Tryz.zeroValue9
  t37 := Tryz.underlying70
  a37 := Tryz.isAgg70
  z37 := Tryz.sizeOf70
  v37 := Tryz.zeroValue70
  t127 := Tryz.underlying114
  a127 := Tryz.isAgg114
  z127 := Tryz.sizeOf114
  v127 := Tryz.zeroValue114
  t5 := Tryz.underlying5
  a5 := Tryz.isAgg5
  z5 := Tryz.sizeOf5
  v5 := Tryz.zeroValue5
  i0 := by kernel_rfl
  i3 := by kernel_rfl
  i4 := by kernel_rfl
  i5 := by kernel_rfl
  i9 := by kernel_rfl
  i37 := by kernel_rfl
  i127 := by kernel_rfl }
open Go.RowKit in
theorem Tryz.stringslite_Clone (s : ByteArray) (w : World) (hlim : s.size ≤ 281474976710656) :
    Calls Tryz.prog 142 #[.string s] w fun e w' => e = .returned (.string s) ∧ Below w.heap.size w w' := Any.stringslite_Clone Tryz.laysM316 s w hlim
def Tryz.lays105_ren : Go.Shelf.Ren := ⟨fun | 105 => 22 | 212 => 43 | 99 => 44 | 165 => 45 | 166 => 46 | 170 => 47 | 169 => 48 | 263 => 84 | 264 => 85 | 206 => 86 | 240 => 87 | 241 => 88 | 276 => 119 | 277 => 120 | n => n, fun | 9 => 9 | 3 => 3 | 4 => 4 | 20 => 20 | 0 => 0 | 46 => 65 | 109 => 66 | 5 => 5 | 72 => 72 | 76 => 76 | 51 => 109 | 146 => 110 | 53 => 25 | 148 => 112 | 70 => 69 | 37 => 70 | 75 => 75 | 127 => 114 | 164 => 134 | 80 => 79 | n => n, fun | n => n⟩
theorem Tryz.lays105 : Go.Proofs.Lays.n105 Tryz.prog Tryz.lays105_ren := {
  mixed := by kernel_rfl
  f99 := Tryz.func44.trans (congrArg some (by kernel_rfl))
  f105 := Tryz.func22.trans (congrArg some (by kernel_rfl))
  f165 := Tryz.func45.trans (congrArg some (by kernel_rfl))
  f166 := Tryz.func46.trans (congrArg some (by kernel_rfl))
  f169 := Tryz.func48.trans (congrArg some (by kernel_rfl))
  f170 := Tryz.func47.trans (congrArg some (by kernel_rfl))
  f206 := Tryz.func86.trans (congrArg some (by kernel_rfl))
  f212 := Tryz.func43.trans (congrArg some (by kernel_rfl))
  f240 := Tryz.func87.trans (congrArg some (by kernel_rfl))
  f241 := Tryz.func88.trans (congrArg some (by kernel_rfl))
  f263 := Tryz.func84.trans (congrArg some (by kernel_rfl))
  f264 := Tryz.func85.trans (congrArg some (by kernel_rfl))
  f276 := Tryz.func119.trans (congrArg some (by kernel_rfl))
  f277 := Tryz.func120.trans (congrArg some (by kernel_rfl))
  t0 := Tryz.underlying0
  a0 := Tryz.isAgg0
  z0 := Tryz.sizeOf0
  v0 := Tryz.zeroValue0
  t3 := Tryz.underlying3
  a3 := Tryz.isAgg3
  z3 := Tryz.sizeOf3
  v3 := Tryz.zeroValue3
  t4 := Tryz.underlying4
  a4 := Tryz.isAgg4
  z4 := Tryz.sizeOf4
  v4 := Tryz.zeroValue4
  t5 := Tryz.underlying5
  a5 := Tryz.isAgg5
  z5 := Tryz.sizeOf5
  v5 := Tryz.zeroValue5
  t9 := Tryz.underlying9
  a9 := Tryz.isAgg9
  z9 := Tryz.sizeOf9
  v9 := Tryz.zeroValue9
  t20 := Tryz.underlying20
  a20 := Tryz.isAgg20
  z20 := Tryz.sizeOf20
  v20 := Tryz.zeroValue20
  t37 := Tryz.underlying70
  a37 := Tryz.isAgg70
  z37 := Tryz.sizeOf70
  v37 := Tryz.zeroValue70
  t46 := Tryz.underlying65
  a46 := Tryz.isAgg65
  z46 := Tryz.sizeOf65
  v46 := Tryz.zeroValue65
  t51 := Tryz.underlying109
  a51 := Tryz.isAgg109
  z51 := Tryz.sizeOf109
  v51 := Tryz.zeroValue109
  t53 := Tryz.underlying25
  a53 := Tryz.isAgg25
  z53 := Tryz.sizeOf25
  v53 := Tryz.zeroValue25
  t70 := Tryz.underlying69
  a70 := Tryz.isAgg69
  z70 := Tryz.sizeOf69
  v70 := Tryz.zeroValue69
  t72 := Tryz.underlying72
  a72 := Tryz.isAgg72
  z72 := Tryz.sizeOf72
  v72 := Tryz.zeroValue72
  t75 := Tryz.underlying75
  a75 := Tryz.isAgg75
  z75 := Tryz.sizeOf75
  v75 := Tryz.zeroValue75
  t76 := Tryz.underlying76
  a76 := Tryz.isAgg76
  z76 := Tryz.sizeOf76
  v76 := Tryz.zeroValue76
  t109 := Tryz.underlying66
  a109 := Tryz.isAgg66
  z109 := Tryz.sizeOf66
  v109 := Tryz.zeroValue66
  t127 := Tryz.underlying114
  a127 := Tryz.isAgg114
  z127 := Tryz.sizeOf114
  v127 := Tryz.zeroValue114
  t146 := Tryz.underlying110
  a146 := Tryz.isAgg110
  z146 := Tryz.sizeOf110
  v146 := Tryz.zeroValue110
  t148 := Tryz.underlying112
  a148 := Tryz.isAgg112
  z148 := Tryz.sizeOf112
  v148 := Tryz.zeroValue112
  t164 := Tryz.underlying134
  a164 := Tryz.isAgg134
  z164 := Tryz.sizeOf134
  v164 := Tryz.zeroValue134 }
theorem Tryz.Builder_Extra_105 : Builder.Extra Tryz.prog Tryz.lays105_ren := {
  sizeBuilder := by kernel_rfl
  liesBuilder := by kernel_rfl
  t5 := Tryz.underlying5
  a5 := Tryz.isAgg5
  z5 := Tryz.sizeOf5
  v5 := Tryz.zeroValue5
  infoByte := by kernel_rfl
  cellsByte := by kernel_rfl
  sizeByte := by kernel_rfl
  neB5 := by decide }
open Go.RowKit Go.Lib in
theorem Tryz.strings_Repeat (s : ByteArray) (c : Nat) (w : World) (hc : c ≤ 9223372036854775807) (hlen : s.size * c ≤ 140737488355328) :
    Calls Tryz.prog 22 #[.string s, .int .i64 c] w fun e w' => e = .returned (.string ⟨(Lib.repeatL s.data.toList c).toArray⟩) ∧ Below w.heap.size w w' := Any.strings_Repeat Tryz.lays105 Tryz.Builder_Extra_105 s c w hc hlen
end Go.Proofs
set_option maxHeartbeats 4000000
set_option maxRecDepth 4000
set_option exponentiation.threshold 300000
set_option linter.unusedVariables false
set_option linter.unusedSimpArgs false
namespace Go.Proofs.YtmoilbeomnapfaaGreatDoor
open Go Go.PV
theorem meets_lib1 {f : FuncId} {fn : Func} {c : Code} {args : List PV} {res : PV} (hf : Tryz.prog.funcs[f]? = some fn) (hname : (fn.name == "runtime.NumGoroutine") = false) (hb : fn.body = some c)
    (h : ∀ (w : World) (A : Nat → Prop) (vs : Array Value), args.length = vs.size → (∀ i, i < args.length → RD w A (args.getD i .undef) (vs.getD i undef)) →
      ∃ v, (∀ w' A, RD w' A res v) ∧ Calls Tryz.prog f vs w fun e w' => e = .returned v ∧ Go.RowKit.Below w.heap.size w w') : Meets Tryz.prog f args res := by
  refine ⟨fun w A vs hA hl ha => ?_⟩
  obtain ⟨v, hv, hc⟩ := h w A vs hl ha
  exact .inl ⟨call_enters hf hname hb vs w, hc.mono fun e w' ⟨he, hbel⟩ => ⟨v, he, hbel, hv _ _⟩⟩
theorem lite_clone (s : List Int) (hsl : s.length ≤ 281474976710656) : Meets Tryz.prog 142 [.str s] (.str s) := by
  refine meets_lib1 Tryz.func142 (by kernel_rfl) (c := _) rfl fun w A vs hl ha => ?_
  have hs : vs.size = 1 := by simpa using hl.symm
  obtain ⟨u, rfl⟩ : ∃ u, vs = #[u] := ⟨vs[0], Array.ext (by simp [hs]) fun i h1 h2 => by
    match i, h1 with
    | 0, _ => rfl
    | i + 1, h1 => omega⟩
  have h1 := ha 0 (by simp)
  have h1 : RD w A (.str s) u := by simpa using h1
  cases h1 with
  | str b _ h =>
    refine ⟨.string b, fun w' A => .str _ _ h, Tryz.stringslite_Clone b w ?_⟩
    have := bytesI_length b
    rw [h] at this
    omega
theorem str_clone (s : List Int) (hsl : s.length ≤ 281474976710656) : Meets Tryz.prog 104 [.str s] (.str s) := by
  have h1 := lite_clone s hsl
  refine meets_by ttOk Tryz.func104 Tryz.ntmps104 Tryz.results104 (by kernel_rfl) (c := _) rfl rfl rfl fun E => ?_
  simp only [argsFrame]
  repeat' first
    | (with_reducible first | refine PW.seq ?_ | refine PW.block ?_ | refine PW.fork ?_ | refine PW.skip ?_ | refine PW.exit ?_ | refine PW.ret ?_) | ((with_reducible refine PW.region ttOk ?_ ?_); rfl) | ((with_reducible refine PW.regionD ttOk mixed ?_ ?_ ?_); rfl; rfl) | (with_reducible refine ifW_dec (fun g => ?_) (fun g => ?_) <;> first | (exfalso; omega) | (simp -dsimp only [g, wkI])) | ((with_reducible first | refine condE_dec (fun g => ?_) (fun g => ?_) | refine condE_not (fun g => ?_) (fun g => ?_)) <;> try (exfalso; omega)) | (simp -dsimp only [↓wkA, ↓wkE, ↓wkJ, wkB, ↓tt, Nat.reduceBEq, Nat.reduceEqDiff, ↓reduceIte, Nat.reduceLT, Array.toList, Nat.reduceAdd, Nat.reduceMul, Int.reduceToNat, Int.reducePow, UInt8.reduceToNat]) | (refine call_by (h1) (views_data rfl) ⟨trivial, trivial⟩ rfl ?_) | (refine callD_by (h1) (views_data rfl) ⟨trivial, trivial⟩ rfl ?_) | (simp -dsimp (disch := first | assumption | omega) only [dec_t, dec_f])
    | (refine And.intro ?_ ?_
       · first | omega | decide | (simp (disch := omega) only [wkW, Int.reduceToNat, Int.reducePow] <;> omega) | (simp <;> omega)) | (simp (disch := omega) only [wkW, Int.reduceToNat, Int.reducePow])
def isDig (x : Int) : Prop := 48 ≤ x ∧ x ≤ 57
instance (x : Int) : Decidable (isDig x) := inferInstanceAs (Decidable (_ ∧ _))
theorem digit_at (s : List Int) (i : Nat) (hi : i < s.length) (hsl : s.length ≤ 281474976710656) : Meets Tryz.prog 62 [.str s, .int .i64 (i : Int)] (.bool (decide (isDig (s.getD i 0)))) := by
  have d1 : decide ((i : Int) < (s.length : Int)) = true := decide_eq_true (by omega)
  rw [show decide (isDig (s.getD i 0)) = (decide (48 ≤ s.getD i 0) && decide (s.getD i 0 ≤ 57)) from Bool.decide_and ..]
  by_cases h1 : 48 ≤ s.getD i 0
  case' pos => have d2 : decide (48 ≤ s.getD i 0) = true := decide_eq_true h1
  case' neg => have d2 : decide (48 ≤ s.getD i 0) = false := decide_eq_false h1
  all_goals rw [d2]
  all_goals (refine meets_by ttOk Tryz.func62 Tryz.ntmps62 Tryz.results62 (by kernel_rfl) (c := _) rfl rfl rfl fun E => ?_; simp only [argsFrame])
  all_goals
    repeat' first
      | (with_reducible first | refine PW.seq ?_ | refine PW.block ?_ | refine PW.fork ?_ | refine PW.skip ?_ | refine PW.exit ?_ | refine PW.ret ?_) | (simp only [d1, d2, Int.toNat_natCast, Bool.true_and, Bool.false_and]) | ((with_reducible refine PW.region ttOk ?_ ?_); rfl) | ((with_reducible refine PW.regionD ttOk mixed ?_ ?_ ?_); rfl; rfl) | (with_reducible refine ifW_dec (fun g => ?_) (fun g => ?_) <;> first | (exfalso; omega) | (simp -dsimp only [g, wkI])) | ((with_reducible first | refine condE_dec (fun g => ?_) (fun g => ?_) | refine condE_not (fun g => ?_) (fun g => ?_)) <;> try (exfalso; omega)) | (simp -dsimp only [↓wkA, ↓wkE, ↓wkJ, wkB, ↓tt, Nat.reduceBEq, Nat.reduceEqDiff, ↓reduceIte, Nat.reduceLT, Array.toList, Nat.reduceAdd, Nat.reduceMul, Int.reduceToNat, Int.reducePow, UInt8.reduceToNat]) | (simp -dsimp (disch := first | assumption | omega) only [dec_t, dec_f])
      | (refine And.intro ?_ ?_
         · first | omega | decide | (simp (disch := omega) only [wkW, Int.reduceToNat, Int.reducePow] <;> omega) | (simp <;> omega)) | (simp (disch := omega) only [wkW, Int.reduceToNat, Int.reducePow])
theorem headL_le (c : Int) : ∀ l : List Int, (headL c l).length ≤ l.length
  | [] => Nat.le_refl _
  | x :: r => by
    rw [headL]
    split
    · have := headL_le c r; simp; omega
    · exact Nat.le_refl _
def normS (s : List Int) : List Int := if headL 48 s = [] then [48] else (headL 48 s).take (endN (headL 48 s) 48 (headL 48 s).length)
def normX (s : List Int) (x : Int) : Int := if headL 48 s = [] then 0 else x + (headL 48 s).length - endN (headL 48 s) 48 (headL 48 s).length
theorem scan_normal (neg : Bool) (s : List Int) (x : Int) (hx : -1152921504606846976 ≤ x ∧ x ≤ 1152921504606846976) (hsl : s.length ≤ 281474976710656) :
    Meets Tryz.prog 63 [.agg [.bool neg, .str s, .int .i64 x]] (.agg [.bool neg, .str (normS s), .int .i64 (normX s x)]) := by
  have h1 := trim_left_zero s (by omega)
  have hl1 := headL_le 48 s
  have h2 := trim_right_zero (headL 48 s) (by omega)
  have hl2 := endN_le (headL 48 s) 48 (headL 48 s).length
  have h3 := str_clone ((headL 48 s).take (endN (headL 48 s) 48 (headL 48 s).length)) (by rw [List.length_take]; omega)
  have hl3 : ((headL 48 s).take (endN (headL 48 s) 48 (headL 48 s).length)).length = endN (headL 48 s) 48 (headL 48 s).length := by rw [List.length_take]; omega
  unfold normS normX
  generalize (headL 48 s).take (endN (headL 48 s) 48 (headL 48 s).length) = u at *
  generalize endN (headL 48 s) 48 (headL 48 s).length = k at *
  generalize headL 48 s = t at *
  have w1 : IntKind.wrap .i64 (x + (t.length : Int)) = x + t.length := wrap_i64 (by omega)
  have w2 : IntKind.wrap .i64 (x + (t.length : Int) - (k : Int)) = x + t.length - k := wrap_i64 (by omega)
  by_cases ht : t = []
  case' pos => rw [if_pos ht, if_pos ht]; have d1 : decide (t = []) = true := decide_eq_true ht
  case' neg => rw [if_neg ht, if_neg ht]; have d1 : decide (t = []) = false := decide_eq_false ht
  all_goals (refine meets_by ttOk Tryz.func63 Tryz.ntmps63 Tryz.results63 (by kernel_rfl) (c := _) rfl rfl rfl fun E => ?_; simp only [argsFrame])
  all_goals
    repeat' first
      | (with_reducible first | refine PW.seq ?_ | refine PW.block ?_ | refine PW.fork ?_ | refine PW.skip ?_ | refine PW.exit ?_ | refine PW.ret ?_) | (simp only [d1, w1, w2, hl3]) | ((with_reducible refine PW.region ttOk ?_ ?_); rfl)
      | (with_reducible refine PW.regionS ttOk mixed ?_ ?_ ?_ ?_
         · rfl
         · rfl
         · rfl) | ((with_reducible refine PW.regionD ttOk mixed ?_ ?_ ?_); rfl; rfl) | (with_reducible refine ifW_dec (fun g => ?_) (fun g => ?_) <;> first | (exfalso; omega) | (simp -dsimp only [g, wkI])) | ((with_reducible first | refine condE_dec (fun g => ?_) (fun g => ?_) | refine condE_not (fun g => ?_) (fun g => ?_)) <;> try (exfalso; omega)) | (simp -dsimp only [↓opsE_nil, ↓opsE_cons, ↓opsX_nil, ↓opsX_cons, same_self, and_true, true_and, ↓wkA, ↓wkE, ↓wkJ, wkB, ↓tt, Nat.reduceBEq, Nat.reduceEqDiff, ↓reduceIte, Nat.reduceLT, Array.toList, Nat.reduceAdd, Nat.reduceMul, Int.reduceToNat, Int.reducePow, UInt8.reduceToNat]) | (refine call_by (h1) (views_data rfl) ⟨trivial, trivial, trivial⟩ rfl ?_) | (refine call_by (h2) (views_data rfl) ⟨trivial, trivial, trivial⟩ rfl ?_) | (refine callD_by (h3) (views_data rfl) ⟨trivial, trivial⟩ rfl ?_) | (simp only [ne_eq, Nat.one_ne_zero, not_false_eq_true, true_and])
      | (refine And.intro (callD_by h3 (views_data rfl) ⟨trivial, trivial⟩ rfl ?_) ?_) | (simp -dsimp (disch := first | assumption | omega) only [dec_t, dec_f])
      | (refine And.intro ?_ ?_
         · first | omega | decide | (simp (disch := omega) only [wkW, Int.reduceToNat, Int.reducePow] <;> omega) | (simp <;> omega)) | (simp (disch := omega) only [wkW, Int.reduceToNat, Int.reducePow])
  all_goals exact Nat.le_refl _
def AllD (s : List Int) : Prop := ∀ j, j < s.length → isDig (s.getD j 0)
def InR (x : Int) : Prop := -1152921504606846976 ≤ x ∧ x ≤ 1152921504606846976
theorem scan_norm_loop (neg : Bool) (s : List Int) (x : Int) (hs : s ≠ []) (hx : InR x) (hsl : s.length ≤ 281474976710656) (u : List Int) (e : Int) (hn : AllD s → Meets Tryz.prog 63 [.agg [.bool neg, .str s, .int .i64 x]] (.agg [.bool neg, .str u, .int .i64 e])) (res : PV)
    (hr1 : ¬ AllD s → res = .tup [.agg [.bool false, .str [], .int .i64 0], .int .i64 80]) (hr2 : AllD s → 1152921504606846976 < e → res = .tup [.agg [.bool false, .str [], .int .i64 0], .int .i64 80]) (hr3 : AllD s → ¬ 1152921504606846976 < e → res = .tup [.agg [.bool neg, .str u, .int .i64 e], .int .i64 0]) :
    Meets Tryz.prog 29 [.agg [.bool neg, .str s, .int .i64 x]] res := by
  have d1 : decide (s = []) = false := decide_eq_false hs
  have d2 : decide (x < -1152921504606846976) = false := decide_eq_false (by have := hx.1; omega)
  have d3 : decide (1152921504606846976 < x) = false := decide_eq_false (by have := hx.2; omega)
  refine meets_by ttOk Tryz.func29 Tryz.ntmps29 Tryz.results29 (by kernel_rfl) (c := _) rfl rfl rfl fun E => ?_
  simp only [argsFrame]
  repeat' first
    | (with_reducible first | refine PW.seq ?_ | refine PW.block ?_ | refine PW.fork ?_ | refine PW.skip ?_ | refine PW.exit ?_ | refine PW.ret ?_) | (simp only [d1, d2, d3, Bool.or_false, Bool.or_self]) | ((with_reducible refine PW.region ttOk ?_ ?_); rfl) | ((with_reducible refine PW.regionD ttOk mixed ?_ ?_ ?_); rfl; rfl) | (with_reducible refine ifW_dec (fun g => ?_) (fun g => ?_) <;> first | (exfalso; omega) | (simp -dsimp only [g, wkI])) | ((with_reducible first | refine condE_dec (fun g => ?_) (fun g => ?_) | refine condE_not (fun g => ?_) (fun g => ?_)) <;> try (exfalso; omega)) | (simp -dsimp only [↓wkA, ↓wkE, ↓wkJ, wkB, ↓tt, Nat.reduceBEq, Nat.reduceEqDiff, ↓reduceIte, Nat.reduceLT, Array.toList, Nat.reduceAdd, Nat.reduceMul, Int.reduceToNat, Int.reducePow, UInt8.reduceToNat]) | (simp -dsimp (disch := first | assumption | omega) only [dec_t, dec_f])
    | (refine And.intro ?_ ?_
       · first | omega | decide | (simp (disch := omega) only [wkW, Int.reduceToNat, Int.reducePow] <;> omega) | (simp <;> omega)) | (simp (disch := omega) only [wkW, Int.reduceToNat, Int.reducePow])
  refine PW.loopA (fun m F H => ∃ i : Nat, i + m = s.length ∧ (∀ j, j < i → isDig (s.getD j 0)) ∧ F = [(23, .int .i64 (i : Int)), (22, .int .i64 (s.length : Int)), (3, .int .i64 0), (2, .ptr 1 0 0), (1, .ptr 0 0 0)] ∧ H = ⟨2, [(0, .var [.bool neg, .str s, .int .i64 x]), (1, .var [.bool false, .str [], .int .i64 0])], [], [(1, 31), (0, 31)]⟩) s.length [(23, .int .i64 ((0 : Nat) : Int)), (22, .int .i64 (s.length : Int)), (3, .int .i64 0), (2, .ptr 1 0 0), (1, .ptr 0 0 0)] ⟨2, [(0, .var [.bool neg, .str s, .int .i64 x]), (1, .var [.bool false, .str [], .int .i64 0])], [], [(1, 31), (0, 31)]⟩ (Sub.norm ⟨rfl, rfl, rfl, rfl, rfl, trivial⟩ ⟨rfl, rfl, trivial⟩ (Nat.le_refl _) rfl rfl rfl rfl (tyOk_spec rfl)) ⟨0, by omega, fun j hj => by omega, rfl, rfl⟩ ?_
  rintro m F H ⟨i, hi, hd, rfl, rfl⟩
  cases m with
  | zero =>
    have e0 : i = s.length := by omega
    have hA : AllD s := fun j hj => hd j (by omega)
    have d4 : decide ((i : Int) < (s.length : Int)) = false := decide_eq_false (by omega)
    replace hn := hn hA
    replace hr2 := hr2 hA
    replace hr3 := hr3 hA
    by_cases h5 : 1152921504606846976 < e
    case' pos => replace hr2 := hr2 h5; subst hr2; have d5 : decide (1152921504606846976 < e) = true := decide_eq_true h5
    case' neg => replace hr3 := hr3 h5; subst hr3; have d5 : decide (1152921504606846976 < e) = false := decide_eq_false h5
    all_goals clear hd hi h5
    all_goals
      repeat' first
        | (with_reducible first | refine PW.seq ?_ | refine PW.block ?_ | refine PW.fork ?_ | refine PW.skip ?_ | refine PW.exit ?_ | refine PW.ret ?_) | (simp only [d4, d5]) | ((with_reducible refine PW.region ttOk ?_ ?_); rfl)
        | (refine PW.regionA ttOk mixed rfl rfl rfl rfl rfl rfl rfl ?_) | ((with_reducible refine PW.regionD ttOk mixed ?_ ?_ ?_); rfl; rfl) | (with_reducible refine ifW_dec (fun g => ?_) (fun g => ?_) <;> first | (exfalso; omega) | (simp -dsimp only [g, wkI])) | ((with_reducible first | refine condE_dec (fun g => ?_) (fun g => ?_) | refine condE_not (fun g => ?_) (fun g => ?_)) <;> try (exfalso; omega)) | (simp -dsimp only [↓opsA_nil, ↓opsA_cons, same_self, and_true, true_and, ↓wkA, ↓wkE, ↓wkJ, wkB, ↓tt, Nat.reduceBEq, Nat.reduceEqDiff, ↓reduceIte, Nat.reduceLT, Array.toList, Nat.reduceAdd, Nat.reduceMul, Int.reduceToNat, Int.reducePow, UInt8.reduceToNat]) | (refine call_by (hn) (views_data rfl) (by simp only [okViews, okView, okViews0, okView0, and_self]) rfl ?_) | (simp -dsimp (disch := first | assumption | omega) only [dec_t, dec_f])
        | (refine And.intro ?_ ?_
           · first | omega | decide | (simp (disch := omega) only [wkW, Int.reduceToNat, Int.reducePow] <;> omega) | (simp <;> omega)) | (simp (disch := omega) only [wkW, Int.reduceToNat, Int.reducePow])
  | succ m =>
    have d4 : decide ((i : Int) < (s.length : Int)) = true := decide_eq_true (by omega)
    have hg := digit_at s i (by omega) hsl
    have w1 : IntKind.wrap .i64 ((i : Int) + 1) = ((i + 1 : Nat) : Int) := wrap_i64 (by omega)
    by_cases h5 : isDig (s.getD i 0)
    case' pos => rw [decide_eq_true h5] at hg
    case' neg => rw [decide_eq_false h5] at hg; have h6 := hr1 fun h => h5 (h i (by omega)); subst h6
    all_goals
      repeat' first
        | (with_reducible first | refine PW.seq ?_ | refine PW.block ?_ | refine PW.fork ?_ | refine PW.skip ?_ | refine PW.exit ?_ | refine PW.ret ?_) | (simp only [d4, w1, Bool.not_true, Bool.not_false]) | ((with_reducible refine PW.region ttOk ?_ ?_); rfl) | ((with_reducible refine PW.regionD ttOk mixed ?_ ?_ ?_); rfl; rfl) | (with_reducible refine ifW_dec (fun g => ?_) (fun g => ?_) <;> first | (exfalso; omega) | (simp -dsimp only [g, wkI])) | ((with_reducible first | refine condE_dec (fun g => ?_) (fun g => ?_) | refine condE_not (fun g => ?_) (fun g => ?_)) <;> try (exfalso; omega)) | (simp -dsimp only [↓wkA, ↓wkE, ↓wkJ, wkB, ↓tt, Nat.reduceBEq, Nat.reduceEqDiff, ↓reduceIte, Nat.reduceLT, Array.toList, Nat.reduceAdd, Nat.reduceMul, Int.reduceToNat, Int.reducePow, UInt8.reduceToNat]) | (refine call_by (hg) (views_data rfl) ⟨trivial, trivial, trivial⟩ rfl ?_) | (simp -dsimp (disch := first | assumption | omega) only [dec_t, dec_f])
        | (refine And.intro ?_ ?_
           · first | omega | decide | (simp (disch := omega) only [wkW, Int.reduceToNat, Int.reducePow] <;> omega) | (simp <;> omega)) | (simp (disch := omega) only [wkW, Int.reduceToNat, Int.reducePow])
    exact Again.mk m [(23, .int .i64 ((i + 1 : Nat) : Int)), (22, .int .i64 (s.length : Int)), (3, .int .i64 0), (2, .ptr 1 0 0), (1, .ptr 0 0 0)] ⟨2, [(0, .var [.bool neg, .str s, .int .i64 x]), (1, .var [.bool false, .str [], .int .i64 0])], [], [(1, 31), (0, 31)]⟩ (by omega) (Sub.norm ⟨rfl, rfl, rfl, rfl, rfl, trivial⟩ ⟨rfl, rfl, trivial⟩ (Nat.le_refl _) rfl rfl rfl rfl (tyOk_spec rfl)) ⟨i + 1, by omega, fun j hj => by
      rcases Nat.lt_succ_iff_lt_or_eq.1 hj with h | rfl
      · exact hd j h
      · exact h5, rfl, rfl⟩
def NormOk (s : List Int) (x : Int) : Prop := s ≠ [] ∧ InR x ∧ AllD s ∧ normX s x ≤ 1152921504606846976
theorem scan_norm_ok (neg : Bool) {s : List Int} {x : Int} (h : NormOk s x) (hsl : s.length ≤ 281474976710656) : Meets Tryz.prog 29 [.agg [.bool neg, .str s, .int .i64 x]] (.tup [.agg [.bool neg, .str (normS s), .int .i64 (normX s x)], .int .i64 0]) :=
  scan_norm_loop neg s x h.1 h.2.1 hsl (normS s) (normX s x) (fun _ => scan_normal neg s x h.2.1 hsl) _ (fun hn => absurd h.2.2.1 hn) (fun _ hn => by have := h.2.2.2; omega) (fun _ _ => rfl)
theorem short_leading (d : Nat) (hd : d < 18446744073709551616) (hf : finD d) (h0 : absD d ≠ 0) (k : Int) (hk : -400 ≤ k ∧ k < 400) (hT : Ten (4 * mantD d) (spE d) k) : Meets Tryz.prog 27 [.int .u64 (d : Int)] (.int .i64 k) := by
  have hdc := ieee_decode d hd
  obtain ⟨p1, p2⟩ := parts_fin hf h0
  unfold partsP at hdc
  rw [p1, p2] at hdc
  have hm0 : mantD d ≠ 0 := fun e => h0 (mantD_zero.1 e)
  have hml := mantD_lt d
  have he1 := expD_ge d
  have he2 := expD_le hf
  have hbl := nat_bitlen (mantD d) (nmax_of (k := 53) (by simpa using hml) (by decide))
  rw [natL_one (mantD d) ⟨by omega, by omega⟩] at hbl
  have hb53 : bitlen (mantD d) ≤ 53 := bitlen_le (by simpa using hml)
  obtain ⟨b, hb1, _, _⟩ := bitlen_spec hm0
  obtain ⟨z, hz⟩ : ∃ z, (bitlen (mantD d) : Int) + expD d - 1 = z := ⟨_, rfl⟩
  have hz2 : -1074 ≤ z ∧ z < 1026 := by omega
  have hge : GeT (4 * mantD d) (spE d) (startS z) := start_ge hm0 hz hz2
  have hs340 := (start_at hz2).2
  have hsk : startS z ≤ k := by
    refine Int.not_lt.1 fun h => ?_
    exact hT.hi (ge_le hge (by omega))
  have hsc := fun i (hi : -420 ≤ i ∧ i ≤ 420) => short_scaled d hd hf h0 i hi
  have he : -1100 ≤ spE d ∧ spE d ≤ 1000 := by unfold spE; omega
  have hm100 : 4 * mantD d < 2 ^ 100 := Nat.lt_of_lt_of_le (show 4 * mantD d < 1152921504606846976 by omega) (by decide)
  have hcmp := fun i (hi : -420 ≤ i ∧ i ≤ 420) => cmp_natU (u := 4 * mantD d * upS (spE d) i) (v := beS (spE d) i) (nmax_mul hm100 (upS_lt he.2 hi.1)) (nmax_of (beS_lt he.1 hi.2) (by decide))
  have hlow : ∀ i, i < k → ¬ cmpU (4 * mantD d * upS (spE d) (i + 1)) (beS (spE d) (i + 1)) < 0 := fun i hi => by
    have h := ge_le hT.lo (show i + 1 ≤ k by omega)
    unfold GeT at h
    rcases cmpU_cases (4 * mantD d * upS (spE d) (i + 1)) (beS (spE d) (i + 1)) with ⟨_, h2⟩ | ⟨h1, _⟩ | ⟨h1, _⟩
    · omega
    · rw [h1]; decide
    · rw [h1]; decide
  have hhigh : cmpU (4 * mantD d * upS (spE d) (k + 1)) (beS (spE d) (k + 1)) < 0 := by
    have h := hT.hi
    unfold GeT at h
    rcases cmpU_cases (4 * mantD d * upS (spE d) (k + 1)) (beS (spE d) (k + 1)) with ⟨h1, _⟩ | ⟨_, h2⟩ | ⟨_, h2⟩
    · rw [h1]; decide
    · omega
    · omega
  have w1 : IntKind.wrap .i64 ((bitlen (mantD d) : Int) + expD d) = z + 1 := by rw [wrap_i64 (by omega)]; omega
  have w2 : IntKind.wrap .i64 (z + 1 - 1) = z := by rw [wrap_i64 (by omega)]; omega
  have w3 : IntKind.wrap .i64 (z * 30103) = z * 30103 := wrap_i64 (by omega)
  have hss : startS z = (z * 30103).tdiv 100000 - 2 := rfl
  have w4 : IntKind.wrap .i64 ((z * 30103).tdiv 100000) = (z * 30103).tdiv 100000 := wrap_i64 (by omega)
  have w5 : IntKind.wrap .i64 ((z * 30103).tdiv 100000 - 2) = startS z := by rw [hss]; exact wrap_i64 (by omega)
  generalize startS z = s0 at *
  obtain ⟨q0, hq0⟩ : ∃ q0, (z * 30103).tdiv 100000 = q0 := ⟨_, rfl⟩
  rw [hq0] at w4 w5
  clear hT hge hss hz
  generalize spE d = sp at *
  generalize lowM d = lw at *
  generalize mantD d = M at *
  generalize expD d = E at *
  generalize classD d = cl at *
  refine meets_by ttOk Tryz.func27 Tryz.ntmps27 Tryz.results27 (by kernel_rfl) (c := _) rfl rfl rfl fun E => ?_
  simp only [argsFrame]
  repeat' first
    | (with_reducible first | refine PW.seq ?_ | refine PW.block ?_ | refine PW.fork ?_ | refine PW.skip ?_ | refine PW.exit ?_ | refine PW.ret ?_) | (simp only [w1, w2, w3, w4, w5, hq0]) | ((with_reducible refine PW.region ttOk ?_ ?_); rfl) | ((with_reducible refine PW.regionD ttOk mixed ?_ ?_ ?_); rfl; rfl) | (with_reducible refine ifW_dec (fun g => ?_) (fun g => ?_) <;> first | (exfalso; omega) | (simp -dsimp only [g, wkI])) | ((with_reducible first | refine condE_dec (fun g => ?_) (fun g => ?_) | refine condE_not (fun g => ?_) (fun g => ?_)) <;> try (exfalso; omega)) | (simp -dsimp only [↓wkA, ↓wkE, ↓wkJ, wkB, ↓tt, Nat.reduceBEq, Nat.reduceEqDiff, ↓reduceIte, Nat.reduceLT, Array.toList, Nat.reduceAdd, Nat.reduceMul, Int.reduceToNat, Int.reducePow, UInt8.reduceToNat]) | (refine call_by (hdc) (views_data rfl) ⟨trivial, trivial⟩ rfl ?_) | (refine callD_by (hbl) (views_data rfl) ⟨trivial, trivial⟩ rfl ?_) | (simp -dsimp (disch := first | assumption | omega) only [dec_t, dec_f])
    | (refine And.intro ?_ ?_
       · first | omega | decide | (simp (disch := omega) only [wkW, Int.reduceToNat, Int.reducePow] <;> omega) | (simp <;> omega)) | (simp (disch := omega) only [wkW, Int.reduceToNat, Int.reducePow])
  refine PW.loopA (fun m F H => ∃ i : Int, i + (m : Int) = k ∧ s0 ≤ i ∧ F = [(5, .int .i64 i), (0, .int .u64 (d : Int))] ∧ H = ⟨0, [], [], []⟩) (k - s0).toNat [(5, .int .i64 s0), (0, .int .u64 (d : Int))] ⟨0, [], [], []⟩ (Sub.norm ⟨rfl, rfl, trivial⟩ trivial (by simp) rfl rfl rfl rfl) ⟨s0, by omega, by omega, rfl, rfl⟩ ?_
  rintro m F H ⟨i, hi, hi2, rfl, rfl⟩
  have w6 : IntKind.wrap .i64 (i + 1) = i + 1 := wrap_i64 (by omega)
  have h1 := hsc (i + 1) (by omega)
  have h2 := hcmp (i + 1) (by omega)
  cases m with
  | zero =>
    obtain rfl : i = k := by omega
    have d1 : decide (cmpU (4 * M * upS sp (i + 1)) (beS sp (i + 1)) < 0) = true := decide_eq_true hhigh
    clear hsc hcmp hlow hhigh
    generalize cmpU (4 * M * upS sp (i + 1)) (beS sp (i + 1)) = c at *
    generalize natL (lw * upS sp (i + 1)) = L1 at *
    generalize natL (4 * M * upS sp (i + 1)) = L2 at *
    generalize natL ((4 * M + 2) * upS sp (i + 1)) = L3 at *
    generalize natL (beS sp (i + 1)) = L4 at *
    repeat' first
      | (with_reducible first | refine PW.seq ?_ | refine PW.block ?_ | refine PW.fork ?_ | refine PW.skip ?_ | refine PW.exit ?_ | refine PW.ret ?_) | (simp only [w6, d1]) | ((with_reducible refine PW.region ttOk ?_ ?_); rfl) | ((with_reducible refine PW.regionD ttOk mixed ?_ ?_ ?_); rfl; rfl) | (with_reducible refine ifW_dec (fun g => ?_) (fun g => ?_) <;> first | (exfalso; omega) | (simp -dsimp only [g, wkI])) | ((with_reducible first | refine condE_dec (fun g => ?_) (fun g => ?_) | refine condE_not (fun g => ?_) (fun g => ?_)) <;> try (exfalso; omega)) | (simp -dsimp only [↓wkA, ↓wkE, ↓wkJ, wkB, ↓tt, Nat.reduceBEq, Nat.reduceEqDiff, ↓reduceIte, Nat.reduceLT, Array.toList, Nat.reduceAdd, Nat.reduceMul, Int.reduceToNat, Int.reducePow, UInt8.reduceToNat]) | (refine call_by (h1) (views_data rfl) ⟨trivial, trivial, trivial⟩ rfl ?_) | (refine call_by (h2) (views_data rfl) ⟨trivial, trivial, trivial⟩ rfl ?_) | (simp -dsimp (disch := first | assumption | omega) only [dec_t, dec_f])
      | (refine And.intro ?_ ?_
         · first | omega | decide | (simp (disch := omega) only [wkW, Int.reduceToNat, Int.reducePow] <;> omega) | (simp <;> omega)) | (simp (disch := omega) only [wkW, Int.reduceToNat, Int.reducePow])
  | succ m =>
    have d1 : decide (cmpU (4 * M * upS sp (i + 1)) (beS sp (i + 1)) < 0) = false := decide_eq_false (hlow i (by omega))
    clear hsc hcmp hlow hhigh
    generalize cmpU (4 * M * upS sp (i + 1)) (beS sp (i + 1)) = c at *
    generalize natL (lw * upS sp (i + 1)) = L1 at *
    generalize natL (4 * M * upS sp (i + 1)) = L2 at *
    generalize natL ((4 * M + 2) * upS sp (i + 1)) = L3 at *
    generalize natL (beS sp (i + 1)) = L4 at *
    repeat' first
      | (with_reducible first | refine PW.seq ?_ | refine PW.block ?_ | refine PW.fork ?_ | refine PW.skip ?_ | refine PW.exit ?_ | refine PW.ret ?_) | (simp only [w6, d1]) | ((with_reducible refine PW.region ttOk ?_ ?_); rfl) | ((with_reducible refine PW.regionD ttOk mixed ?_ ?_ ?_); rfl; rfl) | (with_reducible refine ifW_dec (fun g => ?_) (fun g => ?_) <;> first | (exfalso; omega) | (simp -dsimp only [g, wkI])) | ((with_reducible first | refine condE_dec (fun g => ?_) (fun g => ?_) | refine condE_not (fun g => ?_) (fun g => ?_)) <;> try (exfalso; omega)) | (simp -dsimp only [↓wkA, ↓wkE, ↓wkJ, wkB, ↓tt, Nat.reduceBEq, Nat.reduceEqDiff, ↓reduceIte, Nat.reduceLT, Array.toList, Nat.reduceAdd, Nat.reduceMul, Int.reduceToNat, Int.reducePow, UInt8.reduceToNat]) | (refine call_by (h1) (views_data rfl) ⟨trivial, trivial, trivial⟩ rfl ?_) | (refine call_by (h2) (views_data rfl) ⟨trivial, trivial, trivial⟩ rfl ?_) | (simp -dsimp (disch := first | assumption | omega) only [dec_t, dec_f])
      | (refine And.intro ?_ ?_
         · first | omega | decide | (simp (disch := omega) only [wkW, Int.reduceToNat, Int.reducePow] <;> omega) | (simp <;> omega)) | (simp (disch := omega) only [wkW, Int.reduceToNat, Int.reducePow])
    exact Again.mk m [(5, .int .i64 (i + 1)), (0, .int .u64 (d : Int))] ⟨0, [], [], []⟩ (by omega) (Sub.norm ⟨rfl, rfl, trivial⟩ trivial (by simp) rfl rfl rfl rfl) ⟨i + 1, by omega, by omega, rfl, rfl⟩
theorem within_walk (d n lead j : Int) (neg : Bool) (L1 V L3 B K R N T2 Best : List Int) (cl u o : Bool) (c odd : Int) (s t : List Int) (y : Int) (res : PV)
    (hj1 : IntKind.wrap .i64 (lead + 1) = lead + 1) (hj : IntKind.wrap .i64 (lead + 1 - n) = j) (hneg : decide (9223372036854775808 ≤ d) = neg)
    (h1 : Meets Tryz.prog 54 [.int .u64 d, .int .i64 j] (.agg [.ints .u64 L1, .ints .u64 V, .ints .u64 L3, .ints .u64 B, .bool cl]))
    (h2 : Meets Tryz.prog 56 [.ints .u64 V, .ints .u64 B] (.tup [.ints .u64 K, .ints .u64 R, .int .i64 0]))
    (h3 : Meets Tryz.prog 57 [.ints .u64 K, .ints .u64 [1]] (.tup [.ints .u64 N, .int .i64 0]))
    (h4 : Meets Tryz.prog 58 [.agg [.ints .u64 L1, .ints .u64 V, .ints .u64 L3, .ints .u64 B, .bool cl], .ints .u64 K] (.bool u))
    (h5 : Meets Tryz.prog 58 [.agg [.ints .u64 L1, .ints .u64 V, .ints .u64 L3, .ints .u64 B, .bool cl], .ints .u64 N] (.bool o))
    (h6 : Meets Tryz.prog 59 [.ints .u64 R, .int .i64 1] (.ints .u64 T2)) (h7 : Meets Tryz.prog 55 [.ints .u64 T2, .ints .u64 B] (.int .i64 c)) (h8 : Meets Tryz.prog 60 [.ints .u64 K, .int .i64 0] (.int .i64 odd))
    (hb : (u = false ∧ o = false ∧ res = .tup [.agg [.bool false, .str [], .int .i64 0], .bool false]) ∨ (u = false ∧ o = true ∧ N = Best ∧ res = .tup [.agg [.bool neg, .str t, .int .i64 y], .bool true]) ∨ (u = true ∧ o = false ∧ K = Best ∧ res = .tup [.agg [.bool neg, .str t, .int .i64 y], .bool true]) ∨
      (u = true ∧ o = true ∧ c = 1 ∧ N = Best ∧ res = .tup [.agg [.bool neg, .str t, .int .i64 y], .bool true]) ∨ (u = true ∧ o = true ∧ c = 0 ∧ odd = 1 ∧ N = Best ∧ res = .tup [.agg [.bool neg, .str t, .int .i64 y], .bool true]) ∨ (u = true ∧ o = true ∧ c = 0 ∧ odd = 0 ∧ K = Best ∧ res = .tup [.agg [.bool neg, .str t, .int .i64 y], .bool true]) ∨ (u = true ∧ o = true ∧ c = -1 ∧ K = Best ∧ res = .tup [.agg [.bool neg, .str t, .int .i64 y], .bool true]))
    (h9 : Meets Tryz.prog 61 [.ints .u64 Best] (.tup [.str s, .int .i64 0])) (h10 : Meets Tryz.prog 29 [.agg [.bool neg, .str s, .int .i64 j]] (.tup [.agg [.bool neg, .str t, .int .i64 y], .int .i64 0])) :
    Meets Tryz.prog 28 [.int .u64 d, .int .i64 n, .int .i64 lead] res := by
  rcases hb with ⟨rfl, rfl, rfl⟩ | ⟨rfl, rfl, rfl, rfl⟩ | ⟨rfl, rfl, rfl, rfl⟩ | ⟨rfl, rfl, rfl, rfl, rfl⟩ | ⟨rfl, rfl, rfl, rfl, rfl, rfl⟩ | ⟨rfl, rfl, rfl, rfl, rfl, rfl⟩ | ⟨rfl, rfl, rfl, rfl, rfl⟩
  all_goals (refine meets_by ttOk Tryz.func28 Tryz.ntmps28 Tryz.results28 (by kernel_rfl) (c := _) rfl rfl rfl fun E => ?_; simp only [argsFrame])
  all_goals
    repeat' first
      | (with_reducible first | refine PW.seq ?_ | refine PW.block ?_ | refine PW.fork ?_ | refine PW.skip ?_ | refine PW.exit ?_ | refine PW.ret ?_) | (simp only [hj1, hj, hneg]) | ((with_reducible refine PW.region ttOk ?_ ?_); rfl) | ((with_reducible refine PW.regionD ttOk mixed ?_ ?_ ?_); rfl; rfl) | (with_reducible refine ifW_dec (fun g => ?_) (fun g => ?_) <;> first | (exfalso; omega) | (simp -dsimp only [g, wkI])) | ((with_reducible first | refine condE_dec (fun g => ?_) (fun g => ?_) | refine condE_not (fun g => ?_) (fun g => ?_)) <;> try (exfalso; omega)) | (simp -dsimp only [↓wkA, ↓wkE, ↓wkJ, wkB, ↓tt, Nat.reduceBEq, Nat.reduceEqDiff, ↓reduceIte, Nat.reduceLT, Array.toList, Nat.reduceAdd, Nat.reduceMul, Int.reduceToNat, Int.reducePow, UInt8.reduceToNat]) | (refine call_by (h1) (views_data rfl) ⟨trivial, trivial, trivial⟩ rfl ?_) | (refine call_by (h2) (views_data rfl) ⟨trivial, trivial, trivial⟩ rfl ?_) | (refine call_drop (args' := [.ints .u64 K, .ints .u64 [1]]) rfl h3 ⟨trivial, Nat.le_refl _, trivial⟩ rfl ?_; simp only [wkD, Nat.reduceBEq]) | (refine callD_by (h4) (views_data rfl) (by simp only [okViews, okView, okViews0, okView0, and_self]) rfl ?_) | (refine callD_by (h5) (views_data rfl) (by simp only [okViews, okView, okViews0, okView0, and_self]) rfl ?_) | (refine call_by (h6) (views_data rfl) ⟨trivial, trivial, trivial⟩ rfl ?_) | (refine call_by (h7) (views_data rfl) ⟨trivial, trivial, trivial⟩ rfl ?_) | (refine call_by (h8) (views_data rfl) ⟨trivial, trivial, trivial⟩ rfl ?_) | (refine call_by (h9) (views_data rfl) ⟨trivial, trivial⟩ rfl ?_) | (refine call_by (h10) (views_data rfl) (by simp only [okViews, okView, okViews0, okView0, and_self]) rfl ?_) | (simp -dsimp (disch := first | assumption | omega) only [dec_t, dec_f])
      | (refine And.intro ?_ ?_
         · first | omega | decide | (simp (disch := omega) only [wkW, Int.reduceToNat, Int.reducePow] <;> omega) | (simp <;> omega)) | (simp (disch := omega) only [wkW, Int.reduceToNat, Int.reducePow])
  all_goals trace_state
theorem ref02_divide {u v : Nat} (hu : u < 2 ^ 2700) (hv0 : v ≠ 0) (hvu : v ≤ u) : Meets Tryz.prog 68 [.ints .u64 (natL u), .ints .u64 (natL v)] (.tup [.ints .u64 (natL (u / v)), .ints .u64 (natL (u % v))]) := by
  have e43 : 2 ^ 2700 ≤ 18446744073709551616 ^ 43 := by decide +kernel
  have l1 : (natL u).length ≤ 43 := natL_len_le (Nat.lt_of_lt_of_le hu e43)
  obtain ⟨p1, p2⟩ := natL_ge hv0
  have hcm : cmpN (natL u) (natL v) = cmpU u v := cmpU_nat (val_natL u) (val_natL v)
  have hge : ¬ cmpN (natL u) (natL v) < 0 := by
    rw [hcm]
    rcases cmpU_cases u v with ⟨h1, h2⟩ | ⟨h1, h2⟩ | ⟨h1, h2⟩ <;> rw [h1] <;> omega
  have hlu : (natL v).length ≤ (natL u).length := by
    refine Nat.le_of_not_lt fun h => hge ?_
    rw [cmpN_short (natL_limbs u) (natL_limbs v) (by rw [size_natL, size_natL]; exact h)]
    decide
  have h1 := ref02_short (natL u) (by omega)
  have h2 := ref02_short (natL v) (by omega)
  rw [trim_natL] at h1 h2
  have h3 := ref02_order (natL u) (natL v) (natL_limbs u) (natL_limbs v) (by omega) (by omega)
  have g1 := fun nx rows gg ty => ref02_short_h (natL u) (by omega) nx rows gg ty
  have g2 := fun nx rows gg ty => ref02_short_h (natL v) (by omega) nx rows gg ty
  rw [size_natL, trim_natL] at g1 g2
  have hlow : B64 ^ ((natL v).length - 1) ≤ (v : Int) := by
    have h := Int.ofNat_le.2 p2
    rw [Int.natCast_pow] at h
    exact h
  exact divide_walk (natL u) (natL v) (natL u) (natL v) (natL u).length (natL v).length ((natL u).length + 1 - (natL v).length) u v h1 h2 h3 hge g1 g2 (natL_limbs u) (natL_limbs v) rfl rfl p1 (by omega) (by omega) (by omega) (val_natL u) (val_natL v) hlow
theorem mantD_par (d : Nat) : mantD d % 2 = d % 2 := by
  unfold mantD fracD
  split <;> omega
theorem ref12_span (d : Nat) (hd : d < 18446744073709551616) (hf : finD d) (h0 : absD d ≠ 0) : Meets Tryz.prog 33 [.int .u64 (d : Int)] (.agg [.int .u64 ((4 * mantD d : Nat) : Int), .int .u64 (lowM d : Int), .int .u64 ((4 * mantD d + 2 : Nat) : Int), .int .i64 (spE d), .bool (decide (d % 2 = 0))]) := by
  have h1 := ref04_decode d hd
  obtain ⟨p1, p2⟩ := parts_fin hf h0
  unfold partsP at h1
  rw [p1, p2] at h1
  have hm0 : mantD d ≠ 0 := fun e => h0 (mantD_zero.1 e)
  have hml := mantD_lt d
  have he1 := expD_ge d
  have he2 := expD_le hf
  have hpar := mantD_par d
  have hp : Int.tmod (mantD d : Int) 2 = ((mantD d % 2 : Nat) : Int) := by rw [tmod_pos (by omega)]; omega
  have dp : decide (((mantD d % 2 : Nat) : Int) = 0) = decide (d % 2 = 0) := decide_eq_decide.2 (by omega)
  unfold lowM spE
  generalize decide (d % 2 = 0) = par at *
  generalize mantD d = M at *
  generalize expD d = E at *
  generalize classD d = cl at *
  generalize negD d = ng at *
  clear hpar
  generalize M % 2 = M2 at *
  have w1 : IntKind.wrap .u64 (4 * (M : Int)) = ((4 * M : Nat) : Int) := by rw [wrap_u64 (by omega)]; omega
  have w2 : IntKind.wrap .u64 (((4 * M : Nat) : Int) - 2) = ((4 * M - 2 : Nat) : Int) := by rw [wrap_u64 (by omega)]; omega
  have w3 : IntKind.wrap .u64 (((4 * M : Nat) : Int) - 1) = ((4 * M - 1 : Nat) : Int) := by rw [wrap_u64 (by omega)]; omega
  have w4 : IntKind.wrap .u64 (((4 * M : Nat) : Int) + 2) = ((4 * M + 2 : Nat) : Int) := wrap_u64 (by omega)
  have w5 : IntKind.wrap .i64 (E - 2) = E - 2 := wrap_i64 (by omega)
  have hc : (decide ((M : Int) = 4503599627370496) = true ∧ decide (-1074 < E) = true ∧ (M = 4503599627370496 ∧ -1074 < E)) ∨ (decide ((M : Int) = 4503599627370496) = true ∧ decide (-1074 < E) = false ∧ ¬ (M = 4503599627370496 ∧ -1074 < E)) ∨ (decide ((M : Int) = 4503599627370496) = false ∧ decide ((M : Int) = 4503599627370496) = false ∧ ¬ (M = 4503599627370496 ∧ -1074 < E)) := by
    by_cases c1 : M = 4503599627370496
    · by_cases c2 : -1074 < E
      · exact .inl ⟨decide_eq_true (by omega), decide_eq_true c2, c1, c2⟩
      · exact .inr (.inl ⟨decide_eq_true (by omega), decide_eq_false c2, fun h => c2 h.2⟩)
    · have := decide_eq_false (show ¬ (M : Int) = 4503599627370496 by omega)
      exact .inr (.inr ⟨this, this, fun h => c1 h.1⟩)
  rcases hc with ⟨d1, d2, hc⟩ | ⟨d1, d2, hc⟩ | ⟨d1, d2, hc⟩
  case' inl => rw [if_pos hc]
  case' inr.inl => rw [if_neg hc]
  case' inr.inr => rw [if_neg hc]
  all_goals (refine meets_by ttOk Tryz.func33 Tryz.ntmps33 Tryz.results33 (by kernel_rfl) (c := _) rfl rfl rfl fun E => ?_; simp only [argsFrame])
  all_goals
    repeat' first
      | (with_reducible first | refine PW.seq ?_ | refine PW.block ?_ | refine PW.fork ?_ | refine PW.skip ?_ | refine PW.exit ?_ | refine PW.ret ?_) | (simp only [w1, w2, w3, w4, w5, hp, dp, d1, d2]) | ((with_reducible refine PW.region ttOk ?_ ?_); rfl) | ((with_reducible refine PW.regionD ttOk mixed ?_ ?_ ?_); rfl; rfl) | (with_reducible refine ifW_dec (fun g => ?_) (fun g => ?_) <;> first | (exfalso; omega) | (simp -dsimp only [g, wkI])) | ((with_reducible first | refine condE_dec (fun g => ?_) (fun g => ?_) | refine condE_not (fun g => ?_) (fun g => ?_)) <;> try (exfalso; omega)) | (simp -dsimp only [↓wkA, ↓wkE, ↓wkJ, wkB, ↓tt, Nat.reduceBEq, Nat.reduceEqDiff, ↓reduceIte, Nat.reduceLT, Array.toList, Nat.reduceAdd, Nat.reduceMul, Int.reduceToNat, Int.reducePow, UInt8.reduceToNat]) | (refine call_by (h1) (views_data rfl) ⟨trivial, trivial⟩ rfl ?_) | (simp -dsimp (disch := first | assumption | omega) only [dec_t, dec_f])
      | (refine And.intro ?_ ?_
         · first | omega | decide | (simp (disch := omega) only [wkW, Int.reduceToNat, Int.reducePow] <;> omega) | (simp <;> omega)) | (simp (disch := omega) only [wkW, Int.reduceToNat, Int.reducePow])
abbrev spanP (mid lo hi e : Int) (cl : Bool) : PV := .agg [.int .u64 mid, .int .u64 lo, .int .u64 hi, .int .i64 e, .bool cl]
theorem inside_walk (mid lo hi e j : Int) (cl : Bool) (K Lo Hi D X : List Int) (x y : Int) (b : Bool) (h1 : Meets Tryz.prog 67 [.int .u64 lo, .int .i64 e, .int .i64 j] (.tup [.ints .u64 Lo, .ints .u64 D])) (h2 : Meets Tryz.prog 67 [.int .u64 hi, .int .i64 e, .int .i64 j] (.tup [.ints .u64 Hi, .ints .u64 D]))
    (h3 : Meets Tryz.prog 80 [.ints .u64 K, .ints .u64 D] (.ints .u64 X)) (h4 : Meets Tryz.prog 72 [.ints .u64 Lo, .ints .u64 X] (.int .i64 x)) (h5 : Meets Tryz.prog 72 [.ints .u64 X, .ints .u64 Hi] (.int .i64 y))
    (hx : x = -1 ∨ x = 0 ∨ x = 1) (hy : y = -1 ∨ y = 0 ∨ y = 1) (hb : b = (decide (x < 0) && decide (y < 0) || (cl && decide (x ≤ 0) && decide (y ≤ 0)))) :
    Meets Tryz.prog 71 [spanP mid lo hi e cl, .ints .u64 K, .int .i64 j] (.bool b) := by
  subst hb
  rcases hx with rfl | rfl | rfl
  all_goals rcases hy with rfl | rfl | rfl
  all_goals cases cl
  all_goals (refine meets_by ttOk Tryz.func71 Tryz.ntmps71 Tryz.results71 (by kernel_rfl) (c := _) rfl rfl rfl fun E => ?_; simp only [argsFrame])
  all_goals
    repeat' first
      | (with_reducible first | refine PW.seq ?_ | refine PW.block ?_ | refine PW.fork ?_ | refine PW.skip ?_ | refine PW.exit ?_ | refine PW.ret ?_) | ((with_reducible refine PW.region ttOk ?_ ?_); rfl) | ((with_reducible refine PW.regionD ttOk mixed ?_ ?_ ?_); rfl; rfl) | (with_reducible refine ifW_dec (fun g => ?_) (fun g => ?_) <;> first | (exfalso; omega) | (simp -dsimp only [g, wkI])) | ((with_reducible first | refine condE_dec (fun g => ?_) (fun g => ?_) | refine condE_not (fun g => ?_) (fun g => ?_)) <;> try (exfalso; omega)) | (simp -dsimp only [↓wkA, ↓wkE, ↓wkJ, wkB, ↓tt, Nat.reduceBEq, Nat.reduceEqDiff, ↓reduceIte, Nat.reduceLT, Array.toList, Nat.reduceAdd, Nat.reduceMul, Int.reduceToNat, Int.reducePow, UInt8.reduceToNat]) | (refine call_by (h1) (views_data rfl) ⟨trivial, trivial, trivial, trivial⟩ rfl ?_) | (refine call_by (h2) (views_data rfl) ⟨trivial, trivial, trivial, trivial⟩ rfl ?_) | (refine call_by (h3) (views_data rfl) ⟨trivial, trivial, trivial⟩ rfl ?_) | (refine call_by (h4) (views_data rfl) ⟨trivial, trivial, trivial⟩ rfl ?_) | (refine call_by (h5) (views_data rfl) ⟨trivial, trivial, trivial⟩ rfl ?_) | (simp -dsimp (disch := first | assumption | omega) only [dec_t, dec_f])
      | (refine And.intro ?_ ?_
         · first | omega | decide | (simp (disch := omega) only [wkW, Int.reduceToNat, Int.reducePow] <;> omega) | (simp <;> omega)) | (simp (disch := omega) only [wkW, Int.reduceToNat, Int.reducePow])
  all_goals rfl
theorem ref12_inside (mid lo hi k : Nat) (e j : Int) (cl : Bool) (hlo : lo < 2 ^ 60) (hhi : hi < 2 ^ 60) (he : -1100 ≤ e ∧ e ≤ 1000) (hj : -420 ≤ j ∧ j ≤ 420) (hk : k < 2 ^ 2700) (hkB : k * beS e j < 2 ^ 2700) :
    Meets Tryz.prog 71 [spanP (mid : Int) (lo : Int) (hi : Int) e cl, .ints .u64 (natL k), .int .i64 j] (.bool (hdB (lo * upS e j) (hi * upS e j) (k * beS e j) cl)) := by
  obtain ⟨b1, b2⟩ := up_small hlo he hj
  obtain ⟨b3, _⟩ := up_small hhi he hj
  have ht := ref01_times (natL_limbs k) (natL_limbs (beS e j)) (big_len hk) (big_len b2) (val_natL _) (val_natL _)
  refine inside_walk _ _ _ _ _ _ _ _ _ _ _ _ _ _ (ref12_scaled lo e j hlo he hj) (ref12_scaled hi e j hhi he hj) ht (ref_cmpU b1 hkB) (ref_cmpU hkB b3) ?_ ?_ rfl
  · rcases cmpU_cases (lo * upS e j) (k * beS e j) with h | h | h
    · exact .inl h.1
    · exact .inr (.inl h.1)
    · exact .inr (.inr h.1)
  · rcases cmpU_cases (k * beS e j) (hi * upS e j) with h | h | h
    · exact .inl h.1
    · exact .inr (.inl h.1)
    · exact .inr (.inr h.1)
theorem choose_walk (mid lo hi e j : Int) (cl : Bool) (V B F R C T : List Int) (rs : Int) (u o rz : Bool) (sd odd : Int) (res : PV) (hrz : decide (rs = 0) = rz)
    (h1 : Meets Tryz.prog 67 [.int .u64 mid, .int .i64 e, .int .i64 j] (.tup [.ints .u64 V, .ints .u64 B])) (h2 : Meets Tryz.prog 68 [.ints .u64 V, .ints .u64 B] (.tup [.ints .u64 F, .ints .u64 R])) (h3 : Meets Tryz.prog 69 [.ints .u64 R] (.int .i64 rs)) (h4 : Meets Tryz.prog 70 [.ints .u64 F, .ints .u64 [1]] (.ints .u64 C))
    (h5 : Meets Tryz.prog 71 [spanP mid lo hi e cl, .ints .u64 F, .int .i64 j] (.bool u)) (h6 : Meets Tryz.prog 71 [spanP mid lo hi e cl, .ints .u64 C, .int .i64 j] (.bool o)) (h7 : Meets Tryz.prog 73 [.ints .u64 B, .ints .u64 R] (.ints .u64 T)) (h8 : Meets Tryz.prog 72 [.ints .u64 R, .ints .u64 T] (.int .i64 sd)) (h9 : Meets Tryz.prog 74 [.ints .u64 F, .int .i64 0] (.int .i64 odd))
    (hb : (rz = true ∧ res = .tup [.ints .u64 F, .bool true]) ∨ (rz = false ∧ u = false ∧ res = .tup [.ints .u64 C, .bool o]) ∨ (rz = false ∧ u = true ∧ o = false ∧ res = .tup [.ints .u64 F, .bool true]) ∨ (rz = false ∧ u = true ∧ o = true ∧ sd = 1 ∧ res = .tup [.ints .u64 C, .bool true]) ∨
      (rz = false ∧ u = true ∧ o = true ∧ sd = 0 ∧ odd = 1 ∧ res = .tup [.ints .u64 C, .bool true]) ∨ (rz = false ∧ u = true ∧ o = true ∧ sd = 0 ∧ odd = 0 ∧ res = .tup [.ints .u64 F, .bool true]) ∨ (rz = false ∧ u = true ∧ o = true ∧ sd = -1 ∧ res = .tup [.ints .u64 F, .bool true])) :
    Meets Tryz.prog 35 [spanP mid lo hi e cl, .int .i64 j] res := by
  rcases hb with ⟨rfl, rfl⟩ | ⟨rfl, rfl, rfl⟩ | ⟨rfl, rfl, rfl, rfl⟩ | ⟨rfl, rfl, rfl, rfl, rfl⟩ | ⟨rfl, rfl, rfl, rfl, rfl, rfl⟩ | ⟨rfl, rfl, rfl, rfl, rfl, rfl⟩ | ⟨rfl, rfl, rfl, rfl, rfl⟩
  all_goals (refine meets_by ttOk Tryz.func35 Tryz.ntmps35 Tryz.results35 (by kernel_rfl) (c := _) rfl rfl rfl fun E => ?_; simp only [argsFrame])
  all_goals
    repeat' first
      | (with_reducible first | refine PW.seq ?_ | refine PW.block ?_ | refine PW.fork ?_ | refine PW.skip ?_ | refine PW.exit ?_ | refine PW.ret ?_) | (simp only [hrz]) | ((with_reducible refine PW.region ttOk ?_ ?_); rfl) | ((with_reducible refine PW.regionD ttOk mixed ?_ ?_ ?_); rfl; rfl) | (with_reducible refine ifW_dec (fun g => ?_) (fun g => ?_) <;> first | (exfalso; omega) | (simp -dsimp only [g, wkI])) | ((with_reducible first | refine condE_dec (fun g => ?_) (fun g => ?_) | refine condE_not (fun g => ?_) (fun g => ?_)) <;> try (exfalso; omega)) | (simp -dsimp only [↓wkA, ↓wkE, ↓wkJ, wkB, ↓tt, Nat.reduceBEq, Nat.reduceEqDiff, ↓reduceIte, Nat.reduceLT, Array.toList, Nat.reduceAdd, Nat.reduceMul, Int.reduceToNat, Int.reducePow, UInt8.reduceToNat]) | (refine call_by (h1) (views_data rfl) ⟨trivial, trivial, trivial, trivial⟩ rfl ?_) | (refine call_by (h2) (views_data rfl) ⟨trivial, trivial, trivial⟩ rfl ?_) | (refine call_by (h3) (views_data rfl) ⟨trivial, trivial⟩ rfl ?_) | (refine call_drop (args' := [.ints .u64 F, .ints .u64 [1]]) rfl h4 ⟨trivial, Nat.le_refl _, trivial⟩ rfl ?_; simp only [wkD, Nat.reduceBEq]) | (refine call_by (h5) (views_data rfl) (by simp only [okViews, okView, okViews0, okView0, and_self]) rfl ?_) | (refine call_by (h6) (views_data rfl) (by simp only [okViews, okView, okViews0, okView0, and_self]) rfl ?_) | (refine call_by (h7) (views_data rfl) ⟨trivial, trivial, trivial⟩ rfl ?_) | (refine call_by (h8) (views_data rfl) ⟨trivial, trivial, trivial⟩ rfl ?_) | (refine call_by (h9) (views_data rfl) ⟨trivial, trivial, trivial⟩ rfl ?_) | (simp -dsimp (disch := first | assumption | omega) only [dec_t, dec_f])
      | (refine And.intro ?_ ?_
         · first | omega | decide | (simp (disch := omega) only [wkW, Int.reduceToNat, Int.reducePow] <;> omega) | (simp <;> omega)) | (simp (disch := omega) only [wkW, Int.reduceToNat, Int.reducePow])
theorem ref12_normal (neg : Bool) (K s : List Int) (j : Int) (hj : -100000 ≤ j ∧ j ≤ 100000) (h1 : Meets Tryz.prog 75 [.ints .u64 K] (.tup [.str s, .int .i64 0])) (hs : s ≠ []) (hh : s.getD 0 0 ≠ 48) (hsl : s.length ≤ 100000) :
    Meets Tryz.prog 36 [.bool neg, .ints .u64 K, .int .i64 j] (.agg [.bool neg, .str (normS s), .int .i64 (normX s j)]) := by
  have hp := List.length_pos_iff.2 hs
  have hhl : headL 48 s = s := by
    cases s with
    | nil => rfl
    | cons y r => rw [headL, if_neg (show ¬ y = 48 from hh)]
  have hE1 : endN s 48 s.length ≠ 0 := fun e => hh ((endN_zero _).1 e 0 hp)
  have hE2 := endN_le s 48 s.length
  have hE3 := endN_last s.length hE1
  unfold normS normX
  rw [hhl, if_neg hs, if_neg hs]
  obtain ⟨eN, hE⟩ : ∃ eN, endN s 48 s.length = eN := ⟨_, rfl⟩
  rw [hE] at hE1 hE2 hE3 ⊢
  refine meets_by ttOk Tryz.func36 Tryz.ntmps36 Tryz.results36 (by kernel_rfl) (c := _) rfl rfl rfl fun E => ?_
  simp only [argsFrame]
  repeat' first
    | (with_reducible first | refine PW.seq ?_ | refine PW.block ?_ | refine PW.fork ?_ | refine PW.skip ?_ | refine PW.exit ?_ | refine PW.ret ?_) | ((with_reducible refine PW.region ttOk ?_ ?_); rfl) | ((with_reducible refine PW.regionD ttOk mixed ?_ ?_ ?_); rfl; rfl) | (with_reducible refine ifW_dec (fun g => ?_) (fun g => ?_) <;> first | (exfalso; omega) | (simp -dsimp only [g, wkI])) | ((with_reducible first | refine condE_dec (fun g => ?_) (fun g => ?_) | refine condE_not (fun g => ?_) (fun g => ?_)) <;> try (exfalso; omega)) | (simp -dsimp only [↓wkA, ↓wkE, ↓wkJ, wkB, ↓tt, Nat.reduceBEq, Nat.reduceEqDiff, ↓reduceIte, Nat.reduceLT, Array.toList, Nat.reduceAdd, Nat.reduceMul, Int.reduceToNat, Int.reducePow, UInt8.reduceToNat]) | (refine call_by (h1) (views_data rfl) ⟨trivial, trivial⟩ rfl ?_) | (simp -dsimp (disch := first | assumption | omega) only [dec_t, dec_f])
    | (refine And.intro ?_ ?_
       · first | omega | decide | (simp (disch := omega) only [wkW, Int.reduceToNat, Int.reducePow] <;> omega) | (simp <;> omega)) | (simp (disch := omega) only [wkW, Int.reduceToNat, Int.reducePow])
  refine PW.loopA (fun m F H => ∃ k : Nat, k + 1 = eN + m ∧ k + 1 ≤ s.length ∧ endN s 48 (k + 1) = eN ∧ F = [(9, .int .i64 ((k + 1 : Nat) : Int)), (7, .str s), (0, .bool neg), (2, .int .i64 (j + (s.length - ((k + 1 : Nat) : Int)))), (6, .ptr 0 0 0)] ∧ H = ⟨1, [(0, .var [.bool false, .str [], .int .i64 0])], [], []⟩) (s.length - eN) [(9, .int .i64 (s.length : Int)), (7, .str s), (0, .bool neg), (2, .int .i64 j), (6, .ptr 0 0 0)] ⟨1, [(0, .var [.bool false, .str [], .int .i64 0])], [], []⟩ (Sub.norm ⟨rfl, rfl, rfl, rfl, rfl, trivial⟩ ⟨rfl, trivial⟩ (Nat.le_refl _) rfl rfl rfl rfl) ⟨s.length - 1, by omega, by omega, by rw [show s.length - 1 + 1 = s.length by omega]; exact hE, by rw [show s.length - 1 + 1 = s.length by omega, Int.sub_self, Int.add_zero], rfl⟩ ?_
  rintro m F H ⟨k, hk, hkl, hek, rfl, rfl⟩
  have w1 : IntKind.wrap .i64 (((k + 1 : Nat) : Int) - 1) = (k : Int) := by rw [wrap_i64 (by omega)]; omega
  have d3 : decide ((k : Int) < (s.length : Int)) = true := decide_eq_true (by omega)
  cases m with
  | zero =>
    obtain rfl : k + 1 = eN := by omega
    have hd : s.getD k 0 ≠ 48 := hE3
    have d2 : decide (s.getD k 0 = 48) = false := decide_eq_false hd
    have hres : j + ((s.length : Int) - ((k + 1 : Nat) : Int)) = j + s.length - ((k + 1 : Nat) : Int) := by omega
    by_cases h2 : k = 0
    case' pos => have d1 : decide ((1 : Int) < ((k + 1 : Nat) : Int)) = false := decide_eq_false (by omega)
    case' neg => have d1 : decide ((1 : Int) < ((k + 1 : Nat) : Int)) = true := decide_eq_true (by omega)
    all_goals
      repeat' first
        | (with_reducible first | refine PW.seq ?_ | refine PW.block ?_ | refine PW.fork ?_ | refine PW.skip ?_ | refine PW.exit ?_ | refine PW.ret ?_) | (simp only [w1, d1, d2, d3, hres, Int.toNat_natCast]) | ((with_reducible refine PW.region ttOk ?_ ?_); rfl) | ((with_reducible refine PW.regionD ttOk mixed ?_ ?_ ?_); rfl; rfl) | (with_reducible refine ifW_dec (fun g => ?_) (fun g => ?_) <;> first | (exfalso; omega) | (simp -dsimp only [g, wkI])) | ((with_reducible first | refine condE_dec (fun g => ?_) (fun g => ?_) | refine condE_not (fun g => ?_) (fun g => ?_)) <;> try (exfalso; omega)) | (simp -dsimp only [↓wkA, ↓wkE, ↓wkJ, wkB, ↓tt, Nat.reduceBEq, Nat.reduceEqDiff, ↓reduceIte, Nat.reduceLT, Array.toList, Nat.reduceAdd, Nat.reduceMul, Int.reduceToNat, Int.reducePow, UInt8.reduceToNat]) | (simp -dsimp (disch := first | assumption | omega) only [dec_t, dec_f])
        | (refine And.intro ?_ ?_
           · first | omega | decide | (simp (disch := omega) only [wkW, Int.reduceToNat, Int.reducePow] <;> omega) | (simp <;> omega)) | (simp (disch := omega) only [wkW, Int.reduceToNat, Int.reducePow])
  | succ m =>
    have d1 : decide ((1 : Int) < ((k + 1 : Nat) : Int)) = true := decide_eq_true (by omega)
    have hd : s.getD k 0 = 48 := by
      refine Classical.byContradiction fun h => ?_
      rw [endN, if_neg h] at hek
      omega
    have hek2 : endN s 48 k = eN := by rw [endN, if_pos hd] at hek; exact hek
    have d2 : decide (s.getD k 0 = 48) = true := decide_eq_true hd
    obtain ⟨k', rfl⟩ : ∃ k', k = k' + 1 := ⟨k - 1, by omega⟩
    have w2 : IntKind.wrap .i64 (j + ((s.length : Int) - ((k' + 1 + 1 : Nat) : Int)) + 1) = j + (s.length - ((k' + 1 : Nat) : Int)) := by rw [wrap_i64 (by omega)]; omega
    repeat' first
      | (with_reducible first | refine PW.seq ?_ | refine PW.block ?_ | refine PW.fork ?_ | refine PW.skip ?_ | refine PW.exit ?_ | refine PW.ret ?_) | (simp only [w1, w2, d1, d2, d3, Int.toNat_natCast]) | ((with_reducible refine PW.region ttOk ?_ ?_); rfl) | ((with_reducible refine PW.regionD ttOk mixed ?_ ?_ ?_); rfl; rfl) | (with_reducible refine ifW_dec (fun g => ?_) (fun g => ?_) <;> first | (exfalso; omega) | (simp -dsimp only [g, wkI])) | ((with_reducible first | refine condE_dec (fun g => ?_) (fun g => ?_) | refine condE_not (fun g => ?_) (fun g => ?_)) <;> try (exfalso; omega)) | (simp -dsimp only [↓wkA, ↓wkE, ↓wkJ, wkB, ↓tt, Nat.reduceBEq, Nat.reduceEqDiff, ↓reduceIte, Nat.reduceLT, Array.toList, Nat.reduceAdd, Nat.reduceMul, Int.reduceToNat, Int.reducePow, UInt8.reduceToNat]) | (simp -dsimp (disch := first | assumption | omega) only [dec_t, dec_f])
      | (refine And.intro ?_ ?_
         · first | omega | decide | (simp (disch := omega) only [wkW, Int.reduceToNat, Int.reducePow] <;> omega) | (simp <;> omega)) | (simp (disch := omega) only [wkW, Int.reduceToNat, Int.reducePow])
    exact Again.mk m [(9, .int .i64 ((k' + 1 : Nat) : Int)), (7, .str s), (0, .bool neg), (2, .int .i64 (j + (s.length - ((k' + 1 : Nat) : Int)))), (6, .ptr 0 0 0)] ⟨1, [(0, .var [.bool false, .str [], .int .i64 0])], [], []⟩ (by omega) (Sub.norm ⟨rfl, rfl, rfl, rfl, rfl, trivial⟩ ⟨rfl, trivial⟩ (by simp) rfl rfl rfl rfl) ⟨k', by omega, by omega, hek2, rfl, rfl⟩
def bestW (lo V hi B : Nat) (cl : Bool) : Option Nat :=
  if hdB lo hi (V / B * B) cl then (if hdB lo hi ((V / B + 1) * B) cl then (if B < 2 * (V % B) ∨ (B = 2 * (V % B) ∧ V / B % 2 = 1) then some (V / B + 1) else some (V / B)) else some (V / B))
  else if hdB lo hi ((V / B + 1) * B) cl then some (V / B + 1) else none
def bestD (d : Nat) (j : Int) : Option Nat := bestW (lowM d * upS (spE d) j) (4 * mantD d * upS (spE d) j) ((4 * mantD d + 2) * upS (spE d) j) (beS (spE d) j) (decide (d % 2 = 0))
theorem bestW_cases (lo V hi B : Nat) (cl : Bool) : bestW lo V hi B cl = none ∨ bestW lo V hi B cl = some (V / B) ∨ bestW lo V hi B cl = some (V / B + 1) := by
  unfold bestW
  repeat' split
  all_goals simp
def decR (neg : Bool) (j : Int) : Option Nat → PV
  | none => .agg [.bool false, .str [], .int .i64 0]
  | some b => .agg [.bool neg, .str (normS (written 10 false b)), .int .i64 (normX (written 10 false b) j)]
theorem written_le {v : Nat} (h0 : v ≠ 0) (h : v < 2 ^ 2700) : (written 10 false v).length ≤ 900 := by
  unfold written
  rw [if_neg h0]
  refine Nat.le_of_not_lt fun hlt => ?_
  have h1 := text_ge (b := 10) (by decide) false v h0
  have h2 : 2 ^ 2700 ≤ 10 ^ ((text 10 false v).length - 1) := Nat.le_trans (show 2 ^ 2700 ≤ 10 ^ 900 by decide +kernel) (Nat.pow_le_pow_right (by decide) (by omega))
  omega
theorem written_all_d {v : Nat} (h0 : v ≠ 0) : AllD (written 10 false v) := by
  unfold written
  rw [if_neg h0]
  exact fun i hi => digs_get text_digs hi
theorem written_head {v : Nat} (h0 : v ≠ 0) : (written 10 false v).getD 0 0 ≠ 48 := by
  unfold written
  rw [if_neg h0]
  exact text_head (by decide) false v h0
theorem normX_in {s : List Int} {x : Int} (hs : s.length ≤ 900) (hx : -1000 ≤ x ∧ x ≤ 1000) : -2000 ≤ normX s x ∧ normX s x ≤ 2000 := by
  have h1 := headL_le 48 s
  have h2 := endN_le (headL 48 s) 48 (headL 48 s).length
  unfold normX
  split <;> omega
theorem normS_le {s : List Int} (h : s ≠ []) : (normS s).length ≤ s.length := by
  have h1 := headL_le 48 s
  have hp := List.length_pos_iff.2 h
  unfold normS
  split
  · exact hp
  · rw [List.length_take]; omega
theorem normS_ne (s : List Int) : normS s ≠ [] := by
  unfold normS
  split
  · simp
  · rename_i h
    intro e
    have h1 := congrArg List.length e
    rw [List.length_take, List.length_nil] at h1
    have hp := List.length_pos_iff.2 h
    have h2 : endN (headL 48 s) 48 (headL 48 s).length ≠ 0 := fun e2 => by
      have h3 := (endN_zero _).1 e2 0 hp
      cases hl : headL 48 s with
      | nil => exact h hl
      | cons y r =>
        rw [hl] at h3
        have h4 : y = 48 := h3
        have h5 : ∀ t : List Int, headL 48 t = y :: r → False := by
          intro t
          induction t with
          | nil => intro h6; simp [headL] at h6
          | cons z t ih =>
            intro h6
            rw [headL] at h6
            split at h6
            · exact ih h6
            · rename_i hz
              injection h6 with h7 _
              exact hz (h7.trans h4)
        exact h5 s hl
    omega
structure LookS (d : Nat) (k j : Int) (lo V hi B : Nat) : Prop where
  hlo : lo < V
  hhi : V < hi
  hB0 : B ≠ 0
  hBV : B ≤ V
  hV : V < 2 ^ 2600
  hhl : hi < 2 ^ 2600
  hBl : B < 2 ^ 2500
theorem look_of {d : Nat} (hf : finD d) (h0 : absD d ≠ 0) {k j : Int} (hT : Ten (4 * mantD d) (spE d) k) (hj : -420 ≤ j ∧ j ≤ 420) (hjk : j ≤ k) : LookS d k j (lowM d * upS (spE d) j) (4 * mantD d * upS (spE d) j) ((4 * mantD d + 2) * upS (spE d) j) (beS (spE d) j) := by
  have hm0 : mantD d ≠ 0 := fun e => h0 (mantD_zero.1 e)
  have hml := mantD_lt d
  have he1 := expD_ge d
  have he2 := expD_le hf
  obtain ⟨l1, l2⟩ := lowM_bounds d hm0
  have he : -1100 ≤ spE d ∧ spE d ≤ 1000 := by unfold spE; omega
  have hup := upS_pos (spE d) j
  have hul := upS_lt he.2 hj.1
  have e100 : (2 : Nat) ^ 100 = 1267650600228229401496703205376 := by decide
  have hl : ∀ x : Nat, x < 2 ^ 100 → x * upS (spE d) j < 2 ^ 2600 := fun x hx => Nat.lt_of_lt_of_le (Nat.mul_lt_mul'' hx hul) (by rw [← Nat.pow_add]; exact Nat.pow_le_pow_right (by decide) (by decide))
  exact ⟨Nat.mul_lt_mul_of_pos_right l2 hup, Nat.mul_lt_mul_of_pos_right (by omega) hup, Nat.ne_of_gt (beS_pos _ _), ge_le hT.lo hjk, hl _ (by rw [e100]; omega), hl _ (by rw [e100]; omega), beS_lt he.1 hj.2⟩
theorem LookS.f0 {d : Nat} {k j : Int} {lo V hi B : Nat} (h : LookS d k j lo V hi B) : 1 ≤ V / B ∧ V / B < 2 ^ 2600 ∧ V / B * B ≤ V ∧ (V / B + 1) * B < 2 ^ 2650 ∧ V % B < B := by
  have hB := h.hBV
  have hV := h.hV
  have hBl := h.hBl
  have hp : 0 < B := Nat.pos_of_ne_zero h.hB0
  have h1 : 1 ≤ V / B := (Nat.one_le_div_iff hp).2 hB
  have h2 := Nat.div_le_self V B
  have h3 := Nat.div_mul_le_self V B
  refine ⟨h1, Nat.lt_of_le_of_lt h2 hV, h3, ?_, Nat.mod_lt _ hp⟩
  rw [Nat.add_mul, Nat.one_mul]
  exact Nat.lt_of_lt_of_le (Nat.add_lt_add (Nat.lt_of_le_of_lt h3 hV) hBl) (by decide +kernel)
theorem mod_self_le {V B : Nat} : V / B * B + V % B = V := by
  rw [Nat.mul_comm]; exact Nat.div_add_mod V B
theorem LookS.whole {d : Nat} {k j : Int} {lo V hi B : Nat} (h : LookS d k j lo V hi B) (cl : Bool) (hr : V % B = 0) : bestW lo V hi B cl = some (V / B) := by
  have h1 := @mod_self_le V B
  have hh : hdB lo hi (V / B * B) cl = true := hdB_iff.2 (.inl ⟨by have := h.hlo; omega, by have := h.hhi; omega⟩)
  have hB := h.hB0
  unfold bestW
  rw [if_pos hh, hr]
  split
  · rw [if_neg (by omega)]
  · rfl
theorem bn_of {x : Nat} (h : x < 2 ^ 2700) : x < NMax := nmax_of h (by decide)
theorem p26 {x : Nat} (h : x < 2 ^ 2600) : x < 2 ^ 2700 := Nat.lt_of_lt_of_le h (Nat.pow_le_pow_right (by decide) (by decide))
theorem p265 {x : Nat} (h : x < 2 ^ 2650) : x < 2 ^ 2700 := Nat.lt_of_lt_of_le h (Nat.pow_le_pow_right (by decide) (by decide))
theorem p261 {x : Nat} (h : x < 2 ^ 2600) : x + 1 < 2 ^ 2700 := Nat.lt_of_le_of_lt h (Nat.pow_lt_pow_right (by decide) (by decide))
theorem p2r {x : Nat} (h : x < 2 ^ 2500) : x * 2 ^ 1 < 2 ^ 2700 := Nat.lt_of_lt_of_le (Nat.mul_lt_mul_of_lt_of_le h (Nat.le_refl _) (by decide)) (by decide +kernel)
theorem bit0_nat {v : Nat} (hv : v < NMax) : Meets Tryz.prog 60 [.ints .u64 (natL v), .int .i64 0] (.int .i64 ((v % 2 : Nat) : Int)) := by
  have h := bit_nat v 0 hv (by decide)
  rw [Nat.pow_zero, Nat.div_one] at h
  exact h
theorem bit0_ref {v : Nat} (hv : v < NMax) : Meets Tryz.prog 74 [.ints .u64 (natL v), .int .i64 0] (.int .i64 ((v % 2 : Nat) : Int)) := by
  have h := ref01_bit v 0 hv (by decide)
  rw [Nat.pow_zero, Nat.div_one] at h
  exact h
theorem short_within (d : Nat) (hd : d < 18446744073709551616) (hf : finD d) (h0 : absD d ≠ 0) (k j : Int) (n : Nat) (hn : 1 ≤ n ∧ n ≤ 17) (hk : -400 ≤ k ∧ k < 400) (hT : Ten (4 * mantD d) (spE d) k) (hj : k + 1 - n = j) :
    Meets Tryz.prog 28 [.int .u64 (d : Int), .int .i64 (n : Int), .int .i64 k] (.tup [decR (negD d) j (bestD d j), .bool (bestD d j).isSome]) := by
  have hj2 : -420 ≤ j ∧ j ≤ 420 := by omega
  have hL := look_of hf h0 hT hj2 (by omega)
  have h1 := short_scaled d hd hf h0 j hj2
  unfold bestD
  generalize lowM d * upS (spE d) j = lo at *
  generalize 4 * mantD d * upS (spE d) j = V at *
  generalize (4 * mantD d + 2) * upS (spE d) j = hi at *
  generalize beS (spE d) j = B at *
  generalize decide (d % 2 = 0) = cl at *
  obtain ⟨f1, f2, f3, f4, f5⟩ := hL.f0
  have hfl : V / B * B < 2 ^ 2600 := Nat.lt_of_le_of_lt f3 hL.hV
  have h2 := div_mod (bn_of (p26 hL.hV)) (bn_of (p26 (Nat.lt_trans hL.hBl (Nat.pow_lt_pow_right (by decide) (by decide))))) hL.hB0
  have h3 := add_nat (u := V / B) (v := 1) (bn_of (p26 f2)) (by decide +kernel) (bn_of (p261 f2))
  rw [natL_oneL] at h3
  have hBn : B < NMax := bn_of (p26 (Nat.lt_trans hL.hBl (Nat.pow_lt_pow_right (by decide) (by decide))))
  have h4 := span_holds lo V hi B (V / B) cl (bn_of (p26 (Nat.lt_trans hL.hlo hL.hV))) (bn_of (p26 hL.hhl)) hBn (bn_of (p26 f2)) (bn_of (p26 hfl))
  have h5 := span_holds lo V hi B (V / B + 1) cl (bn_of (p26 (Nat.lt_trans hL.hlo hL.hV))) (bn_of (p26 hL.hhl)) hBn (bn_of (p261 f2)) (bn_of (p265 f4))
  have h6 := short_shl (u := V % B) (n := 1) (bn_of (p26 (Nat.lt_trans f5 (Nat.lt_trans hL.hBl (Nat.pow_lt_pow_right (by decide) (by decide)))))) (by decide) (bn_of (p2r (Nat.lt_trans f5 hL.hBl)))
  have h7 := cmp_natU (u := V % B * 2 ^ 1) (v := B) (bn_of (p2r (Nat.lt_trans f5 hL.hBl))) hBn
  have h8 := bit0_nat (v := V / B) (bn_of (p26 f2))
  have hdg : ∀ b, b ≠ 0 → b < 2 ^ 2700 → Meets Tryz.prog 61 [.ints .u64 (natL b)] (.tup [.str (written 10 false b), .int .i64 0]) ∧ Meets Tryz.prog 29 [.agg [.bool (negD d), .str (written 10 false b), .int .i64 j]] (.tup [.agg [.bool (negD d), .str (normS (written 10 false b)), .int .i64 (normX (written 10 false b) j)], .int .i64 0]) := fun b hb0 hb => by
    have hwl := written_le hb0 hb
    have hx := normX_in (x := j) hwl (by omega)
    exact ⟨digits_natU (bn_of hb), scan_norm_ok (negD d) ⟨written_ne (by decide) false b, ⟨by omega, by omega⟩, written_all_d hb0, by omega⟩ (by omega)⟩
  have hneg : decide (9223372036854775808 ≤ (d : Int)) = negD d := decide_eq_decide.2 (by omega)
  have hj1 : IntKind.wrap .i64 (k + 1) = k + 1 := wrap_i64 (by omega)
  have hj3 : IntKind.wrap .i64 (k + 1 - (n : Int)) = j := by rw [wrap_i64 (by omega)]; exact hj
  obtain ⟨g1, g2⟩ := hdg (V / B) (by omega) (p26 f2)
  obtain ⟨g3, g4⟩ := hdg (V / B + 1) (by omega) (p261 f2)
  have go := within_walk (d : Int) n k j (negD d) (natL lo) (natL V) (natL hi) (natL B) (natL (V / B)) (natL (V % B)) (natL (V / B + 1)) (natL (V % B * 2 ^ 1))
  have go2 := fun Best s t y res hb h9 h10 => go Best cl _ _ _ _ s t y res hj1 hj3 hneg h1 h2 h3 h4 h5 h6 h7 h8 hb h9 h10
  clear go h1 h2 h3 h4 h5 h6 h7 h8
  have hc := cmpU_cases (V % B * 2 ^ 1) B
  rw [Nat.pow_one] at *
  have hm2 : V / B % 2 = 0 ∨ V / B % 2 = 1 := by omega
  unfold bestW
  by_cases c1 : hdB lo hi (V / B * B) cl = true
  · rw [if_pos c1]
    by_cases c2 : hdB lo hi ((V / B + 1) * B) cl = true
    · rw [if_pos c2]
      rcases hc with ⟨c3, c4⟩ | ⟨c3, c4⟩ | ⟨c3, c4⟩
      · rw [if_neg (by omega)]
        exact go2 _ _ _ _ _ (.inr (.inr (.inr (.inr (.inr (.inr ⟨c1, c2, c3, rfl, rfl⟩)))))) g1 g2
      · rcases hm2 with c5 | c5
        · rw [if_neg (by omega)]
          exact go2 _ _ _ _ _ (.inr (.inr (.inr (.inr (.inr (.inl ⟨c1, c2, c3, by rw [c5]; rfl, rfl, rfl⟩)))))) g1 g2
        · rw [if_pos (by omega)]
          exact go2 _ _ _ _ _ (.inr (.inr (.inr (.inr (.inl ⟨c1, c2, c3, by rw [c5]; rfl, rfl, rfl⟩))))) g3 g4
      · rw [if_pos (by omega)]
        exact go2 _ _ _ _ _ (.inr (.inr (.inr (.inl ⟨c1, c2, c3, rfl, rfl⟩)))) g3 g4
    · rw [if_neg c2]
      exact go2 _ _ _ _ _ (.inr (.inr (.inl ⟨c1, by simpa using c2, rfl, rfl⟩))) g1 g2
  · rw [if_neg c1]
    by_cases c2 : hdB lo hi ((V / B + 1) * B) cl = true
    · rw [if_pos c2]
      exact go2 _ _ _ _ _ (.inr (.inl ⟨by simpa using c1, c2, rfl, rfl⟩)) g3 g4
    · rw [if_neg c2]
      exact go2 _ _ _ _ _ (.inl ⟨by simpa using c1, by simpa using c2, rfl⟩) g1 g2
theorem ref12_choose (d : Nat) (hd : d < 18446744073709551616) (hf : finD d) (h0 : absD d ≠ 0) (k j : Int) (hT : Ten (4 * mantD d) (spE d) k) (hj : -420 ≤ j ∧ j ≤ 420) (hjk : j ≤ k) :
    ∃ K, Meets Tryz.prog 35 [spanP ((4 * mantD d : Nat) : Int) (lowM d : Int) ((4 * mantD d + 2 : Nat) : Int) (spE d) (decide (d % 2 = 0)), .int .i64 j] (.tup [.ints .u64 (natL K), .bool (bestD d j).isSome]) ∧ ∀ b, bestD d j = some b → b = K := by
  have hL := look_of hf h0 hT hj hjk
  have hml := mantD_lt d
  have hm0 : mantD d ≠ 0 := fun e => h0 (mantD_zero.1 e)
  obtain ⟨l1, l2⟩ := lowM_bounds d hm0
  have he1 := expD_ge d
  have he2 := expD_le hf
  have he : -1100 ≤ spE d ∧ spE d ≤ 1000 := by unfold spE; omega
  have e60 : (2 : Nat) ^ 60 = 1152921504606846976 := by decide
  have b1 : 4 * mantD d < 2 ^ 60 := by rw [e60]; omega
  have b2 : lowM d < 2 ^ 60 := by rw [e60]; omega
  have b3 : 4 * mantD d + 2 < 2 ^ 60 := by rw [e60]; omega
  obtain ⟨f1, f2, f3, f4, f5⟩ := hL.f0
  have h1 := ref12_scaled (4 * mantD d) (spE d) j b1 he hj
  have hin := fun x hx hxB => ref12_inside (4 * mantD d) (lowM d) (4 * mantD d + 2) x (spE d) j (decide (d % 2 = 0)) b2 b3 he hj hx hxB
  have hfl : 4 * mantD d * upS (spE d) j / beS (spE d) j * beS (spE d) j < 2 ^ 2600 := Nat.lt_of_le_of_lt f3 hL.hV
  have h5 := hin _ (p26 f2) (p26 hfl)
  have h6 := hin _ (p261 f2) (p265 f4)
  unfold bestD
  clear hin b1 b2 b3
  generalize lowM d * upS (spE d) j = lo at *
  generalize 4 * mantD d * upS (spE d) j = V at *
  generalize (4 * mantD d + 2) * upS (spE d) j = hi at *
  generalize beS (spE d) j = B at *
  generalize decide (d % 2 = 0) = cl at *
  have h2 := ref02_divide (p26 hL.hV) hL.hB0 hL.hBV
  have hBl : B < 2 ^ 2700 := p26 (Nat.lt_trans hL.hBl (Nat.pow_lt_pow_right (by decide) (by decide)))
  have hRl : V % B < 2 ^ 2700 := Nat.lt_trans f5 hBl
  have h3 := ref01_size (natL (V % B)) (by have := big_len hRl; omega)
  have h4 := ref01_plus (natL_limbs (V / B)) (natL_limbs 1) (big_len (p26 f2)) (by rw [natL_oneL]; decide) (val_natL _) (val_natL 1)
  rw [natL_oneL] at h4
  have h7 := ref01_less (natL_limbs B) (natL_limbs (V % B)) (big_len hBl) (big_len hRl) (val_natL _) (val_natL _) (Nat.le_of_lt f5)
  have h8 := ref_cmpU (u := V % B) (v := B - V % B) hRl (Nat.lt_of_le_of_lt (Nat.sub_le _ _) hBl)
  have h9 := bit0_ref (v := V / B) (bn_of (p26 f2))
  have hz : decide (((size (natL (V % B)) : Nat) : Int) = 0) = decide (V % B = 0) := decide_eq_decide.2 (by
    rw [size_natL]
    by_cases e : V % B = 0
    · rw [e, natL_zero]; simp
    · have := (natL_ge e).1
      omega)
  have go := fun res hb => choose_walk ((4 * mantD d : Nat) : Int) (lowM d : Int) ((4 * mantD d + 2 : Nat) : Int) (spE d) j cl (natL V) (natL B) (natL (V / B)) (natL (V % B)) (natL (V / B + 1)) _ _ _ _ _ _ _ res hz h1 h2 h3 h4 h5 h6 h7 h8 h9 hb
  clear h1 h2 h3 h4 h5 h6 h7 h8 h9 hz
  have hc := cmpU_cases (V % B) (B - V % B)
  by_cases hr : V % B = 0
  · rw [hL.whole cl hr]
    exact ⟨V / B, go _ (.inl ⟨decide_eq_true hr, rfl⟩), fun b hb => (Option.some.inj hb).symm⟩
  · have dr : decide (V % B = 0) = false := decide_eq_false hr
    have hm2 : V / B % 2 = 0 ∨ V / B % 2 = 1 := by omega
    unfold bestW
    by_cases c1 : hdB lo hi (V / B * B) cl = true
    · rw [if_pos c1]
      by_cases c2 : hdB lo hi ((V / B + 1) * B) cl = true
      · rw [if_pos c2]
        rcases hc with ⟨c3, c4⟩ | ⟨c3, c4⟩ | ⟨c3, c4⟩
        · rw [if_neg (by omega)]
          exact ⟨V / B, go _ (.inr (.inr (.inr (.inr (.inr (.inr ⟨dr, c1, c2, c3, rfl⟩)))))), fun b hb => (Option.some.inj hb).symm⟩
        · rcases hm2 with c5 | c5
          · rw [if_neg (by omega)]
            exact ⟨V / B, go _ (.inr (.inr (.inr (.inr (.inr (.inl ⟨dr, c1, c2, c3, by rw [c5]; rfl, rfl⟩)))))), fun b hb => (Option.some.inj hb).symm⟩
          · rw [if_pos (by omega)]
            exact ⟨V / B + 1, go _ (.inr (.inr (.inr (.inr (.inl ⟨dr, c1, c2, c3, by rw [c5]; rfl, rfl⟩))))), fun b hb => (Option.some.inj hb).symm⟩
        · rw [if_pos (by omega)]
          exact ⟨V / B + 1, go _ (.inr (.inr (.inr (.inl ⟨dr, c1, c2, c3, rfl⟩)))), fun b hb => (Option.some.inj hb).symm⟩
      · rw [if_neg c2]
        exact ⟨V / B, go _ (.inr (.inr (.inl ⟨dr, c1, by simpa using c2, rfl⟩))), fun b hb => (Option.some.inj hb).symm⟩
    · rw [if_neg c1]
      by_cases c2 : hdB lo hi ((V / B + 1) * B) cl = true
      · rw [if_pos c2]
        exact ⟨V / B + 1, go _ (.inr (.inl ⟨dr, by simpa using c1, by rw [c2]; rfl⟩)), fun b hb => (Option.some.inj hb).symm⟩
      · rw [if_neg c2]
        exact ⟨V / B + 1, go _ (.inr (.inl ⟨dr, by simpa using c1, by rw [show hdB lo hi ((V / B + 1) * B) cl = false by simpa using c2]; rfl⟩)), fun b hb => by cases hb⟩
theorem ref_within_walk (d n a e k j : Int) (neg : Bool) (mid lo hi : Int) (cl fd : Bool) (K : List Int) (dec : PV) (t : List Int) (y : Int) (hn : 1 ≤ n ∧ n ≤ 17) (ha : ¬ a = 0) (hj1 : IntKind.wrap .i64 (k + 1) = k + 1) (hj : IntKind.wrap .i64 (k + 1 - n) = j) (hneg : decide (9223372036854775808 ≤ d) = neg)
    (h1 : Meets Tryz.prog 31 [.int .u64 d] (.bool true)) (h2 : Meets Tryz.prog 32 [.int .u64 d] (.int .u64 a)) (h3 : Meets Tryz.prog 33 [.int .u64 d] (spanP mid lo hi e cl)) (h4 : Meets Tryz.prog 34 [.int .u64 mid, .int .i64 e] (.int .i64 k))
    (h5 : Meets Tryz.prog 35 [spanP mid lo hi e cl, .int .i64 j] (.tup [.ints .u64 K, .bool fd])) (hb : (fd = false ∧ dec = .agg [.bool false, .str [], .int .i64 0]) ∨ (fd = true ∧ dec = .agg [.bool neg, .str t, .int .i64 y] ∧ Meets Tryz.prog 36 [.bool neg, .ints .u64 K, .int .i64 j] (.agg [.bool neg, .str t, .int .i64 y]))) :
    Meets Tryz.prog 17 [.int .u64 d, .int .i64 n] (.tup [dec, .bool fd, .int .i64 0]) := by
  have d1 : decide (n < 1) = false := decide_eq_false (by omega)
  have d2 : decide (17 < n) = false := decide_eq_false (by omega)
  have d3 : decide (a = 0) = false := decide_eq_false ha
  rcases hb with ⟨rfl, rfl⟩ | ⟨rfl, rfl, h6⟩
  · skip
    refine meets_by ttOk Tryz.func17 Tryz.ntmps17 Tryz.results17 (by kernel_rfl) (c := _) rfl rfl rfl fun E => ?_
    simp only [argsFrame]
    repeat' first
      | (with_reducible first | refine PW.seq ?_ | refine PW.block ?_ | refine PW.fork ?_ | refine PW.skip ?_ | refine PW.exit ?_ | refine PW.ret ?_) | (simp only [d1, d2, d3, hj1, hj, hneg]) | ((with_reducible refine PW.region ttOk ?_ ?_); rfl) | ((with_reducible refine PW.regionD ttOk mixed ?_ ?_ ?_); rfl; rfl) | (with_reducible refine ifW_dec (fun g => ?_) (fun g => ?_) <;> first | (exfalso; omega) | (simp -dsimp only [g, wkI])) | ((with_reducible first | refine condE_dec (fun g => ?_) (fun g => ?_) | refine condE_not (fun g => ?_) (fun g => ?_)) <;> try (exfalso; omega)) | (simp -dsimp only [↓wkA, ↓wkE, ↓wkJ, wkB, ↓tt, Nat.reduceBEq, Nat.reduceEqDiff, ↓reduceIte, Nat.reduceLT, Array.toList, Nat.reduceAdd, Nat.reduceMul, Int.reduceToNat, Int.reducePow, UInt8.reduceToNat]) | (refine call_by (h1) (views_data rfl) ⟨trivial, trivial⟩ rfl ?_) | (refine call_by (h2) (views_data rfl) ⟨trivial, trivial⟩ rfl ?_) | (refine call_by (h3) (views_data rfl) ⟨trivial, trivial⟩ rfl ?_) | (refine call_by (h4) (views_data rfl) ⟨trivial, trivial, trivial⟩ rfl ?_) | (refine call_by (h5) (views_data rfl) (by simp only [okViews, okView, okViews0, okView0, and_self]) rfl ?_) | (simp -dsimp (disch := first | assumption | omega) only [dec_t, dec_f])
      | (refine And.intro ?_ ?_
         · first | omega | decide | (simp (disch := omega) only [wkW, Int.reduceToNat, Int.reducePow] <;> omega) | (simp <;> omega)) | (simp (disch := omega) only [wkW, Int.reduceToNat, Int.reducePow])
  · skip
    refine meets_by ttOk Tryz.func17 Tryz.ntmps17 Tryz.results17 (by kernel_rfl) (c := _) rfl rfl rfl fun E => ?_
    simp only [argsFrame]
    repeat' first
      | (with_reducible first | refine PW.seq ?_ | refine PW.block ?_ | refine PW.fork ?_ | refine PW.skip ?_ | refine PW.exit ?_ | refine PW.ret ?_) | (simp only [d1, d2, d3, hj1, hj, hneg]) | ((with_reducible refine PW.region ttOk ?_ ?_); rfl) | ((with_reducible refine PW.regionD ttOk mixed ?_ ?_ ?_); rfl; rfl) | (with_reducible refine ifW_dec (fun g => ?_) (fun g => ?_) <;> first | (exfalso; omega) | (simp -dsimp only [g, wkI])) | ((with_reducible first | refine condE_dec (fun g => ?_) (fun g => ?_) | refine condE_not (fun g => ?_) (fun g => ?_)) <;> try (exfalso; omega)) | (simp -dsimp only [↓wkA, ↓wkE, ↓wkJ, wkB, ↓tt, Nat.reduceBEq, Nat.reduceEqDiff, ↓reduceIte, Nat.reduceLT, Array.toList, Nat.reduceAdd, Nat.reduceMul, Int.reduceToNat, Int.reducePow, UInt8.reduceToNat]) | (refine call_by (h1) (views_data rfl) ⟨trivial, trivial⟩ rfl ?_) | (refine call_by (h2) (views_data rfl) ⟨trivial, trivial⟩ rfl ?_) | (refine call_by (h3) (views_data rfl) ⟨trivial, trivial⟩ rfl ?_) | (refine call_by (h4) (views_data rfl) ⟨trivial, trivial, trivial⟩ rfl ?_) | (refine call_by (h5) (views_data rfl) (by simp only [okViews, okView, okViews0, okView0, and_self]) rfl ?_) | (refine call_by (h6) (views_data rfl) ⟨trivial, trivial, trivial, trivial⟩ rfl ?_) | (simp -dsimp (disch := first | assumption | omega) only [dec_t, dec_f])
      | (refine And.intro ?_ ?_
         · first | omega | decide | (simp (disch := omega) only [wkW, Int.reduceToNat, Int.reducePow] <;> omega) | (simp <;> omega)) | (simp (disch := omega) only [wkW, Int.reduceToNat, Int.reducePow])
theorem ref12_within (d : Nat) (hd : d < 18446744073709551616) (hf : finD d) (h0 : absD d ≠ 0) (k j : Int) (n : Nat) (hn : 1 ≤ n ∧ n ≤ 17) (hk : -400 ≤ k ∧ k < 400) (hT : Ten (4 * mantD d) (spE d) k) (hj : k + 1 - n = j) :
    Meets Tryz.prog 17 [.int .u64 (d : Int), .int .i64 (n : Int)] (.tup [decR (negD d) j (bestD d j), .bool (bestD d j).isSome, .int .i64 0]) := by
  have hj2 : -420 ≤ j ∧ j ≤ 420 := by omega
  have h1 := ref04_finite d hd
  rw [decide_eq_true hf] at h1
  have hm0 : mantD d ≠ 0 := fun e => h0 (mantD_zero.1 e)
  have hml := mantD_lt d
  have he1 := expD_ge d
  have he2 := expD_le hf
  have he : -1100 ≤ spE d ∧ spE d ≤ 1000 := by unfold spE; omega
  have e60 : (2 : Nat) ^ 60 = 1152921504606846976 := by decide
  have h4 := ref12_tens (4 * mantD d) (spE d) k (by omega) (by rw [e60]; omega) he hk hT
  obtain ⟨K, h5, hK⟩ := ref12_choose d hd hf h0 k j hT hj2 (by omega)
  have hL := (look_of hf h0 hT hj2 (by omega)).f0
  have hbK : ∀ b, bestD d j = some b → b ≠ 0 ∧ b < 2 ^ 2700 := fun b hb => by
    unfold bestD at hb
    obtain ⟨f1, f2, _, _, _⟩ := hL
    rcases bestW_cases (lowM d * upS (spE d) j) (4 * mantD d * upS (spE d) j) ((4 * mantD d + 2) * upS (spE d) j) (beS (spE d) j) (decide (d % 2 = 0)) with h | h | h
    · rw [h] at hb; cases hb
    · rw [h] at hb
      obtain rfl := Option.some.inj hb
      exact ⟨by omega, p26 f2⟩
    · rw [h] at hb
      obtain rfl := Option.some.inj hb
      exact ⟨by omega, p261 f2⟩
  have hneg : decide (9223372036854775808 ≤ (d : Int)) = negD d := decide_eq_decide.2 (by omega)
  have hj1 : IntKind.wrap .i64 (k + 1) = k + 1 := wrap_i64 (by omega)
  have hj3 : IntKind.wrap .i64 (k + 1 - (n : Int)) = j := by rw [wrap_i64 (by omega)]; exact hj
  generalize bestD d j = o at *
  cases o with
  | none => exact ref_within_walk _ _ _ _ _ _ _ _ _ _ _ _ _ _ [] 0 (by omega) (by omega) hj1 hj3 hneg h1 (ref04_abs d hd) (ref12_span d hd hf h0) h4 h5 (.inl ⟨rfl, rfl⟩)
  | some b =>
    obtain rfl := hK b rfl
    obtain ⟨b1, b2⟩ := hbK b rfl
    have hwl := written_le b1 b2
    exact ref_within_walk _ _ _ _ _ _ _ _ _ _ _ _ _ _ _ _ (by omega) (by omega) hj1 hj3 hneg h1 (ref04_abs d hd) (ref12_span d hd hf h0) h4 h5 (.inr ⟨rfl, rfl, ref12_normal (negD d) (natL b) (written 10 false b) j (by omega) (ref_digits_natU (bn_of b2)) (written_ne (by decide) false b) (written_head b1) (by omega)⟩)
def firstD (d : Nat) (k : Int) : Nat → Nat → PV
  | 0, _ => .agg [.bool false, .str [], .int .i64 0]
  | m + 1, n => if (bestD d (k + 1 - n)).isSome then decR (negD d) (k + 1 - n) (bestD d (k + 1 - n)) else firstD d k m (n + 1)
def shortP (d : Nat) (k : Int) : PV := firstD d k 17 1
theorem decR_none (neg : Bool) (j : Int) {o : Option Nat} (h : ¬ o.isSome = true) : decR neg j o = .agg [.bool false, .str [], .int .i64 0] := by
  cases o with
  | none => rfl
  | some b => exact absurd rfl h
theorem decR_dec (neg : Bool) (j : Int) (o : Option Nat) : ∃ a s x, decR neg j o = .agg [.bool a, .str s, .int .i64 x] := by
  cases o <;> exact ⟨_, _, _, rfl⟩
theorem first_dec (d : Nat) (k : Int) : ∀ m n, ∃ a s x, firstD d k m n = .agg [.bool a, .str s, .int .i64 x]
  | 0, n => ⟨_, _, _, rfl⟩
  | m + 1, n => by
    rw [firstD]
    split
    · exact decR_dec _ _ _
    · exact first_dec d k m (n + 1)
abbrev sdF (d k : Int) (n : Nat) : PV.Frame := [(5, .int .i64 (n : Int)), (4, .int .i64 k), (0, .int .u64 d), (2, .ptr 0 0 0), (3, .int .i64 0)]
abbrev sdH : PV.Heap := ⟨1, [(0, .var [.bool false, .str [], .int .i64 0])], [], []⟩
theorem short_digits (d : Nat) (hd : d < 18446744073709551616) (hf : finD d) (h0 : absD d ≠ 0) (k : Int) (hk : -400 ≤ k ∧ k < 400) (hT : Ten (4 * mantD d) (spE d) k) :
    Meets Tryz.prog 13 [.int .u64 (d : Int)] (.tup [shortP d k, .int .i64 0]) := by
  have h1 := short_finite d hd
  rw [decide_eq_true hf] at h1
  have h2 := ieee_class d hd
  have hc : decide (classD d = 0) = false := decide_eq_false fun e => by unfold classD at e; rw [if_neg h0] at e; (repeat' split at e) <;> omega
  have h3 := short_leading d hd hf h0 k hk hT
  have hw := fun (n : Nat) (hn : 1 ≤ n ∧ n ≤ 17) => short_within d hd hf h0 k _ n hn hk hT rfl
  obtain ⟨ra, rs, rx, hR⟩ := first_dec d k 17 1
  have hR2 := hR
  unfold shortP
  rw [hR]
  have hstep : ∀ m n, firstD d k (m + 1) n = if (bestD d (k + 1 - n)).isSome then decR (negD d) (k + 1 - n) (bestD d (k + 1 - n)) else firstD d k m (n + 1) := fun m n => rfl
  have hlast : ∀ n, firstD d k 0 n = .agg [.bool false, .str [], .int .i64 0] := fun n => rfl
  generalize firstD d k = fD at *
  generalize bestD d = bD at *
  generalize negD d = ng at *
  generalize classD d = cl at *
  clear hT
  refine meets_by ttOk Tryz.func13 Tryz.ntmps13 Tryz.results13 (by kernel_rfl) (c := _) rfl rfl rfl fun E => ?_
  simp only [argsFrame]
  repeat' first
    | (with_reducible first | refine PW.seq ?_ | refine PW.block ?_ | refine PW.fork ?_ | refine PW.skip ?_ | refine PW.exit ?_ | refine PW.ret ?_) | (simp only [hc]) | ((with_reducible refine PW.region ttOk ?_ ?_); rfl) | ((with_reducible refine PW.regionD ttOk mixed ?_ ?_ ?_); rfl; rfl) | (with_reducible refine ifW_dec (fun g => ?_) (fun g => ?_) <;> first | (exfalso; omega) | (simp -dsimp only [g, wkI])) | ((with_reducible first | refine condE_dec (fun g => ?_) (fun g => ?_) | refine condE_not (fun g => ?_) (fun g => ?_)) <;> try (exfalso; omega)) | (simp -dsimp only [↓wkA, ↓wkE, ↓wkJ, wkB, ↓tt, Nat.reduceBEq, Nat.reduceEqDiff, ↓reduceIte, Nat.reduceLT, Array.toList, Nat.reduceAdd, Nat.reduceMul, Int.reduceToNat, Int.reducePow, UInt8.reduceToNat]) | (refine call_by (h1) (views_data rfl) ⟨trivial, trivial⟩ rfl ?_) | (refine call_by (h2) (views_data rfl) ⟨trivial, trivial⟩ rfl ?_) | (refine call_by (h3) (views_data rfl) ⟨trivial, trivial⟩ rfl ?_) | (simp -dsimp (disch := first | assumption | omega) only [dec_t, dec_f])
    | (refine And.intro ?_ ?_
       · first | omega | decide | (simp (disch := omega) only [wkW, Int.reduceToNat, Int.reducePow] <;> omega) | (simp <;> omega)) | (simp (disch := omega) only [wkW, Int.reduceToNat, Int.reducePow])
  refine PW.loopA (fun m F H => ∃ n : Nat, n + m = 17 ∧ 1 ≤ n ∧ fD (m + 1) n = .agg [.bool ra, .str rs, .int .i64 rx] ∧ F = sdF d k n ∧ H = sdH) 16 (sdF d k 1) sdH (Sub.norm ⟨rfl, rfl, rfl, rfl, rfl, trivial⟩ ⟨rfl, trivial⟩ (Nat.le_refl _) rfl rfl rfl rfl) ⟨1, by omega, by omega, hR2, rfl, rfl⟩ ?_
  clear hR hR2
  rintro m F H ⟨n, hn, hn1, hR, rfl, rfl⟩
  have hW := hw n (by omega)
  rw [hstep] at hR
  obtain ⟨wa, ws, wx, hdr⟩ := decR_dec ng (k + 1 - n) (bD (k + 1 - n))
  have hnone := @decR_none ng (k + 1 - n) (bD (k + 1 - n))
  rw [hdr] at hR hW hnone
  generalize hsm : (bD (k + 1 - n)).isSome = sm at *
  clear hw hsm hdr
  cases sm with
  | true =>
    rw [if_pos rfl] at hR
    rw [hR] at hW
    repeat' first
      | (with_reducible first | refine PW.seq ?_ | refine PW.block ?_ | refine PW.fork ?_ | refine PW.skip ?_ | refine PW.exit ?_ | refine PW.ret ?_) | ((with_reducible refine PW.region ttOk ?_ ?_); rfl) | ((with_reducible refine PW.regionD ttOk mixed ?_ ?_ ?_); rfl; rfl) | (with_reducible refine ifW_dec (fun g => ?_) (fun g => ?_) <;> first | (exfalso; omega) | (simp -dsimp only [g, wkI])) | ((with_reducible first | refine condE_dec (fun g => ?_) (fun g => ?_) | refine condE_not (fun g => ?_) (fun g => ?_)) <;> try (exfalso; omega)) | (simp -dsimp only [↓wkA, ↓wkE, ↓wkJ, wkB, ↓tt, Nat.reduceBEq, Nat.reduceEqDiff, ↓reduceIte, Nat.reduceLT, Array.toList, Nat.reduceAdd, Nat.reduceMul, Int.reduceToNat, Int.reducePow, UInt8.reduceToNat]) | (refine call_by (hW) (views_data rfl) (by simp only [okViews, okView, okViews0, okView0, and_self]) rfl ?_) | (simp -dsimp (disch := first | assumption | omega) only [dec_t, dec_f])
      | (refine And.intro ?_ ?_
         · first | omega | decide | (simp (disch := omega) only [wkW, Int.reduceToNat, Int.reducePow] <;> omega) | (simp <;> omega)) | (simp (disch := omega) only [wkW, Int.reduceToNat, Int.reducePow])
  | false =>
    rw [if_neg (by decide)] at hR
    cases m with
    | zero =>
      obtain rfl : n = 17 := by omega
      rw [hlast] at hR
      rw [hnone (by decide), hR] at hW
      repeat' first
        | (with_reducible first | refine PW.seq ?_ | refine PW.block ?_ | refine PW.fork ?_ | refine PW.skip ?_ | refine PW.exit ?_ | refine PW.ret ?_) | ((with_reducible refine PW.region ttOk ?_ ?_); rfl) | ((with_reducible refine PW.regionD ttOk mixed ?_ ?_ ?_); rfl; rfl) | (with_reducible refine ifW_dec (fun g => ?_) (fun g => ?_) <;> first | (exfalso; omega) | (simp -dsimp only [g, wkI])) | ((with_reducible first | refine condE_dec (fun g => ?_) (fun g => ?_) | refine condE_not (fun g => ?_) (fun g => ?_)) <;> try (exfalso; omega)) | (simp -dsimp only [↓wkA, ↓wkE, ↓wkJ, wkB, ↓tt, Nat.reduceBEq, Nat.reduceEqDiff, ↓reduceIte, Nat.reduceLT, Array.toList, Nat.reduceAdd, Nat.reduceMul, Int.reduceToNat, Int.reducePow, UInt8.reduceToNat]) | (refine call_by (hW) (views_data rfl) (by simp only [okViews, okView, okViews0, okView0, and_self]) rfl ?_) | (simp -dsimp (disch := first | assumption | omega) only [dec_t, dec_f])
        | (refine And.intro ?_ ?_
           · first | omega | decide | (simp (disch := omega) only [wkW, Int.reduceToNat, Int.reducePow] <;> omega) | (simp <;> omega)) | (simp (disch := omega) only [wkW, Int.reduceToNat, Int.reducePow])
    | succ m =>
      have d1 : decide ((n : Int) = 17) = false := decide_eq_false (by omega)
      have w1 : IntKind.wrap .i64 ((n : Int) + 1) = ((n + 1 : Nat) : Int) := wrap_i64 (by omega)
      repeat' first
        | (with_reducible first | refine PW.seq ?_ | refine PW.block ?_ | refine PW.fork ?_ | refine PW.skip ?_ | refine PW.exit ?_ | refine PW.ret ?_) | (simp only [d1, w1]) | ((with_reducible refine PW.region ttOk ?_ ?_); rfl) | ((with_reducible refine PW.regionD ttOk mixed ?_ ?_ ?_); rfl; rfl) | (with_reducible refine ifW_dec (fun g => ?_) (fun g => ?_) <;> first | (exfalso; omega) | (simp -dsimp only [g, wkI])) | ((with_reducible first | refine condE_dec (fun g => ?_) (fun g => ?_) | refine condE_not (fun g => ?_) (fun g => ?_)) <;> try (exfalso; omega)) | (simp -dsimp only [↓wkA, ↓wkE, ↓wkJ, wkB, ↓tt, Nat.reduceBEq, Nat.reduceEqDiff, ↓reduceIte, Nat.reduceLT, Array.toList, Nat.reduceAdd, Nat.reduceMul, Int.reduceToNat, Int.reducePow, UInt8.reduceToNat]) | (refine call_by (hW) (views_data rfl) (by simp only [okViews, okView, okViews0, okView0, and_self]) rfl ?_) | (simp -dsimp (disch := first | assumption | omega) only [dec_t, dec_f])
        | (refine And.intro ?_ ?_
           · first | omega | decide | (simp (disch := omega) only [wkW, Int.reduceToNat, Int.reducePow] <;> omega) | (simp <;> omega)) | (simp (disch := omega) only [wkW, Int.reduceToNat, Int.reducePow])
      exact Again.mk m (sdF d k (n + 1)) sdH (by omega) (Sub.norm ⟨rfl, rfl, rfl, rfl, rfl, trivial⟩ ⟨rfl, trivial⟩ (by simp) rfl rfl rfl rfl) ⟨n + 1, by omega, by omega, hR, rfl, rfl⟩
abbrev rdF (d : Int) (n : Nat) : PV.Frame := [(4, .int .i64 (n : Int)), (0, .int .u64 d), (2, .ptr 0 0 0), (3, .int .i64 0)]
theorem ref12_digits (d : Nat) (hd : d < 18446744073709551616) (hf : finD d) (h0 : absD d ≠ 0) (k : Int) (hk : -400 ≤ k ∧ k < 400) (hT : Ten (4 * mantD d) (spE d) k) :
    ∃ e : Int, Meets Tryz.prog 16 [.int .u64 (d : Int)] (.tup [shortP d k, .int .i64 e]) := by
  have hw := fun (n : Nat) (hn : 1 ≤ n ∧ n ≤ 17) => ref12_within d hd hf h0 k _ n hn hk hT rfl
  obtain ⟨ra, rs, rx, hR⟩ := first_dec d k 17 1
  have hR2 := hR
  unfold shortP
  rw [hR]
  have hstep : ∀ m n, firstD d k (m + 1) n = if (bestD d (k + 1 - n)).isSome then decR (negD d) (k + 1 - n) (bestD d (k + 1 - n)) else firstD d k m (n + 1) := fun m n => rfl
  have hlast : ∀ n, firstD d k 0 n = .agg [.bool false, .str [], .int .i64 0] := fun n => rfl
  obtain ⟨rest, hrest⟩ : ∃ rest : Bool, rest = true ↔ ∃ n : Nat, 1 ≤ n ∧ n ≤ 17 ∧ (bestD d (k + 1 - n)).isSome = true := by
    by_cases h : ∃ n : Nat, 1 ≤ n ∧ n ≤ 17 ∧ (bestD d (k + 1 - n)).isSome = true
    · exact ⟨true, fun _ => h, fun _ => rfl⟩
    · exact ⟨false, fun h2 => (by cases h2), fun h2 => absurd h2 h⟩
  refine ⟨if rest then 0 else 80, ?_⟩
  have hany : ∀ n : Nat, 1 ≤ n → n ≤ 17 → (bestD d (k + 1 - n)).isSome = true → rest = true := fun n h1 h2 h3 => hrest.2 ⟨n, h1, h2, h3⟩
  have hall : (∀ n : Nat, 1 ≤ n → n ≤ 17 → ¬ (bestD d (k + 1 - n)).isSome = true) → rest = false := fun h => by
    cases hr : rest with
    | false => rfl
    | true =>
      obtain ⟨n, h1, h2, h3⟩ := hrest.1 hr
      exact absurd h3 (h n h1 h2)
  clear hrest
  generalize firstD d k = fD at *
  generalize bestD d = bD at *
  generalize negD d = ng at *
  clear hT
  refine meets_by ttOk Tryz.func16 Tryz.ntmps16 Tryz.results16 (by kernel_rfl) (c := _) rfl rfl rfl fun E => ?_
  simp only [argsFrame]
  repeat' first
    | (with_reducible first | refine PW.seq ?_ | refine PW.block ?_ | refine PW.fork ?_ | refine PW.skip ?_ | refine PW.exit ?_ | refine PW.ret ?_) | ((with_reducible refine PW.region ttOk ?_ ?_); rfl) | ((with_reducible refine PW.regionD ttOk mixed ?_ ?_ ?_); rfl; rfl) | (with_reducible refine ifW_dec (fun g => ?_) (fun g => ?_) <;> first | (exfalso; omega) | (simp -dsimp only [g, wkI])) | ((with_reducible first | refine condE_dec (fun g => ?_) (fun g => ?_) | refine condE_not (fun g => ?_) (fun g => ?_)) <;> try (exfalso; omega)) | (simp -dsimp only [↓wkA, ↓wkE, ↓wkJ, wkB, ↓tt, Nat.reduceBEq, Nat.reduceEqDiff, ↓reduceIte, Nat.reduceLT, Array.toList, Nat.reduceAdd, Nat.reduceMul, Int.reduceToNat, Int.reducePow, UInt8.reduceToNat]) | (simp -dsimp (disch := first | assumption | omega) only [dec_t, dec_f])
    | (refine And.intro ?_ ?_
       · first | omega | decide | (simp (disch := omega) only [wkW, Int.reduceToNat, Int.reducePow] <;> omega) | (simp <;> omega)) | (simp (disch := omega) only [wkW, Int.reduceToNat, Int.reducePow])
  refine PW.loopA (fun m F H => ∃ n : Nat, n + m = 18 ∧ 1 ≤ n ∧ fD m n = .agg [.bool ra, .str rs, .int .i64 rx] ∧ (∀ i : Nat, 1 ≤ i → i < n → ¬ (bD (k + 1 - i)).isSome = true) ∧ F = rdF d n ∧ H = sdH) 17 (rdF d 1) sdH (Sub.norm ⟨rfl, rfl, rfl, rfl, trivial⟩ ⟨rfl, trivial⟩ (Nat.le_refl _) rfl rfl rfl rfl) ⟨1, by omega, by omega, hR2, fun i h1 h2 => by omega, rfl, rfl⟩ ?_
  clear hR hR2
  rintro m F H ⟨n, hn, hn1, hR, hpast, rfl, rfl⟩
  cases m with
  | zero =>
    obtain rfl : n = 18 := by omega
    rw [hlast] at hR
    injection hR with hR
    injection hR with hR1 hR
    injection hR with hR2 hR
    injection hR with hR3 hR
    injection hR1 with hR1
    injection hR2 with hR2
    injection hR3 with hR3 hR4
    subst hR1 hR2 hR4
    rw [hall fun i h1 h2 => hpast i h1 (by omega), if_neg (by decide)]
    repeat' first
      | (with_reducible first | refine PW.seq ?_ | refine PW.block ?_ | refine PW.fork ?_ | refine PW.skip ?_ | refine PW.exit ?_ | refine PW.ret ?_) | ((with_reducible refine PW.region ttOk ?_ ?_); rfl) | ((with_reducible refine PW.regionD ttOk mixed ?_ ?_ ?_); rfl; rfl) | (with_reducible refine ifW_dec (fun g => ?_) (fun g => ?_) <;> first | (exfalso; omega) | (simp -dsimp only [g, wkI])) | ((with_reducible first | refine condE_dec (fun g => ?_) (fun g => ?_) | refine condE_not (fun g => ?_) (fun g => ?_)) <;> try (exfalso; omega)) | (simp -dsimp only [↓wkA, ↓wkE, ↓wkJ, wkB, ↓tt, Nat.reduceBEq, Nat.reduceEqDiff, ↓reduceIte, Nat.reduceLT, Array.toList, Nat.reduceAdd, Nat.reduceMul, Int.reduceToNat, Int.reducePow, UInt8.reduceToNat]) | (simp -dsimp (disch := first | assumption | omega) only [dec_t, dec_f])
      | (refine And.intro ?_ ?_
         · first | omega | decide | (simp (disch := omega) only [wkW, Int.reduceToNat, Int.reducePow] <;> omega) | (simp <;> omega)) | (simp (disch := omega) only [wkW, Int.reduceToNat, Int.reducePow])
  | succ m =>
    have d0 : decide ((n : Int) ≤ 17) = true := decide_eq_true (by omega)
    have hW := hw n (by omega)
    have hny := hany n hn1 (by omega)
    have hpast2 : ¬ (bD (k + 1 - n)).isSome = true → ∀ i : Nat, 1 ≤ i → i < n + 1 → ¬ (bD (k + 1 - i)).isSome = true := fun h i h1 h2 => by
      by_cases e : i = n
      · subst e; exact h
      · exact hpast i h1 (by omega)
    clear hpast
    rw [hstep] at hR
    obtain ⟨wa, ws, wx, hdr⟩ := decR_dec ng (k + 1 - n) (bD (k + 1 - n))
    rw [hdr] at hR hW
    generalize hsm : (bD (k + 1 - n)).isSome = sm at *
    clear hw hdr hany
    cases sm with
    | true =>
      rw [if_pos rfl] at hR
      rw [hR] at hW
      rw [hny rfl, if_pos rfl]
      repeat' first
        | (with_reducible first | refine PW.seq ?_ | refine PW.block ?_ | refine PW.fork ?_ | refine PW.skip ?_ | refine PW.exit ?_ | refine PW.ret ?_) | (simp only [d0]) | ((with_reducible refine PW.region ttOk ?_ ?_); rfl) | ((with_reducible refine PW.regionD ttOk mixed ?_ ?_ ?_); rfl; rfl) | (with_reducible refine ifW_dec (fun g => ?_) (fun g => ?_) <;> first | (exfalso; omega) | (simp -dsimp only [g, wkI])) | ((with_reducible first | refine condE_dec (fun g => ?_) (fun g => ?_) | refine condE_not (fun g => ?_) (fun g => ?_)) <;> try (exfalso; omega)) | (simp -dsimp only [↓wkA, ↓wkE, ↓wkJ, wkB, ↓tt, Nat.reduceBEq, Nat.reduceEqDiff, ↓reduceIte, Nat.reduceLT, Array.toList, Nat.reduceAdd, Nat.reduceMul, Int.reduceToNat, Int.reducePow, UInt8.reduceToNat]) | (refine call_by (hW) (views_data rfl) ⟨trivial, trivial, trivial⟩ rfl ?_) | (simp -dsimp (disch := first | assumption | omega) only [dec_t, dec_f])
        | (refine And.intro ?_ ?_
           · first | omega | decide | (simp (disch := omega) only [wkW, Int.reduceToNat, Int.reducePow] <;> omega) | (simp <;> omega)) | (simp (disch := omega) only [wkW, Int.reduceToNat, Int.reducePow])
    | false =>
      rw [if_neg (by decide)] at hR
      have w1 : IntKind.wrap .i64 ((n : Int) + 1) = ((n + 1 : Nat) : Int) := wrap_i64 (by omega)
      repeat' first
        | (with_reducible first | refine PW.seq ?_ | refine PW.block ?_ | refine PW.fork ?_ | refine PW.skip ?_ | refine PW.exit ?_ | refine PW.ret ?_) | (simp only [d0, w1]) | ((with_reducible refine PW.region ttOk ?_ ?_); rfl) | ((with_reducible refine PW.regionD ttOk mixed ?_ ?_ ?_); rfl; rfl) | (with_reducible refine ifW_dec (fun g => ?_) (fun g => ?_) <;> first | (exfalso; omega) | (simp -dsimp only [g, wkI])) | ((with_reducible first | refine condE_dec (fun g => ?_) (fun g => ?_) | refine condE_not (fun g => ?_) (fun g => ?_)) <;> try (exfalso; omega)) | (simp -dsimp only [↓wkA, ↓wkE, ↓wkJ, wkB, ↓tt, Nat.reduceBEq, Nat.reduceEqDiff, ↓reduceIte, Nat.reduceLT, Array.toList, Nat.reduceAdd, Nat.reduceMul, Int.reduceToNat, Int.reducePow, UInt8.reduceToNat]) | (refine call_by (hW) (views_data rfl) ⟨trivial, trivial, trivial⟩ rfl ?_) | (simp -dsimp (disch := first | assumption | omega) only [dec_t, dec_f])
        | (refine And.intro ?_ ?_
           · first | omega | decide | (simp (disch := omega) only [wkW, Int.reduceToNat, Int.reducePow] <;> omega) | (simp <;> omega)) | (simp (disch := omega) only [wkW, Int.reduceToNat, Int.reducePow])
      exact Again.mk m (rdF d (n + 1)) sdH (by omega) (Sub.norm ⟨rfl, rfl, rfl, rfl, trivial⟩ ⟨rfl, trivial⟩ (by simp) rfl rfl rfl rfl) ⟨n + 1, by omega, by omega, hR, hpast2 (by decide), rfl, rfl⟩
theorem meets_lib {f : FuncId} {fn : Func} {c : Code} {args : List PV} {res : PV} (hf : Tryz.prog.funcs[f]? = some fn) (hname : (fn.name == "runtime.NumGoroutine") = false) (hb : fn.body = some c)
    (h : ∀ (w : World) (A : Nat → Prop) (vs : Array Value), args.length = vs.size → (∀ i, i < args.length → RD w A (args.getD i .undef) (vs.getD i undef)) →
      ∃ v, (∀ w' A, RD w' A res v) ∧ Calls Tryz.prog f vs w fun e w' => e = .returned v ∧ Go.RowKit.Below w.heap.size w w') : Meets Tryz.prog f args res := by
  refine ⟨fun w A vs hA hl ha => ?_⟩
  obtain ⟨v, hv, hc⟩ := h w A vs hl ha
  exact .inl ⟨call_enters hf hname hb vs w, hc.mono fun e w' ⟨he, hbel⟩ => ⟨v, he, hbel, hv _ _⟩⟩
theorem two_args {w : World} {A : Nat → Prop} {p q : PV} {vs : Array Value} (hl : [p, q].length = vs.size) (ha : ∀ i, i < [p, q].length → RD w A ([p, q].getD i .undef) (vs.getD i undef)) : ∃ u v, vs = #[u, v] ∧ RD w A p u ∧ RD w A q v := by
  have hs : vs.size = 2 := by simpa using hl.symm
  refine ⟨vs[0], vs[1], Array.ext (by simp [hs]) fun i h1 h2 => ?_, ?_, ?_⟩
  · match i, h1, h2 with
    | 0, _, _ => rfl
    | 1, _, _ => rfl
    | i + 2, h1, _ => omega
  · have := ha 0 (by simp)
    simpa [Array.getD, hs] using this
  · have := ha 1 (by simp)
    simpa [Array.getD, hs] using this
theorem bytes_of {s : ByteArray} {l : List Int} (h : bytesI s = l) : s.data.toList = l.map fun x => x.toNat.toUInt8 := by
  subst h
  unfold bytesI
  rw [List.map_map]
  refine (List.map_id _).symm.trans (List.map_congr_left fun b _ => ?_)
  simp
theorem repeatL_one (y : UInt8) : ∀ c, Lib.repeatL [y] c = List.replicate c y
  | 0 => rfl
  | c + 1 => by rw [Lib.repeatL, repeatL_one y c]; rfl
theorem repeat_byte (x : Int) (hx : 0 ≤ x ∧ x < 256) (c : Nat) (hc : c ≤ 1000000000) : Meets Tryz.prog 22 [.str [x], .int .i64 (c : Int)] (.str (List.replicate c x)) := by
  refine meets_lib Tryz.func22 (by kernel_rfl) (c := _) rfl fun w A vs hl ha => ?_
  obtain ⟨u, v, rfl, h1, h2⟩ := two_args hl ha
  obtain rfl := rd_int h2
  cases h1 with
  | str s _ h =>
    have hb := bytes_of h
    have hsz : s.size = 1 := by
      have := bytesI_length s
      rw [h] at this
      simpa using this.symm
    refine ⟨.string ⟨(Lib.repeatL s.data.toList c).toArray⟩, fun w' A => .str _ _ ?_, Tryz.strings_Repeat s c w (by omega) (by rw [hsz]; omega)⟩
    rw [hb]
    simp only [List.map_cons, List.map_nil, repeatL_one]
    unfold bytesI
    simp only [List.map_replicate]
    congr 1
    simp
    omega
def itoaI (n : Int) : List Int := bytesI ⟨(Lib.itoa n).toArray⟩
theorem heap_grow_old' (w : World) (k : Nat) (os : Array Obj) (j : Nat) (hj : j < w.heap.size) : (Go.Sort.grow (w.drewN k) os).heap[j]? = w.heap[j]? := by
  show (w.heap ++ os)[j]? = _
  rw [Array.getElem?_append_left hj]
theorem itoa_meets (n : Int) (hn : -9223372036854775808 ≤ n ∧ n ≤ 9223372036854775807) : Meets Tryz.prog 23 [.int .i64 n] (.str (itoaI n)) := by
  refine ⟨fun w A vs hA hl ha => .inl ⟨call_enters Tryz.func23 (by kernel_rfl) (c := _) rfl vs w, ?_⟩⟩
  have hs : vs.size = 1 := by simpa using hl.symm
  obtain ⟨v, rfl⟩ : ∃ v, vs = #[v] := ⟨vs[0], Array.ext (by simp [hs]) fun i h1 h2 => by
    have : i = 0 := by omega
    subst this; rfl⟩
  have h0 := ha 0 (by simp)
  simp only [List.getD_cons_zero, Array.getD] at h0
  obtain rfl := rd_int h0
  have htab : Lib.TabIs Tryz.prog w "internal/strconv.uint64pow10" .u64 Lib.pow10Tab := by
    obtain ⟨gl, hg, hn⟩ := Option.map_eq_some_iff.1 (show (Tryz.prog.globals[1]?).map (·.name) = some "internal/strconv.uint64pow10" by kernel_rfl)
    obtain ⟨el, fr, h1⟩ := hA.1 1 gl (.u64, (List.range 20).map fun i => ((10 ^ i : Nat) : Int)) hg (by rw [hn]; rfl)
    unfold Lib.TabIs World.var?
    rw [show Tryz.prog.globalNamed "internal/strconv.uint64pow10" = some 1 by kernel_rfl]
    simp only [Option.bind_some]
    rw [h1]
    rfl
  refine (Tryz.strconv_Itoa n hn.1 hn.2 w htab).mono fun e w' ⟨he, k, os, hw⟩ => ⟨_, he, ?_, .str _ _ rfl⟩
  rw [hw]
  exact ⟨rfl, rfl, rfl, by show w.heap.size ≤ (w.heap ++ os).size; rw [Array.size_append]; omega, fun j hj => heap_grow_old' w k os j hj⟩
theorem ref_zeros (n : Nat) (hn : n ≤ 100000) : Meets Tryz.prog 51 [.int .i64 (n : Int)] (.str (List.replicate n 48)) := by
  refine meets_by ttOk Tryz.func51 Tryz.ntmps51 Tryz.results51 (by kernel_rfl) (c := _) rfl rfl rfl fun E => ?_
  simp only [argsFrame]
  repeat' first
    | (with_reducible first | refine PW.seq ?_ | refine PW.block ?_ | refine PW.fork ?_ | refine PW.skip ?_ | refine PW.exit ?_ | refine PW.ret ?_) | ((with_reducible refine PW.region ttOk ?_ ?_); rfl) | ((with_reducible refine PW.regionD ttOk mixed ?_ ?_ ?_); rfl; rfl) | (with_reducible refine ifW_dec (fun g => ?_) (fun g => ?_) <;> first | (exfalso; omega) | (simp -dsimp only [g, wkI])) | ((with_reducible first | refine condE_dec (fun g => ?_) (fun g => ?_) | refine condE_not (fun g => ?_) (fun g => ?_)) <;> try (exfalso; omega)) | (simp -dsimp only [↓wkA, ↓wkE, ↓wkJ, wkB, ↓tt, Nat.reduceBEq, Nat.reduceEqDiff, ↓reduceIte, Nat.reduceLT, Array.toList, Nat.reduceAdd, Nat.reduceMul, Int.reduceToNat, Int.reducePow, UInt8.reduceToNat]) | (simp -dsimp (disch := first | assumption | omega) only [dec_t, dec_f])
    | (refine And.intro ?_ ?_
       · first | omega | decide | (simp (disch := omega) only [wkW, Int.reduceToNat, Int.reducePow] <;> omega) | (simp <;> omega)) | (simp (disch := omega) only [wkW, Int.reduceToNat, Int.reducePow])
  refine PW.loopA (fun m F H => ∃ i s, i + m = n ∧ s = List.replicate i (48 : Int) ∧ F = [(4, .int .i64 (i : Int)), (3, .str s), (0, .int .i64 (n : Int))] ∧ H = ⟨0, [], [], []⟩) n [(4, .int .i64 ((0 : Nat) : Int)), (3, .str []), (0, .int .i64 (n : Int))] ⟨0, [], [], []⟩ (Sub.norm ⟨rfl, rfl, rfl, trivial⟩ trivial (by simp) rfl rfl rfl rfl) ⟨0, [], by omega, rfl, rfl, rfl⟩ ?_
  rintro m F H ⟨i, s, hi, hs, rfl, rfl⟩
  have hsl : s.length = i := by rw [hs, List.length_replicate]
  cases m with
  | zero =>
    obtain rfl : i = n := by omega
    rw [← hs]
    have d1 : decide ((i : Int) < (i : Int)) = false := decide_eq_false (by omega)
    repeat' first
      | (with_reducible first | refine PW.seq ?_ | refine PW.block ?_ | refine PW.fork ?_ | refine PW.skip ?_ | refine PW.exit ?_ | refine PW.ret ?_) | (simp only [d1]) | ((with_reducible refine PW.region ttOk ?_ ?_); rfl) | ((with_reducible refine PW.regionD ttOk mixed ?_ ?_ ?_); rfl; rfl) | (with_reducible refine ifW_dec (fun g => ?_) (fun g => ?_) <;> first | (exfalso; omega) | (simp -dsimp only [g, wkI])) | ((with_reducible first | refine condE_dec (fun g => ?_) (fun g => ?_) | refine condE_not (fun g => ?_) (fun g => ?_)) <;> try (exfalso; omega)) | (simp -dsimp only [↓wkA, ↓wkE, ↓wkJ, wkB, ↓tt, Nat.reduceBEq, Nat.reduceEqDiff, ↓reduceIte, Nat.reduceLT, Array.toList, Nat.reduceAdd, Nat.reduceMul, Int.reduceToNat, Int.reducePow, UInt8.reduceToNat]) | (simp -dsimp (disch := first | assumption | omega) only [dec_t, dec_f])
      | (refine And.intro ?_ ?_
         · first | omega | decide | (simp (disch := omega) only [wkW, Int.reduceToNat, Int.reducePow] <;> omega) | (simp <;> omega)) | (simp (disch := omega) only [wkW, Int.reduceToNat, Int.reducePow])
  | succ m =>
    have d1 : decide ((i : Int) < (n : Int)) = true := decide_eq_true (by omega)
    have w1 : IntKind.wrap .i64 ((i : Int) + 1) = ((i + 1 : Nat) : Int) := wrap_i64 (by omega)
    have hs2 : s ++ [48] = List.replicate (i + 1) 48 := by rw [hs, List.replicate_succ']
    repeat' first
      | (with_reducible first | refine PW.seq ?_ | refine PW.block ?_ | refine PW.fork ?_ | refine PW.skip ?_ | refine PW.exit ?_ | refine PW.ret ?_) | (simp only [d1, w1]) | ((with_reducible refine PW.region ttOk ?_ ?_); rfl) | ((with_reducible refine PW.regionD ttOk mixed ?_ ?_ ?_); rfl; rfl) | (with_reducible refine ifW_dec (fun g => ?_) (fun g => ?_) <;> first | (exfalso; omega) | (simp -dsimp only [g, wkI])) | ((with_reducible first | refine condE_dec (fun g => ?_) (fun g => ?_) | refine condE_not (fun g => ?_) (fun g => ?_)) <;> try (exfalso; omega)) | (simp -dsimp only [↓wkA, ↓wkE, ↓wkJ, wkB, ↓tt, Nat.reduceBEq, Nat.reduceEqDiff, ↓reduceIte, Nat.reduceLT, Array.toList, Nat.reduceAdd, Nat.reduceMul, Int.reduceToNat, Int.reducePow, UInt8.reduceToNat]) | (simp -dsimp (disch := first | assumption | omega) only [dec_t, dec_f])
      | (refine And.intro ?_ ?_
         · first | omega | decide | (simp (disch := omega) only [wkW, Int.reduceToNat, Int.reducePow] <;> omega) | (simp <;> omega)) | (simp (disch := omega) only [wkW, Int.reduceToNat, Int.reducePow])
    exact Again.mk m [(4, .int .i64 ((i + 1 : Nat) : Int)), (3, .str (s ++ [48])), (0, .int .i64 (n : Int))] ⟨0, [], [], []⟩ (by omega) (Sub.norm ⟨rfl, rfl, rfl, trivial⟩ trivial (by simp) rfl rfl rfl rfl) ⟨i + 1, _, by omega, hs2, rfl, rfl⟩
def Lay (s : List Int) (p : Int) (q : Nat) (T res : List Int) : Prop :=
  (0 < p ∧ p ≤ 21 ∧ (s.length : Int) ≤ p ∧ p - s.length = q ∧ res = s ++ List.replicate q 48) ∨
  (0 < p ∧ p ≤ 21 ∧ ¬ (s.length : Int) ≤ p ∧ p = q ∧ res = s.take q ++ 46 :: s.drop q) ∨
  (-6 < p ∧ p ≤ 0 ∧ 0 - p = q ∧ res = 48 :: 46 :: (List.replicate q 48 ++ s)) ∨
  (21 < p ∧ 1 < s.length ∧ p - 1 = q ∧ res = s.take 1 ++ 46 :: (s.drop 1 ++ 101 :: 43 :: T)) ∨
  (21 < p ∧ s.length = 1 ∧ p - 1 = q ∧ res = s.take 1 ++ 101 :: 43 :: T) ∨
  (p ≤ -6 ∧ 1 < s.length ∧ 0 - (p - 1) = q ∧ q < 10 ∧ res = s.take 1 ++ 46 :: (s.drop 1 ++ 101 :: 45 :: 48 :: T)) ∨
  (p ≤ -6 ∧ s.length = 1 ∧ 0 - (p - 1) = q ∧ q < 10 ∧ res = s.take 1 ++ 101 :: 45 :: 48 :: T) ∨
  (p ≤ -6 ∧ 1 < s.length ∧ 0 - (p - 1) = q ∧ ¬ q < 10 ∧ res = s.take 1 ++ 46 :: (s.drop 1 ++ 101 :: 45 :: T)) ∨
  (p ≤ -6 ∧ s.length = 1 ∧ 0 - (p - 1) = q ∧ ¬ q < 10 ∧ res = s.take 1 ++ 101 :: 45 :: T)
theorem lay_ex (s : List Int) (p : Int) (hs : s = [] → p = 0) (T : Nat → List Int) : ∃ q res, Lay s p q (T q) res := by
  have hp : s.length = 0 → p = 0 := fun h => hs (List.eq_nil_of_length_eq_zero h)
  unfold Lay
  by_cases h1 : 21 < p
  · by_cases h2 : 1 < s.length
    · exact ⟨(p - 1).toNat, _, .inr (.inr (.inr (.inl ⟨h1, h2, by omega, rfl⟩)))⟩
    · exact ⟨(p - 1).toNat, _, .inr (.inr (.inr (.inr (.inl ⟨h1, by omega, by omega, rfl⟩))))⟩
  · by_cases h2 : 0 < p
    · by_cases h3 : (s.length : Int) ≤ p
      · exact ⟨(p - s.length).toNat, _, .inl ⟨h2, by omega, h3, by omega, rfl⟩⟩
      · exact ⟨p.toNat, _, .inr (.inl ⟨h2, by omega, h3, by omega, rfl⟩)⟩
    · by_cases h3 : -6 < p
      · exact ⟨(0 - p).toNat, _, .inr (.inr (.inl ⟨h3, by omega, by omega, rfl⟩))⟩
      · by_cases h4 : 1 < s.length
        · by_cases h5 : (0 - (p - 1)).toNat < 10
          · exact ⟨(0 - (p - 1)).toNat, _, .inr (.inr (.inr (.inr (.inr (.inl ⟨by omega, h4, by omega, h5, rfl⟩)))))⟩
          · exact ⟨(0 - (p - 1)).toNat, _, .inr (.inr (.inr (.inr (.inr (.inr (.inr (.inl ⟨by omega, h4, by omega, h5, rfl⟩)))))))⟩
        · by_cases h5 : (0 - (p - 1)).toNat < 10
          · exact ⟨(0 - (p - 1)).toNat, _, .inr (.inr (.inr (.inr (.inr (.inr (.inl ⟨by omega, by omega, by omega, h5, rfl⟩))))))⟩
          · exact ⟨(0 - (p - 1)).toNat, _, .inr (.inr (.inr (.inr (.inr (.inr (.inr (.inr ⟨by omega, by omega, by omega, h5, rfl⟩)))))))⟩
theorem layout_walk (s : List Int) (p : Int) (q : Nat) (T res : List Int) (hsl : s.length ≤ 1000) (hp : -5000 ≤ p ∧ p ≤ 5000) (h : Lay s p q T res) (h1 : Meets Tryz.prog 51 [.int .i64 (q : Int)] (.str (List.replicate q 48))) (h2 : Meets Tryz.prog 23 [.int .i64 (q : Int)] (.str T)) (hT : T.length ≤ 1000) :
    Meets Tryz.prog 25 [.str s, .int .i64 p] (.str res) := by
  have w1 : IntKind.wrap .i64 (p - 1) = p - 1 := wrap_i64 (by omega)
  have w2 : IntKind.wrap .i64 (0 - p) = 0 - p := wrap_i64 (by omega)
  have w3 : IntKind.wrap .i64 (0 - (p - 1)) = 0 - (p - 1) := wrap_i64 (by omega)
  have w4 : IntKind.wrap .i64 (p - (s.length : Int)) = p - s.length := wrap_i64 (by omega)
  have e1 : ∀ x : List Int, 1 + x.length = x.length + 1 := fun x => Nat.add_comm _ _
  rcases h with ⟨c1, c2, c3, c4, rfl⟩ | ⟨c1, c2, c3, c4, rfl⟩ | ⟨c1, c2, c4, rfl⟩ | ⟨c1, c3, c4, rfl⟩ | ⟨c1, c3, c4, rfl⟩ | ⟨c1, c3, c4, c5, rfl⟩ | ⟨c1, c3, c4, c5, rfl⟩ | ⟨c1, c3, c4, c5, rfl⟩ | ⟨c1, c3, c4, c5, rfl⟩
  case' inl =>
    have d1 : decide (0 < p) = true := decide_eq_true c1
    have d2 : decide (p ≤ 21) = true := decide_eq_true c2
    have d3 : decide ((s.length : Int) ≤ p) = true := decide_eq_true c3
    have d4 : decide (-6 < p) = true := decide_eq_true (by omega)
    have d5 : decide (p ≤ 0) = false := decide_eq_false (by omega)
    have d6 : True := trivial
    have d7 : True := trivial
    have d8 : True := trivial
  case' inr.inl =>
    have d1 : decide (0 < p) = true := decide_eq_true c1
    have d2 : decide (p ≤ 21) = true := decide_eq_true c2
    have d3 : decide ((s.length : Int) ≤ p) = false := decide_eq_false c3
    have d4 : decide (-6 < p) = true := decide_eq_true (by omega)
    have d5 : decide (p ≤ 0) = false := decide_eq_false (by omega)
    have d6 : True := trivial
    have d7 : True := trivial
    have d8 : True := trivial
  case' inr.inr.inl =>
    have d1 : decide (0 < p) = false := decide_eq_false (by omega)
    have d2 : decide (p ≤ 21) = true := decide_eq_true (by omega)
    have d3 : True := trivial
    have d4 : decide (-6 < p) = true := decide_eq_true (by omega)
    have d5 : decide (p ≤ 0) = true := decide_eq_true c2
    have d6 : True := trivial
    have d7 : True := trivial
    have d8 : True := trivial
  case' inr.inr.inr.inl =>
    have d1 : decide (0 < p) = true := decide_eq_true (by omega)
    have d2 : decide (p ≤ 21) = false := decide_eq_false (by omega)
    have d3 : True := trivial
    have d4 : decide (-6 < p) = true := decide_eq_true (by omega)
    have d5 : decide (p ≤ 0) = false := decide_eq_false (by omega)
    have d6 : decide ((1 : Int) < (s.length : Int)) = true := decide_eq_true (by omega)
    have d7 : decide ((q : Int) < 0) = false := decide_eq_false (by omega)
    have d8 : decide ((q : Int) < 10) = false := decide_eq_false (by omega)
  case' inr.inr.inr.inr.inl =>
    have d1 : decide (0 < p) = true := decide_eq_true (by omega)
    have d2 : decide (p ≤ 21) = false := decide_eq_false (by omega)
    have d3 : True := trivial
    have d4 : decide (-6 < p) = true := decide_eq_true (by omega)
    have d5 : decide (p ≤ 0) = false := decide_eq_false (by omega)
    have d6 : decide ((1 : Int) < (s.length : Int)) = false := decide_eq_false (by omega)
    have d7 : decide ((q : Int) < 0) = false := decide_eq_false (by omega)
    have d8 : decide ((q : Int) < 10) = false := decide_eq_false (by omega)
  case' inr.inr.inr.inr.inr.inl =>
    have d1 : decide (0 < p) = false := decide_eq_false (by omega)
    have d2 : decide (p ≤ 21) = true := decide_eq_true (by omega)
    have d3 : True := trivial
    have d4 : decide (-6 < p) = false := decide_eq_false (by omega)
    have d5 : decide (p ≤ 0) = true := decide_eq_true (by omega)
    have d6 : decide ((1 : Int) < (s.length : Int)) = true := decide_eq_true (by omega)
    have d7 : decide (p - 1 < 0) = true := decide_eq_true (by omega)
    have d8 : decide ((q : Int) < 10) = true := decide_eq_true (by omega)
  case' inr.inr.inr.inr.inr.inr.inl =>
    have d1 : decide (0 < p) = false := decide_eq_false (by omega)
    have d2 : decide (p ≤ 21) = true := decide_eq_true (by omega)
    have d3 : True := trivial
    have d4 : decide (-6 < p) = false := decide_eq_false (by omega)
    have d5 : decide (p ≤ 0) = true := decide_eq_true (by omega)
    have d6 : decide ((1 : Int) < (s.length : Int)) = false := decide_eq_false (by omega)
    have d7 : decide (p - 1 < 0) = true := decide_eq_true (by omega)
    have d8 : decide ((q : Int) < 10) = true := decide_eq_true (by omega)
  case' inr.inr.inr.inr.inr.inr.inr.inl =>
    have d1 : decide (0 < p) = false := decide_eq_false (by omega)
    have d2 : decide (p ≤ 21) = true := decide_eq_true (by omega)
    have d3 : True := trivial
    have d4 : decide (-6 < p) = false := decide_eq_false (by omega)
    have d5 : decide (p ≤ 0) = true := decide_eq_true (by omega)
    have d6 : decide ((1 : Int) < (s.length : Int)) = true := decide_eq_true (by omega)
    have d7 : decide (p - 1 < 0) = true := decide_eq_true (by omega)
    have d8 : decide ((q : Int) < 10) = false := decide_eq_false (by omega)
  case' inr.inr.inr.inr.inr.inr.inr.inr =>
    have d1 : decide (0 < p) = false := decide_eq_false (by omega)
    have d2 : decide (p ≤ 21) = true := decide_eq_true (by omega)
    have d3 : True := trivial
    have d4 : decide (-6 < p) = false := decide_eq_false (by omega)
    have d5 : decide (p ≤ 0) = true := decide_eq_true (by omega)
    have d6 : decide ((1 : Int) < (s.length : Int)) = false := decide_eq_false (by omega)
    have d7 : decide (p - 1 < 0) = true := decide_eq_true (by omega)
    have d8 : decide ((q : Int) < 10) = false := decide_eq_false (by omega)
  all_goals have wq : IntKind.wrap .i64 (q : Int) = (q : Int) := wrap_i64 (by omega)
  all_goals (refine meets_by ttOk Tryz.func25 Tryz.ntmps25 Tryz.results25 (by kernel_rfl) (c := _) rfl rfl rfl fun E => ?_; simp only [argsFrame])
  all_goals
    repeat' first
      | (with_reducible first | refine PW.seq ?_ | refine PW.block ?_ | refine PW.fork ?_ | refine PW.skip ?_ | refine PW.exit ?_ | refine PW.ret ?_) | (simp only [w1, w2, w3, w4, wq, c4, d1, d2, d3, d4, d5, d6, d7, d8, Int.toNat_natCast]) | ((with_reducible refine PW.region ttOk ?_ ?_); rfl) | ((with_reducible refine PW.regionD ttOk mixed ?_ ?_ ?_); rfl; rfl) | (with_reducible refine ifW_dec (fun g => ?_) (fun g => ?_) <;> first | (exfalso; omega) | (simp -dsimp only [g, wkI])) | ((with_reducible first | refine condE_dec (fun g => ?_) (fun g => ?_) | refine condE_not (fun g => ?_) (fun g => ?_)) <;> try (exfalso; omega)) | (simp -dsimp only [↓wkA, ↓wkE, ↓wkJ, wkB, ↓tt, Nat.reduceBEq, Nat.reduceEqDiff, ↓reduceIte, Nat.reduceLT, Array.toList, Nat.reduceAdd, Nat.reduceMul, Int.reduceToNat, Int.reducePow, UInt8.reduceToNat]) | (refine call_by (h1) (views_data rfl) ⟨trivial, trivial⟩ rfl ?_) | (refine call_by (h2) (views_data rfl) ⟨trivial, trivial⟩ rfl ?_) | (simp -dsimp (disch := first | assumption | omega) only [dec_t, dec_f])
      | (refine And.intro ?_ ?_
         · first | omega | decide | (simp (disch := omega) only [wkW, Int.reduceToNat, Int.reducePow] <;> omega) | (simp <;> omega)) | (simp (disch := omega) only [wkW, Int.reduceToNat, Int.reducePow])
def sgL (ng : Bool) : List Int := if ng then [45] else []
theorem ref_text_odd (d c : Int) (ng : Bool) (w : List Int) (hneg : decide (9223372036854775808 ≤ d) = ng) (h1 : Meets Tryz.prog 24 [.int .u64 d] (.int .i64 c)) (hc : (c = 4 ∧ w = [110, 97, 110]) ∨ (c = 3 ∧ w = [105, 110, 102]) ∨ (c = 0 ∧ w = [48])) : Meets Tryz.prog 12 [.int .u64 d] (.str (sgL ng ++ w)) := by
  cases ng
  all_goals rcases hc with ⟨rfl, rfl⟩ | ⟨rfl, rfl⟩ | ⟨rfl, rfl⟩
  all_goals (refine meets_by ttOk Tryz.func12 Tryz.ntmps12 Tryz.results12 (by kernel_rfl) (c := _) rfl rfl rfl fun E => ?_; simp only [argsFrame])
  all_goals
    repeat' first
      | (with_reducible first | refine PW.seq ?_ | refine PW.block ?_ | refine PW.fork ?_ | refine PW.skip ?_ | refine PW.exit ?_ | refine PW.ret ?_) | (simp only [hneg]) | ((with_reducible refine PW.region ttOk ?_ ?_); rfl) | ((with_reducible refine PW.regionD ttOk mixed ?_ ?_ ?_); rfl; rfl) | (with_reducible refine ifW_dec (fun g => ?_) (fun g => ?_) <;> first | (exfalso; omega) | (simp -dsimp only [g, wkI])) | ((with_reducible first | refine condE_dec (fun g => ?_) (fun g => ?_) | refine condE_not (fun g => ?_) (fun g => ?_)) <;> try (exfalso; omega)) | (simp -dsimp only [↓wkA, ↓wkE, ↓wkJ, wkB, ↓tt, Nat.reduceBEq, Nat.reduceEqDiff, ↓reduceIte, Nat.reduceLT, Array.toList, Nat.reduceAdd, Nat.reduceMul, Int.reduceToNat, Int.reducePow, UInt8.reduceToNat]) | (refine call_by (h1) (views_data rfl) ⟨trivial, trivial⟩ rfl ?_) | (simp -dsimp (disch := first | assumption | omega) only [dec_t, dec_f])
      | (refine And.intro ?_ ?_
         · first | omega | decide | (simp (disch := omega) only [wkW, Int.reduceToNat, Int.reducePow] <;> omega) | (simp <;> omega)) | (simp (disch := omega) only [wkW, Int.reduceToNat, Int.reducePow])
  all_goals rfl
theorem ref_text_walk (d c e : Int) (ng a : Bool) (s res : List Int) (x p : Int) (hneg : decide (9223372036854775808 ≤ d) = ng) (hc : decide (c = 4) = false ∧ decide (c = 3) = false ∧ decide (c = 0) = false) (hp : IntKind.wrap .i64 (x + (s.length : Int)) = p) (h1 : Meets Tryz.prog 24 [.int .u64 d] (.int .i64 c)) (h2 : Meets Tryz.prog 16 [.int .u64 d] (.tup [.agg [.bool a, .str s, .int .i64 x], .int .i64 e]))
    (h3 : Meets Tryz.prog 25 [.str s, .int .i64 p] (.str res)) (hr : res.length ≤ 100000) : Meets Tryz.prog 12 [.int .u64 d] (.str (sgL ng ++ res)) := by
  obtain ⟨c1, c2, c3⟩ := hc
  cases ng
  all_goals (refine meets_by ttOk Tryz.func12 Tryz.ntmps12 Tryz.results12 (by kernel_rfl) (c := _) rfl rfl rfl fun E => ?_; simp only [argsFrame])
  all_goals
    repeat' first
      | (with_reducible first | refine PW.seq ?_ | refine PW.block ?_ | refine PW.fork ?_ | refine PW.skip ?_ | refine PW.exit ?_ | refine PW.ret ?_) | (simp only [hneg, hp, c1, c2, c3]) | ((with_reducible refine PW.region ttOk ?_ ?_); rfl) | ((with_reducible refine PW.regionD ttOk mixed ?_ ?_ ?_); rfl; rfl) | (with_reducible refine ifW_dec (fun g => ?_) (fun g => ?_) <;> first | (exfalso; omega) | (simp -dsimp only [g, wkI])) | ((with_reducible first | refine condE_dec (fun g => ?_) (fun g => ?_) | refine condE_not (fun g => ?_) (fun g => ?_)) <;> try (exfalso; omega)) | (simp -dsimp only [↓wkA, ↓wkE, ↓wkJ, wkB, ↓tt, Nat.reduceBEq, Nat.reduceEqDiff, ↓reduceIte, Nat.reduceLT, Array.toList, Nat.reduceAdd, Nat.reduceMul, Int.reduceToNat, Int.reducePow, UInt8.reduceToNat]) | (refine call_by (h1) (views_data rfl) ⟨trivial, trivial⟩ rfl ?_) | (refine call_by (h2) (views_data rfl) ⟨trivial, trivial⟩ rfl ?_) | (refine call_by (h3) (views_data rfl) ⟨trivial, trivial, trivial⟩ rfl ?_) | (simp -dsimp (disch := first | assumption | omega) only [dec_t, dec_f])
      | (refine And.intro ?_ ?_
         · first | omega | decide | (simp (disch := omega) only [wkW, Int.reduceToNat, Int.reducePow] <;> omega) | (simp <;> omega)) | (simp (disch := omega) only [wkW, Int.reduceToNat, Int.reducePow])
  all_goals rfl
theorem text_odd (d c : Int) (ng : Bool) (w : List Int) (hneg : decide (9223372036854775808 ≤ d) = ng) (h1 : Meets Tryz.prog 21 [.int .u64 d] (.int .i64 c)) (hc : (c = 4 ∧ w = [110, 97, 110]) ∨ (c = 3 ∧ w = [105, 110, 102]) ∨ (c = 0 ∧ w = [48])) : Meets Tryz.prog 11 [.int .u64 d] (.str (sgL ng ++ w)) := by
  cases ng
  all_goals rcases hc with ⟨rfl, rfl⟩ | ⟨rfl, rfl⟩ | ⟨rfl, rfl⟩
  all_goals (refine meets_by ttOk Tryz.func11 Tryz.ntmps11 Tryz.results11 (by kernel_rfl) (c := _) rfl rfl rfl fun E => ?_; simp only [argsFrame])
  all_goals
    repeat' first
      | (with_reducible first | refine PW.seq ?_ | refine PW.block ?_ | refine PW.fork ?_ | refine PW.skip ?_ | refine PW.exit ?_ | refine PW.ret ?_) | (simp only [hneg]) | ((with_reducible refine PW.region ttOk ?_ ?_); rfl) | ((with_reducible refine PW.regionD ttOk mixed ?_ ?_ ?_); rfl; rfl) | (with_reducible refine ifW_dec (fun g => ?_) (fun g => ?_) <;> first | (exfalso; omega) | (simp -dsimp only [g, wkI])) | ((with_reducible first | refine condE_dec (fun g => ?_) (fun g => ?_) | refine condE_not (fun g => ?_) (fun g => ?_)) <;> try (exfalso; omega)) | (simp -dsimp only [↓wkA, ↓wkE, ↓wkJ, wkB, ↓tt, Nat.reduceBEq, Nat.reduceEqDiff, ↓reduceIte, Nat.reduceLT, Array.toList, Nat.reduceAdd, Nat.reduceMul, Int.reduceToNat, Int.reducePow, UInt8.reduceToNat]) | (refine call_by (h1) (views_data rfl) ⟨trivial, trivial⟩ rfl ?_) | (simp -dsimp (disch := first | assumption | omega) only [dec_t, dec_f])
      | (refine And.intro ?_ ?_
         · first | omega | decide | (simp (disch := omega) only [wkW, Int.reduceToNat, Int.reducePow] <;> omega) | (simp <;> omega)) | (simp (disch := omega) only [wkW, Int.reduceToNat, Int.reducePow])
  all_goals rfl
theorem text_walk (d c e : Int) (ng a : Bool) (s res T : List Int) (x p : Int) (q : Nat) (hneg : decide (9223372036854775808 ≤ d) = ng) (hc : decide (c = 4) = false ∧ decide (c = 3) = false ∧ decide (c = 0) = false) (hx : IntKind.wrap .i64 ((s.length : Int) + x) = p) (hsl : s.length ≤ 1000) (hp : -5000 ≤ p ∧ p ≤ 5000) (h : Lay s p q T res) (hT : T.length ≤ 1000)
    (h1 : Meets Tryz.prog 21 [.int .u64 d] (.int .i64 c)) (h2 : Meets Tryz.prog 13 [.int .u64 d] (.tup [.agg [.bool a, .str s, .int .i64 x], .int .i64 e]))
    (h3 : Meets Tryz.prog 22 [.str [48], .int .i64 (q : Int)] (.str (List.replicate q 48))) (h4 : Meets Tryz.prog 23 [.int .i64 (q : Int)] (.str T)) :
    Meets Tryz.prog 11 [.int .u64 d] (.str (sgL ng ++ res)) := by
  obtain ⟨k1, k2, k3⟩ := hc
  have w1 : IntKind.wrap .i64 (p - 1) = p - 1 := wrap_i64 (by omega)
  have w2 : IntKind.wrap .i64 (0 - p) = 0 - p := wrap_i64 (by omega)
  have w3 : IntKind.wrap .i64 (0 - (p - 1)) = 0 - (p - 1) := wrap_i64 (by omega)
  have w4 : IntKind.wrap .i64 (p - (s.length : Int)) = p - s.length := wrap_i64 (by omega)
  rcases h with ⟨c1, c2, c3, c4, rfl⟩ | ⟨c1, c2, c3, c4, rfl⟩ | ⟨c1, c2, c4, rfl⟩ | ⟨c1, c3, c4, rfl⟩ | ⟨c1, c3, c4, rfl⟩ | ⟨c1, c3, c4, c5, rfl⟩ | ⟨c1, c3, c4, c5, rfl⟩ | ⟨c1, c3, c4, c5, rfl⟩ | ⟨c1, c3, c4, c5, rfl⟩
  case' inl =>
    have d1 : decide (0 < p) = true := decide_eq_true c1
    have d2 : decide (p ≤ 21) = true := decide_eq_true c2
    have d3 : decide ((s.length : Int) ≤ p) = true := decide_eq_true c3
    have d4 : decide (-6 < p) = true := decide_eq_true (by omega)
    have d5 : decide (p ≤ 0) = false := decide_eq_false (by omega)
    have d6 : True := trivial
    have d7 : True := trivial
    have d8 : True := trivial
  case' inr.inl =>
    have d1 : decide (0 < p) = true := decide_eq_true c1
    have d2 : decide (p ≤ 21) = true := decide_eq_true c2
    have d3 : decide ((s.length : Int) ≤ p) = false := decide_eq_false c3
    have d4 : decide (-6 < p) = true := decide_eq_true (by omega)
    have d5 : decide (p ≤ 0) = false := decide_eq_false (by omega)
    have d6 : True := trivial
    have d7 : True := trivial
    have d8 : True := trivial
  case' inr.inr.inl =>
    have d1 : decide (0 < p) = false := decide_eq_false (by omega)
    have d2 : decide (p ≤ 21) = true := decide_eq_true (by omega)
    have d3 : True := trivial
    have d4 : decide (-6 < p) = true := decide_eq_true (by omega)
    have d5 : decide (p ≤ 0) = true := decide_eq_true c2
    have d6 : True := trivial
    have d7 : True := trivial
    have d8 : True := trivial
  case' inr.inr.inr.inl =>
    have d1 : decide (0 < p) = true := decide_eq_true (by omega)
    have d2 : decide (p ≤ 21) = false := decide_eq_false (by omega)
    have d3 : True := trivial
    have d4 : decide (-6 < p) = true := decide_eq_true (by omega)
    have d5 : decide (p ≤ 0) = false := decide_eq_false (by omega)
    have d6 : decide ((1 : Int) < (s.length : Int)) = true := decide_eq_true (by omega)
    have d7 : decide ((q : Int) < 0) = false := decide_eq_false (by omega)
    have d8 : decide ((q : Int) < 10) = false := decide_eq_false (by omega)
  case' inr.inr.inr.inr.inl =>
    have d1 : decide (0 < p) = true := decide_eq_true (by omega)
    have d2 : decide (p ≤ 21) = false := decide_eq_false (by omega)
    have d3 : True := trivial
    have d4 : decide (-6 < p) = true := decide_eq_true (by omega)
    have d5 : decide (p ≤ 0) = false := decide_eq_false (by omega)
    have d6 : decide ((1 : Int) < (s.length : Int)) = false := decide_eq_false (by omega)
    have d7 : decide ((q : Int) < 0) = false := decide_eq_false (by omega)
    have d8 : decide ((q : Int) < 10) = false := decide_eq_false (by omega)
  case' inr.inr.inr.inr.inr.inl =>
    have d1 : decide (0 < p) = false := decide_eq_false (by omega)
    have d2 : decide (p ≤ 21) = true := decide_eq_true (by omega)
    have d3 : True := trivial
    have d4 : decide (-6 < p) = false := decide_eq_false (by omega)
    have d5 : decide (p ≤ 0) = true := decide_eq_true (by omega)
    have d6 : decide ((1 : Int) < (s.length : Int)) = true := decide_eq_true (by omega)
    have d7 : decide (p - 1 < 0) = true := decide_eq_true (by omega)
    have d8 : decide ((q : Int) < 10) = true := decide_eq_true (by omega)
  case' inr.inr.inr.inr.inr.inr.inl =>
    have d1 : decide (0 < p) = false := decide_eq_false (by omega)
    have d2 : decide (p ≤ 21) = true := decide_eq_true (by omega)
    have d3 : True := trivial
    have d4 : decide (-6 < p) = false := decide_eq_false (by omega)
    have d5 : decide (p ≤ 0) = true := decide_eq_true (by omega)
    have d6 : decide ((1 : Int) < (s.length : Int)) = false := decide_eq_false (by omega)
    have d7 : decide (p - 1 < 0) = true := decide_eq_true (by omega)
    have d8 : decide ((q : Int) < 10) = true := decide_eq_true (by omega)
  case' inr.inr.inr.inr.inr.inr.inr.inl =>
    have d1 : decide (0 < p) = false := decide_eq_false (by omega)
    have d2 : decide (p ≤ 21) = true := decide_eq_true (by omega)
    have d3 : True := trivial
    have d4 : decide (-6 < p) = false := decide_eq_false (by omega)
    have d5 : decide (p ≤ 0) = true := decide_eq_true (by omega)
    have d6 : decide ((1 : Int) < (s.length : Int)) = true := decide_eq_true (by omega)
    have d7 : decide (p - 1 < 0) = true := decide_eq_true (by omega)
    have d8 : decide ((q : Int) < 10) = false := decide_eq_false (by omega)
  case' inr.inr.inr.inr.inr.inr.inr.inr =>
    have d1 : decide (0 < p) = false := decide_eq_false (by omega)
    have d2 : decide (p ≤ 21) = true := decide_eq_true (by omega)
    have d3 : True := trivial
    have d4 : decide (-6 < p) = false := decide_eq_false (by omega)
    have d5 : decide (p ≤ 0) = true := decide_eq_true (by omega)
    have d6 : decide ((1 : Int) < (s.length : Int)) = false := decide_eq_false (by omega)
    have d7 : decide (p - 1 < 0) = true := decide_eq_true (by omega)
    have d8 : decide ((q : Int) < 10) = false := decide_eq_false (by omega)
  all_goals have wq : IntKind.wrap .i64 (q : Int) = (q : Int) := wrap_i64 (by omega)
  all_goals cases ng
  all_goals (refine meets_by ttOk Tryz.func11 Tryz.ntmps11 Tryz.results11 (by kernel_rfl) (c := _) rfl rfl rfl fun E => ?_; simp only [argsFrame])
  all_goals
    repeat' first
      | (with_reducible first | refine PW.seq ?_ | refine PW.block ?_ | refine PW.fork ?_ | refine PW.skip ?_ | refine PW.exit ?_ | refine PW.ret ?_) | (simp only [hneg, hx, k1, k2, k3, w1, w2, w3, w4, wq, c4, d1, d2, d3, d4, d5, d6, d7, d8, Int.toNat_natCast]) | ((with_reducible refine PW.region ttOk ?_ ?_); rfl) | ((with_reducible refine PW.regionD ttOk mixed ?_ ?_ ?_); rfl; rfl) | (with_reducible refine ifW_dec (fun g => ?_) (fun g => ?_) <;> first | (exfalso; omega) | (simp -dsimp only [g, wkI])) | ((with_reducible first | refine condE_dec (fun g => ?_) (fun g => ?_) | refine condE_not (fun g => ?_) (fun g => ?_)) <;> try (exfalso; omega)) | (simp -dsimp only [↓wkA, ↓wkE, ↓wkJ, wkB, ↓tt, Nat.reduceBEq, Nat.reduceEqDiff, ↓reduceIte, Nat.reduceLT, Array.toList, Nat.reduceAdd, Nat.reduceMul, Int.reduceToNat, Int.reducePow, UInt8.reduceToNat]) | (refine call_by (h1) (views_data rfl) ⟨trivial, trivial⟩ rfl ?_) | (refine call_by (h2) (views_data rfl) ⟨trivial, trivial⟩ rfl ?_) | (refine callD_by (h3) (views_data rfl) ⟨trivial, trivial, trivial⟩ rfl ?_) | (refine call_by (h3) (views_data rfl) ⟨trivial, trivial, trivial⟩ rfl ?_) | (refine call_by (h4) (views_data rfl) ⟨trivial, trivial⟩ rfl ?_) | (simp -dsimp (disch := first | assumption | omega) only [dec_t, dec_f])
      | (refine And.intro ?_ ?_
         · first | omega | decide | (simp (disch := omega) only [wkW, Int.reduceToNat, Int.reducePow] <;> omega) | (simp <;> omega)) | (simp (disch := omega) only [wkW, Int.reduceToNat, Int.reducePow])
  all_goals rfl
end Go.Proofs.YtmoilbeomnapfaaGreatDoor

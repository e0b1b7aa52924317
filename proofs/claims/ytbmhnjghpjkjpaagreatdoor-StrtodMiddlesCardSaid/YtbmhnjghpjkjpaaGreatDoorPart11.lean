/- Contracts and laws that the row leans on, part 11: texts that were built one by one, laid together. -/
import Derived.Laws.Externs
import Derived.Lib.Builder
import Derived.Lib.UnsafeStr
import Derived.ChangeSlices
import Derived.Shelf.RegionOpenPlain
import Derived.Lib.Strings
import Derived.Lib.Slices
import Derived.Lib.Walk
import Derived.WalkKit
import Derived.Test.YtbmhnjghpjkjpaaGreatDoorPart1
import Derived.Test.YtbmhnjghpjkjpaaGreatDoorPart2
import Derived.Test.YtbmhnjghpjkjpaaGreatDoorPart3
import Derived.Test.YtbmhnjghpjkjpaaGreatDoorPart4
import Derived.Test.YtbmhnjghpjkjpaaGreatDoorPart5
import Derived.Test.YtbmhnjghpjkjpaaGreatDoorPart6
import Derived.Test.YtbmhnjghpjkjpaaGreatDoorPart7
import Derived.Test.YtbmhnjghpjkjpaaGreatDoorPart8
import Derived.Test.YtbmhnjghpjkjpaaGreatDoorPart9
import Derived.Test.YtbmhnjghpjkjpaaGreatDoorPart10
set_option linter.unusedVariables false
set_option linter.unusedSimpArgs false
namespace Go.PV
open Go Go.RowKit

section
variable {P : Program} {w w' : World} {ow ow' : Nat → Prop} {loc loc' : Locs} {n nt : Nat} {E : Entry P} {H : Heap} {F : Frame} {a : Act} {tt : Tab}

end
end Go.PV
set_option linter.unusedVariables false
set_option linter.unusedSimpArgs false
namespace Go.PV
open Go Go.RowKit

section
variable {P : Program} {w w' : World} {ow ow' : Nat → Prop} {loc loc' : Locs} {n nt : Nat} {E : Entry P} {H : Heap} {F : Frame} {a : Act} {tt : Tab}

end
end Go.PV
set_option linter.unusedVariables false
set_option linter.unusedSimpArgs false
namespace Go.PV
open Go Go.RowKit

section
variable {P : Program} {w w' : World} {ow ow' : Nat → Prop} {loc loc' : Locs} {n nt : Nat} {E : Entry P} {H : Heap} {F : Frame} {a : Act} {tt : Tab} {rows : Nat → Option Row}

end
end Go.PV
set_option linter.unusedVariables false
set_option linter.unusedSimpArgs false
namespace Go.PV
open Go Go.RowKit

section
variable {P : Program} {w w' : World} {ow ow' : Nat → Prop} {loc loc' : Locs} {n nt : Nat} {E : Entry P} {H : Heap} {F : Frame} {a : Act} {tt : Tab} {rows : Nat → Option Row}

end
end Go.PV
set_option linter.unusedVariables false
set_option linter.unusedSimpArgs false
namespace Go.PV
open Go Go.RowKit

section
variable {P : Program} {w w' : World} {ow ow' : Nat → Prop} {loc loc' : Locs} {n nt : Nat} {E : Entry P} {H : Heap} {F : Frame} {a : Act} {tt : Tab} {rows : Nat → Option Row}

end
end Go.PV
set_option linter.unusedVariables false
set_option linter.unusedSimpArgs false
namespace Go.PV
open Go Go.RowKit

section
variable {P : Program} {w w' : World} {ow ow' : Nat → Prop} {loc loc' : Locs} {n nt : Nat} {E : Entry P} {H : Heap} {F : Frame} {a : Act} {tt : Tab} {rows : Nat → Option Row}

end
end Go.PV
set_option linter.unusedVariables false
set_option linter.unusedSimpArgs false
namespace Go.PV
open Go Go.RowKit

section
variable {P : Program} {w w' : World} {ow ow' : Nat → Prop} {loc loc' : Locs} {n nt : Nat} {E : Entry P} {H : Heap} {F : Frame} {a : Act} {tt : Tab} {rows : Nat → Option Row}

end
end Go.PV
set_option linter.unusedVariables false
set_option linter.unusedSimpArgs false
namespace Go.PV
open Go Go.RowKit

section
variable {P : Program} {w w' : World} {ow ow' : Nat → Prop} {loc loc' : Locs} {n nt : Nat} {E : Entry P} {H : Heap} {F : Frame} {a : Act} {tt : Tab} {rows : Nat → Option Row}

end
end Go.PV
set_option linter.unusedVariables false
set_option linter.unusedSimpArgs false
namespace Go.PV
open Go Go.RowKit

section
variable {P : Program} {w w' : World} {ow ow' : Nat → Prop} {loc loc' : Locs} {n nt : Nat} {E : Entry P} {H : Heap} {F : Frame} {a : Act} {tt : Tab} {rows : Nat → Option Row}

theorem condE_var {b : Bool} {x y : Prop} {d : Ph x} {e : Ph y} (h1 : b = true → x) (h2 : b = false → y) : condE (.bool b) x y d e := ⟨h1, h2⟩

end

end Go.PV
set_option linter.unusedVariables false
set_option linter.unusedSimpArgs false
namespace Go.PV
open Go Go.RowKit

section
variable {P : Program} {w w' : World} {ow ow' : Nat → Prop} {loc loc' : Locs} {n nt : Nat} {E : Entry P} {H : Heap} {F : Frame} {a : Act} {tt : Tab} {rows : Nat → Option Row}

end
end Go.PV
set_option linter.unusedVariables false
set_option linter.unusedSimpArgs false
namespace Go.PV
open Go Go.RowKit

section
variable {P : Program} {w w' : World} {ow ow' : Nat → Prop} {loc loc' : Locs} {n nt : Nat} {E : Entry P} {H : Heap} {F : Frame} {a : Act} {tt : Tab} {rows : Nat → Option Row}

end
end Go.PV
set_option linter.unusedVariables false
set_option linter.unusedSimpArgs false
namespace Go.PV
open Go Go.RowKit

section
variable {P : Program} {w w' : World} {ow ow' : Nat → Prop} {loc loc' : Locs} {n nt : Nat} {E : Entry P} {H : Heap} {F : Frame} {a : Act} {tt : Tab} {rows : Nat → Option Row}

end
end Go.PV
set_option linter.unusedVariables false
set_option linter.unusedSimpArgs false
namespace Go.PV
open Go Go.RowKit

section
variable {P : Program} {w w' : World} {ow ow' : Nat → Prop} {loc loc' : Locs} {n nt : Nat} {E : Entry P} {H : Heap} {F : Frame} {a : Act} {tt : Tab} {rows : Nat → Option Row}

end
end Go.PV
set_option linter.unusedVariables false
set_option linter.unusedSimpArgs false
namespace Go.PV
open Go Go.RowKit

section
variable {P : Program} {w w' : World} {ow ow' : Nat → Prop} {loc loc' : Locs} {n nt : Nat} {E : Entry P} {H : Heap} {F : Frame} {a : Act} {tt : Tab} {rows : Nat → Option Row}

end
end Go.PV
set_option linter.unusedVariables false
set_option linter.unusedSimpArgs false
namespace Go.PV
open Go Go.RowKit

end Go.PV
set_option linter.unusedVariables false
set_option linter.unusedSimpArgs false
namespace Go.PV
open Go Go.RowKit

end Go.PV
set_option linter.unusedVariables false
set_option linter.unusedSimpArgs false
namespace Go.PV
open Go Go.RowKit

end Go.PV
set_option linter.unusedVariables false
set_option linter.unusedSimpArgs false
namespace Go.PV
open Go Go.RowKit

section
variable {P : Program} {w w' : World} {ow ow' : Nat → Prop} {loc loc' : Locs} {n nt : Nat} {E : Entry P} {H : Heap} {F : Frame} {a : Act} {tt : Tab} {rows : Nat → Option Row}

theorem HS.retell (h : HS E H ow loc w) {r : Nat} {L : RowLoc} {row : Row} (hL : loc r = some (some L)) (hat : RowAt w ow loc (some L) row) (hrf : ∀ l, row = .var l → ∀ j, j < l.length → Refs H.nx (l.getD j .undef)) : HS E (H.set r row) ow loc w :=
  h.upd hL (Chg.same w L.b) rfl hat hrf fun cur t fr h => ⟨cur, fr, h⟩

theorem Sub.nilField (r : Nat) (l : List PV) (j : Nat) (e : TypeId) (k : IntKind) (hr : H.get r = some (.var l)) (hj : l.getD j .undef = .nil) (hjl : j < l.length) (hrn : r < H.nx) :
    Sub E nt F H F ((H.newT e (.ints k [])).set r (.var (l.set j (.sl H.nx 0 0 true)))) := by
  rintro a w ⟨ow, loc, hs, hf, hsz⟩
  have hs' := hs.nilRow e (row := .ints k []) rfl (fun l h => by cases h)
  have hf' := hf.new (L := none) (Stable.refl ow w) (fun _ _ h => h)
  obtain ⟨Lo, hLo, hat⟩ := hs'.rows r (.var l) (by rw [show (H.newT e (.ints k [])).get r = (H.new (.ints k [])).get r from rfl, Heap.get_new, if_neg (by omega)]; exact hr)
  cases Lo with
  | none => exact hat.elim
  | some L =>
    obtain ⟨cur, el, fr, h1, h2, h3, h4, h5, h6⟩ := hat
    have hrefs : ∀ i, i < l.length → Refs (H.nx + 1) (l.getD i .undef) := fun i hi => (hs.refs r l hr i hi).mono (by omega)
    have hget : ∀ i, (l.set j (.sl H.nx 0 0 true)).getD i .undef = if i = j then .sl H.nx 0 0 true else l.getD i .undef := fun i => by
      by_cases e : i = j
      · subst e; simp [List.getD, hjl]
      · simp [List.getD, List.getElem?_set, e, Ne.symm e]
    refine ⟨ow, _, hs'.retell (row := .var (l.set j (.sl H.nx 0 0 true))) hLo ⟨cur, el, fr, h1, h2, h3, by rw [List.length_set]; exact h4, h5, fun i hi => ?_⟩ (fun l' e i hi => ?_), hf', hsz⟩
    · rw [List.length_set] at hi
      obtain ⟨u, hu, hu1, hu2⟩ := h6 i hi
      refine ⟨u, hu, hu1, ?_⟩
      rw [hget]
      by_cases e : i = j
      · subst e
        rw [if_pos rfl]
        rw [hj] at hu2
        rw [rv_nil hu2]
        exact .slnil _ _ (by simp [locNew])
      · rw [if_neg e]; exact hu2
    · injection e with e
      subst e
      rw [List.length_set] at hi
      rw [hget]
      split
      · exact .sl _ _ _ _ (Nat.lt_succ_self _)
      · exact hrefs i hi

theorem rv_ptr0 {r : Nat} {L : RowLoc} {v : Value} (hL : loc r = some (some L)) (ho : L.o = 0) (h : RV w ow loc (.ptr r 0 0) v) : v = .pointer (some ⟨L.b, 0, none⟩) := by
  cases h with
  | data _ _ h => cases h
  | dangp _ _ _ _ h => rw [hL] at h; cases h
  | ptr _ _ _ L' h =>
    rw [hL] at h
    injection h with h
    injection h with h
    subst h
    simp [ho]

theorem args_one {p : PV} {vs : Array Value} (hl : [p].length = vs.size) : ∃ v, vs = #[v] := by
  have hs : vs.size = 1 := by simpa using hl.symm
  exact ⟨vs[0], Array.ext (by simp [hs]) fun i h1 h2 => by
    have : i = 0 := by omega
    subst this; rfl⟩

end
end Go.PV
set_option linter.unusedVariables false
set_option linter.unusedSimpArgs false
namespace Go.PV
open Go Go.RowKit

section
variable {P : Program} {w w' : World} {ow ow' : Nat → Prop} {loc loc' : Locs} {n nt : Nat} {E : Entry P} {H : Heap} {F : Frame} {a : Act} {tt : Tab} {rows : Nat → Option Row}

theorem rd_nilptr {v : Value} (h : RV w ow loc .nilptr v) : v = .pointer none := by
  cases h with
  | data _ _ h => cases h; rfl

theorem var2 (hs : HS E H ow loc w) {r : Nat} {T : TypeId} {p q : PV} (hr : H.get r = some (.var [p, q])) (ht : getT H.ty r = some T) :
    ∃ L u v fr, loc r = some (some L) ∧ L.o = 0 ∧ L.sz = 2 ∧ L.cap = 1 ∧ w.heap[L.b]? = some (.cells #[u, v] T fr) ∧ unfrozen fr 2 ∧ u.oneCell' = true ∧ v.oneCell' = true ∧ RV w ow loc p u ∧ RV w ow loc q v := by
  obtain ⟨Lo, hLo, hat⟩ := hs.rows r _ hr
  cases Lo with
  | none => exact hat.elim
  | some L =>
    obtain ⟨cur, e, fr, h1, h2, h3, h4, h5, h6⟩ := hat
    obtain ⟨cur', fr', h7, h8⟩ := (hs.ty r T ht).2 L hLo
    have hc : cur' = cur ∧ T = e := by
      rw [h1] at h7
      injection h7 with h7
      injection h7 with h7 h9
      exact ⟨h7.symm, h9.symm⟩
    obtain ⟨rfl, rfl⟩ := hc
    have hsz : cur'.size = 2 := by rw [h2, h8, h5, h4]; rfl
    obtain ⟨u, hu, hu1, hu2⟩ := h6 0 (by simp)
    obtain ⟨v, hv, hv1, hv2⟩ := h6 1 (by simp)
    rw [h8] at hu hv
    have hcur : cur' = #[u, v] := by
      refine Array.ext (by simpa using hsz) fun i h9 h10 => ?_
      match i, h9 with
      | 0, h9 => rw [Array.getElem?_eq_getElem h9] at hu; injection hu
      | 1, h9 => rw [Array.getElem?_eq_getElem h9] at hv; injection hv
      | i + 2, h9 => omega
    subst hcur
    exact ⟨L, u, v, fr, hLo, h8, h4, h5, h1, h3, hu1, hv1, hu2, hv2⟩

theorem copyCheck_h {f : FuncId} {T : TypeId} (henter : ∀ vs w, (callFunc f vs).run P w = .ok (.enter f vs) w)
    (hfresh : ∀ (b : Nat) (w : World), w.cell? ⟨b, 0, none⟩ = some (.pointer none) → w.shape? b = some (T, 2) → w.frozen? ⟨b, 0, none⟩ = false → Calls P f #[.pointer (some ⟨b, 0, none⟩)] w fun e w' => e = .returned (.tuple #[]) ∧ w' = w.setCell ⟨b, 0, none⟩ (.pointer (some ⟨b, 0, none⟩)))
    (hused : ∀ (b : Nat) (w : World), w.cell? ⟨b, 0, none⟩ = some (.pointer (some ⟨b, 0, none⟩)) → Calls P f #[.pointer (some ⟨b, 0, none⟩)] w fun e w' => e = .returned (.tuple #[]) ∧ w' = w)
    {r : Nat} {p q : PV} (hr : H.get r = some (.var [p, q])) (hp : p = .nilptr ∨ p = .ptr r 0 0) (ht : getT H.ty r = some T) :
    HMeets P f [.ptr r 0 0] H fun res H' => res = .tup [] ∧ H' = H.set r (.var [.ptr r 0 0, q]) := by
  refine ⟨fun E ow loc w vs hs hl ha => ?_⟩
  obtain ⟨v0, rfl⟩ := args_one hl
  obtain ⟨L, u, v, fr, hL, ho, hsz, hcap, hb, hfr, hu1, hv1, hu, hv⟩ := var2 hs hr ht
  have hrn : r < H.nx := (hs.ty r T ht).1
  obtain rfl := rv_ptr0 (v := v0) hL ho (by simpa using (ha 0 (by simp)).1)
  refine .inl ⟨henter _ w, ?_⟩
  have hptr : ∀ w', RV w' ow loc (.ptr r 0 0) (.pointer (some ⟨L.b, 0, none⟩)) := fun w' => by
    have := RV.ptr (w := w') (ow := ow) r 0 0 L hL
    simpa [ho] using this
  have hrefs : ∀ l, Row.var [.ptr r 0 0, q] = .var l → ∀ j, j < l.length → Refs H.nx (l.getD j .undef) := by
    intro l e j hj
    injection e with e
    subst e
    match j, hj with
    | 0, _ => exact .ptr _ _ _ hrn
    | 1, _ => exact hs.refs r _ hr 1 (by simp)
  rcases hp with rfl | rfl
  · obtain rfl := rd_nilptr hu
    have hc : w.cell? ⟨L.b, 0, none⟩ = some (.pointer none) := by simp [World.cell?, hb]
    refine (hfresh L.b w hc (by simp [World.shape?, hb]) (frozen_row hb hfr (by simp))).mono ?_
    rintro e w' ⟨rfl, rfl⟩
    have hw : w.setCell ⟨L.b, 0, none⟩ (.pointer (some ⟨L.b, 0, none⟩)) = w.setRow L.b #[.pointer (some ⟨L.b, 0, none⟩), v] := by
      have := setCell_eq_setRow w L.b 0 #[.pointer none, v] T fr (.pointer (some ⟨L.b, 0, none⟩)) hb
      simpa using this
    rw [hw]
    have hb2 := setRow_heap w L.b #[.pointer none, v] #[.pointer (some ⟨L.b, 0, none⟩), v] T fr hb
    have hc2 := Chg.of_setRow w L.b #[.pointer (some ⟨L.b, 0, none⟩), v]
    have hst := Stable.of_chg hc2 (hs.live r L hL).1
    refine ⟨_, rfl, .tup [], _, ow, loc, ⟨rfl, rfl⟩, hs.upd hL hc2 (by simp) ⟨_, T, fr, hb2, by simp [ho, hcap, hsz], hfr, hsz, hcap, fun j hj => ?_⟩ hrefs (tyKept hb hb2), undef_ok, .tup [] fun i hi => by simp at hi⟩
    match j, hj with
    | 0, _ => exact ⟨_, by rw [ho]; rfl, rfl, hptr _⟩
    | 1, _ => exact ⟨v, by rw [ho]; rfl, hv1, hv.mono hst (fun _ _ h => h) (LocLe.refl _)⟩
  · obtain rfl := rv_ptr0 hL ho hu
    have hc : w.cell? ⟨L.b, 0, none⟩ = some (.pointer (some ⟨L.b, 0, none⟩)) := by simp [World.cell?, hb]
    refine (hused L.b w hc).mono ?_
    rintro e w' ⟨rfl, rfl⟩
    refine ⟨_, rfl, .tup [], _, ow, loc, ⟨rfl, rfl⟩, hs.retell hL ⟨_, T, fr, hb, by simp [ho, hcap, hsz], hfr, hsz, hcap, fun j hj => ?_⟩ hrefs, undef_ok, .tup [] fun i hi => by simp at hi⟩
    match j, hj with
    | 0, _ => exact ⟨_, by rw [ho]; rfl, hu1, hptr _⟩
    | 1, _ => exact ⟨v, by rw [ho]; rfl, hv1, hv⟩

theorem rv_slc {r off len : Nat} {full : Bool} {v : Value} (h : RV w ow loc (.sl r off len full) v) :
    loc r = none ∨ (loc r = some none ∧ v = .slice none 0 0) ∨ ∃ L A c, loc r = some (some L) ∧ v = .slice (some A) len c ∧ len ≤ c ∧ off + c ≤ L.cap ∧ (full = true → off + c = L.cap) ∧ (c = 0 ∨ A = ⟨L.b, L.o + off * L.sz, none⟩) := by
  cases h with
  | data _ _ h => cases h
  | dang _ _ _ _ _ _ _ h => exact .inl h
  | slnil _ _ h => exact .inr (.inl ⟨h, rfl⟩)
  | sl _ _ _ _ L A c h h1 h2 h3 h4 => exact .inr (.inr ⟨L, A, c, h, rfl, h1, h2, h3, h4⟩)

theorem freeze_at {g : Nat} (m : Nat) {cur : Array Value} {e : TypeId} {fr : Nat × Nat} (hb : w.heap[g]? = some (.cells cur e fr)) : ∃ fr', (w.freeze ⟨g, 0, none⟩ m).heap[g]? = some (.cells cur e fr') := by
  unfold World.freeze
  by_cases h : m = 0
  · rw [if_pos h]; exact ⟨fr, hb⟩
  · rw [if_neg h]
    obtain ⟨lo, hi⟩ := fr
    refine ⟨if lo == hi then (0, 0 + m) else (min lo 0, max hi (0 + m)), ?_⟩
    simp [Array.getElem?_modify, hb]

theorem string_h {f : FuncId} {T t8 : TypeId} (henter : ∀ vs w, (callFunc f vs).run P w = .ok (.enter f vs) w)
    (hstr : ∀ (b g cap : Nat) (p : Value) (cur : Array Value) (frb frg : Nat × Nat) (w : World) (l : List UInt8), l ≠ [] → w.heap[b]? = some (.cells #[p, .slice (some ⟨g, 0, none⟩) l.length cap] T frb) → w.heap[g]? = some (.cells cur t8 frg) → l.length ≤ cap → cap ≤ cur.size →
      l.length ≤ 9223372036854775807 → (∀ j x, l[j]? = some x → w.cell? ⟨g, j, none⟩ = some (.int .u8 x.toNat)) → Calls P f #[.pointer (some ⟨b, 0, none⟩)] w fun e w' => e = .returned (.string ⟨l.toArray⟩) ∧ w' = w.drew.freeze ⟨g, 0, none⟩ l.length)
    {r r2 : Nat} {p : PV} {full : Bool} {l : List Int} (hne : r ≠ r2) (hr : H.get r = some (.var [p, .sl r2 0 l.length full])) (hr2 : H.get r2 = some (.ints .u8 l)) (ht : getT H.ty r = some T) (ht2 : getT H.ty r2 = some t8)
    (hl0 : l ≠ []) (hl1 : ∀ x ∈ l, 0 ≤ x ∧ x < 256) (hl2 : l.length ≤ 9223372036854775807) :
    HMeets P f [.ptr r 0 0] H fun res H' => res = .str l ∧ H' = H.drop [r2] := by
  refine ⟨fun E ow loc w vs hs hl ha => ?_⟩
  obtain ⟨v0, rfl⟩ := args_one hl
  obtain ⟨L, u, v, fr, hL, ho, hsz, hcap, hb, hfr, hu1, hv1, hu, hv⟩ := var2 hs hr ht
  obtain rfl := rv_ptr0 (v := v0) hL ho (by simpa using (ha 0 (by simp)).1)
  refine .inl ⟨henter _ w, ?_⟩
  obtain ⟨Lo, hLo, hat⟩ := hs.rows r2 _ hr2
  have hlen0 : 0 < l.length := List.length_pos_iff.2 hl0
  cases Lo with
  | none => exact absurd hat hl0
  | some M =>
    obtain ⟨cur, e, fr2, h1, h2, h3, h4, h5, h6⟩ := hat
    obtain ⟨cur', fr', h7, h8⟩ := (hs.ty r2 t8 ht2).2 M hLo
    have hc : t8 = e := by
      rw [h1] at h7
      injection h7 with h7
      injection h7 with h7 h9
      exact h9.symm
    subst hc
    rcases rv_slc hv with h | ⟨h, _⟩ | ⟨M', A, c, h, rfl, hlc, hc2, hf, hA⟩
    · rw [hLo] at h; cases h
    · rw [hLo] at h; cases h
    · rw [hLo] at h
      injection h with h
      injection h with h
      subst h
      have hA' : A = ⟨M.b, 0, none⟩ := by rw [hA.resolve_left (by omega), h8]; simp
      subst hA'
      let bs : List UInt8 := l.map fun x => x.toNat.toUInt8
      have hbl : bs.length = l.length := by simp [bs]
      have hbv : ∀ x ∈ l, ((x.toNat.toUInt8).toNat : Int) = x := fun x hx => by
        have := hl1 x hx
        simp
        omega
      have key := hstr L.b M.b c u cur fr fr2 w bs (by intro h; rw [h] at hbl; simp at hbl; omega) (by rw [hbl]; exact hb) h1 (by rw [hbl]; exact hlc) (by rw [h2, h8, h4]; omega) (by rw [hbl]; exact hl2) (fun j x hj => by
        have hj' : j < l.length := by rw [← hbl]; exact (List.getElem?_eq_some_iff.1 hj).1
        rw [World.cell?]
        simp only [h1]
        have := h6 j hj'
        rw [h8, Nat.zero_add] at this
        rw [this]
        simp only [bs, List.getElem?_map, List.getElem?_eq_getElem hj', Option.map_some, Option.some.injEq] at hj
        subst hj
        rw [hbv _ (List.getElem_mem hj')]
        simp [List.getD, List.getElem?_eq_getElem hj'])
      refine key.mono ?_
      rintro e w' ⟨rfl, rfl⟩
      have hs2 := hs.drop [r2]
      have hlive := hs.live r2 M hLo
      have hchg : Chg w (w.drew.freeze ⟨M.b, 0, none⟩ bs.length) M.b := by
        refine ⟨?_, ?_, ?_, ?_, fun k hk hne => ?_⟩
        · unfold World.freeze; split <;> rfl
        · unfold World.freeze; split <;> rfl
        · unfold World.freeze; split <;> rfl
        · unfold World.freeze; split <;> simp
        · unfold World.freeze; split
          · rfl
          · simp only [Array.getElem?_modify]
            rw [if_neg (Ne.symm hne)]
            rfl
      have hsize : (w.drew.freeze ⟨M.b, 0, none⟩ bs.length).heap.size = w.heap.size := by
        unfold World.freeze; split <;> simp
      have hcells : ∀ ow, Stable ow w (w.drew.freeze ⟨M.b, 0, none⟩ bs.length) := by
        intro ow b o u _ hu
        rcases Nat.decEq b M.b with hne | rfl
        · rw [World.cell?_of_block (w := w) (hchg.block b (World.block_lt_of_cell? w _ hu) hne)]; exact hu
        · obtain ⟨fr3, hh⟩ := freeze_at (w := w.drew) bs.length (show w.drew.heap[M.b]? = some (.cells cur t8 fr2) from h1)
          rw [World.cell?] at hu ⊢
          simp only [h1] at hu
          simp only [hh]
          exact hu
      refine ⟨_, rfl, .str l, _, _, _, ⟨rfl, rfl⟩, hs2.quiet (g := M.b) (fun r' L' hr' e => ?_) hlive.2.2 hchg hcells hsize, .data _ _ (.str _ _ ?_), .str _⟩
      · have hh : (bif [r2].contains r' then none else loc r') = some (some L') := hr'
        cases hk : [r2].contains r' with
        | true => rw [hk] at hh; cases hh
        | false =>
          rw [hk] at hh
          have := hs.inj r' r2 L' M hh hLo e
          subst this
          simp at hk
      · unfold bytesI
        simp only [bs, List.map_map]
        refine (List.map_congr_left fun x hx => ?_).trans (List.map_id _)
        exact hbv x hx
end
end Go.PV
set_option linter.unusedVariables false
set_option linter.unusedSimpArgs false
namespace Go.PV
open Go Go.RowKit

section
variable {P : Program} {nt : Nat} {E : Entry P} {H : Heap} {F : Frame}

theorem condE_meet {b : Bool} {x y c : Code} {Q : Exit → Frame → Heap → Prop} (M : Frame → Heap → Prop) (h1 : b = true → PW P E nt x (thenQ (Meet E nt M) Q) F H) (h2 : b = false → PW P E nt y (thenQ (Meet E nt M) Q) F H) (k : ∀ F H, M F H → PW P E nt c Q F H) :
    condE (.bool b) (PW P E nt x (thenQ (PWx P E nt c Q .mk) Q) F H) (PW P E nt y (thenQ (PWx P E nt c Q .mk) Q) F H) .mk .mk := by
  have key : ∀ z : Code, PW P E nt z (thenQ (Meet E nt M) Q) F H → PW P E nt z (thenQ (PWx P E nt c Q .mk) Q) F H := fun z h => by
    refine PW.mono h fun e F H hq => ?_
    cases e <;> try exact hq
    exact Meet.go hq k
  exact condE_var (fun h => key _ (h1 h)) fun h => key _ (h2 h)

end
end Go.PV
namespace Go.PV
end Go.PV
namespace Go.PV
open Go Go.RowKit

theorem wf_u64 {n : Int} (h : (Lit.int .u64 n).wf = true) : 0 ≤ n ∧ n < 18446744073709551616 := by
  simp only [Lit.wf, Bool.and_eq_true, decide_eq_true_eq, IntKind.min, IntKind.max, IntKind.signed, IntKind.bits] at h
  simp at h
  omega
theorem args2 {w : World} {ow : Nat → Prop} {p q : PV} {v u : Value} (h : RD w ow p v) (h2 : RD w ow q u) : ∀ i, i < [p, q].length → RD w ow ([p, q].getD i .undef) (#[v, u].getD i undef) := by
  intro i hi
  match i, hi with
  | 0, _ => exact h
  | 1, _ => exact h2
end Go.PV
set_option linter.unusedVariables false
set_option linter.unusedSimpArgs false
namespace Go.PV
open Go Go.RowKit
variable {P : Program}
end Go.PV
set_option maxHeartbeats 4000000
set_option maxRecDepth 4000
set_option exponentiation.threshold 300000
set_option linter.unusedVariables false
set_option linter.unusedSimpArgs false
namespace Go.Proofs.YtbmhnjghpjkjpaaGreatDoor
open Go Go.PV

theorem nat_trim_h (l : List Int) (hl : l.length ≤ 17592186043904) (nx : Nat) (rows : List (Nat × PV.Row)) (g : List PV.Frame) (ty : List (Nat × TypeId)) :
    HMeets Tryz.prog 162 [.ints .u64 l] ⟨nx, rows, g, ty⟩ fun res H' => res = .sl nx 0 (size l) true ∧ H' = ⟨nx + 1, setRow rows nx (.ints .u64 (trim l)), g, (nx, 27) :: ty⟩ := by
  refine hmeets_by ttOk Tryz.func162 Tryz.ntmps162 Tryz.results162 (by kernel_rfl) (c := _) rfl rfl fun E => ?_
  simp only [argsFrame]
  have hsz := size_le l
  repeat' first
    | (with_reducible first | refine PW.seq ?_ | refine PW.block ?_ | refine PW.fork ?_ | refine PW.skip ?_ | refine PW.exit ?_ | refine PW.ret ?_ | refine PW.scope ?_ | refine PW.label ?_ | refine PW.goto ?_)
    | (with_reducible refine PW.region ttOk ?_ ?_
       · rfl)
    | (with_reducible refine PW.regionD ttOk mixed ?_ ?_ ?_
       · rfl
       · rfl)
    | (with_reducible refine ifW_dec (fun g => ?_) (fun g => ?_) <;> first | (exfalso; omega) | (simp -dsimp only [g, wkI]))
    | (with_reducible refine condE_dec (fun g => ?_) (fun g => ?_) <;> try (exfalso; omega))
    | (with_reducible refine condE_not (fun g => ?_) (fun g => ?_) <;> try (exfalso; omega))
    | (simp -dsimp only [getRow_setRow_self, Go.PV.setRow_setRow, ↓wkA, ↓wkE, ↓wkJ, wkB, ↓tt, Nat.reduceBEq, Nat.reduceEqDiff, ↓reduceIte, Nat.reduceLT, Array.toList, Nat.reduceAdd, Nat.reduceMul, Int.reduceToNat, Int.reducePow, UInt8.reduceToNat])
    | (refine call_by (nat_size _ (by first | assumption | omega)) (views_data rfl) ⟨trivial, trivial⟩ rfl ?_)
    | (simp -dsimp (disch := first | assumption | omega) only [dec_t, dec_f])
    | (refine And.intro ?_ ?_
       · first | omega | decide | (simp (disch := omega) only [wkW, Int.reduceToNat, Int.reducePow] <;> omega) | (simp <;> omega))
    | (simp (disch := omega) only [wkW, Int.reduceToNat, Int.reducePow])
    | fail
  have e : List.take (min (List.take (size l) l).length (size l)) (List.take (size l) l) ++ List.drop (min (List.take (size l) l).length (size l)) (List.replicate (size l) 0) = trim l := by
    rw [List.length_take, Nat.min_eq_left (by omega : size l ≤ l.length), Nat.min_self, List.take_take, Nat.min_self, List.drop_of_length_le (by simp), List.append_nil]
    rfl
  rw [e]
end Go.Proofs.YtbmhnjghpjkjpaaGreatDoor
set_option maxHeartbeats 4000000
set_option maxRecDepth 4000
set_option exponentiation.threshold 300000
set_option linter.unusedVariables false
set_option linter.unusedSimpArgs false
namespace Go.Proofs.YtbmhnjghpjkjpaaGreatDoor
open Go Go.RowKit Go.Shelf

theorem b_t86 : Tryz.prog.underlying 175 = some (.pointer 177) := by kernel_rfl
theorem b_t137 : Tryz.prog.underlying 217 = some .unsafePointer := by kernel_rfl
theorem b_t118 : Tryz.prog.underlying 189 = some (.pointer 5) := by kernel_rfl
theorem b_size : (Tryz.prog.info? 177).map (·.size) = some 2 := by kernel_rfl
theorem b_lies : liesAt Tryz.prog Tryz.prog.depth 177 (2 / Tryz.prog.cellsOf 177) 0 177 1 = true := by kernel_rfl
theorem b_cells5 : Tryz.prog.cellsOf 5 = 1 := by kernel_rfl

set_option maxHeartbeats 1000000 in
set_option maxRecDepth 100000 in
theorem copyCheck_used (b : Nat) (w : World) (h0 : w.cell? ⟨b, 0, none⟩ = some (.pointer (some ⟨b, 0, none⟩))) :
    Calls Tryz.prog 195 #[.pointer (some ⟨b, 0, none⟩)] w fun e w' => e = .returned (.tuple #[]) ∧ w' = w := by
  obtain ⟨j, hj, _⟩ := Option.map_eq_some_iff.1 b_size
  go_enter Tryz.func195, Tryz.ntmps195
  go_wp2
  rw [Lib.run_neq_ptr_same w _ b_t86 hj]
  go_wp2
  go_end0
  exact ⟨rfl, rfl⟩

set_option maxHeartbeats 1000000 in
set_option maxRecDepth 100000 in
theorem copyCheck_fresh (b : Nat) (w : World) (h0 : w.cell? ⟨b, 0, none⟩ = some (.pointer none)) (hsh : w.shape? b = some (177, 2)) (hfz : w.frozen? ⟨b, 0, none⟩ = false) :
    Calls Tryz.prog 195 #[.pointer (some ⟨b, 0, none⟩)] w fun e w' => e = .returned (.tuple #[]) ∧ w' = w.setCell ⟨b, 0, none⟩ (.pointer (some ⟨b, 0, none⟩)) := by
  obtain ⟨j, hj, hjs⟩ := Option.map_eq_some_iff.1 b_size
  go_enter Tryz.func195, Tryz.ntmps195
  go_wp2
  rw [Lib.run_to_unsafe w ⟨b, 0, none⟩ b_t86 b_t137 hj (by rw [hjs]; decide) hsh (Nat.zero_lt_succ 1)]
  simp only [Result.andThen]
  rw [Oper.upon_value]
  go_wp2
  rw [run_callFunc_extern Tryz.func212 (by kernel_rfl) (by kernel_rfl) (by kernel_rfl) (e := Extern.AbiNoEscape.same) (by kernel_rfl)]
  rw [Lib.run_noEscape]
  simp only [Result.andThen]
  rw [Oper.upon_value]
  go_wp2
  rw [Lib.run_from_unsafe w ⟨b, 0, none⟩ b_t137 b_t86 hj hsh b_lies]
  simp only [Result.andThen]
  rw [Oper.upon_value]
  go_wp2
  go_end0
  exact ⟨rfl, rfl⟩

set_option maxHeartbeats 2000000 in
set_option maxRecDepth 100000 in
theorem string_run (b g cap : Nat) (p : Value) (cur : Array Value) (frb frg : Nat × Nat) (w : World) (l : List UInt8) (h0 : l ≠ []) (hbk : w.heap[b]? = some (.cells #[p, .slice (some ⟨g, 0, none⟩) l.length cap] 177 frb)) (hg : w.heap[g]? = some (.cells cur 5 frg))
    (hlc : l.length ≤ cap) (hcap : cap ≤ cur.size) (h63 : l.length ≤ 9223372036854775807) (hcell : ∀ j x, l[j]? = some x → w.cell? ⟨g, j, none⟩ = some (.int .u8 x.toNat)) :
    Calls Tryz.prog 165 #[.pointer (some ⟨b, 0, none⟩)] w fun e w' => e = .returned (.string ⟨l.toArray⟩) ∧ w' = w.drew.freeze ⟨g, 0, none⟩ l.length := by
  have hl0 : l.length ≠ 0 := by simpa using h0
  have c1 : w.drew.cell? ⟨b, 1, none⟩ = some (.slice (some ⟨g, 0, none⟩) l.length cap) := by
    have : w.drew.heap[b]? = some (.cells #[p, .slice (some ⟨g, 0, none⟩) l.length cap] 177 frb) := hbk
    rw [Lib.cell_of_heap this]; rfl
  have hSD : (Builtin.unsafeSliceData_ #[23] 189 #[.slice (some ⟨g, 0, none⟩) l.length cap]).run Tryz.prog w.drew = .ok (.pointer (some ⟨g, 0, none⟩)) w.drew :=
    Lib.run_unsafeSliceData_row _ _ _ _ _ _ (by omega)
  have hUS : (Builtin.unsafeString_ #[189, 3] 9 #[.pointer (some ⟨g, 0, none⟩), .int .i64 l.length]).run Tryz.prog w.drew = .ok (.string ⟨l.toArray⟩) (w.drew.freeze ⟨g, 0, none⟩ l.length) := by
    refine Lib.run_unsafeString_row w.drew 189 3 9 5 b_t118 b_cells5 g cur.size (by have hg' : w.drew.heap[g]? = some (.cells cur 5 frg) := hg; simp [World.shape?, hg']) l h0 (by omega) h63 ?_
    intro j x hx
    rw [show ((⟨g, 0, none⟩ : Addr).add j) = ⟨g, j, none⟩ by simp [Addr.add]; intro h; exact h.symm]
    exact hcell j x hx
  have mixed := mixed
  go_enter Tryz.func165, Tryz.ntmps165
  go_wp2
  go_region_o
  all_goals (go_wp2; go_ret; exact ⟨rfl, rfl⟩)
end Go.Proofs.YtbmhnjghpjkjpaaGreatDoor
set_option maxHeartbeats 4000000
set_option maxRecDepth 4000
set_option exponentiation.threshold 300000
set_option linter.unusedVariables false
set_option linter.unusedSimpArgs false
namespace Go.Proofs.YtbmhnjghpjkjpaaGreatDoor
open Go Go.PV

theorem b_enter97 (vs : Array Value) (w : World) : (callFunc 195 vs).run Tryz.prog w = .ok (.enter 195 vs) w := call_enters Tryz.func195 (by kernel_rfl) rfl vs w
theorem b_enter67 (vs : Array Value) (w : World) : (callFunc 165 vs).run Tryz.prog w = .ok (.enter 165 vs) w := call_enters Tryz.func165 (by kernel_rfl) rfl vs w

theorem builder_copyCheck {H : PV.Heap} {r : Nat} {p q : PV} (hr : H.get r = some (.var [p, q])) (hp : p = .nilptr ∨ p = .ptr r 0 0) (ht : getT H.ty r = some 177) :
    HMeets Tryz.prog 195 [.ptr r 0 0] H fun res H' => res = .tup [] ∧ H' = H.set r (.var [.ptr r 0 0, q]) :=
  copyCheck_h b_enter97 copyCheck_fresh copyCheck_used hr hp ht

theorem builder_String {H : PV.Heap} {r r2 : Nat} {p : PV} {full : Bool} {l : List Int} (hne : r ≠ r2) (hr : H.get r = some (.var [p, .sl r2 0 l.length full])) (hr2 : H.get r2 = some (.ints .u8 l)) (ht : getT H.ty r = some 177) (ht2 : getT H.ty r2 = some 5)
    (hl0 : l ≠ []) (hl1 : ∀ x ∈ l, 0 ≤ x ∧ x < 256) (hl2 : l.length ≤ 9223372036854775807) :
    HMeets Tryz.prog 165 [.ptr r 0 0] H fun res H' => res = .str l ∧ H' = H.drop [r2] :=
  string_h b_enter67 string_run hne hr hr2 ht ht2 hl0 hl1 hl2

theorem builder_WriteByte {nx : Nat} {rows : List (Nat × PV.Row)} {g : List PV.Frame} {ty : List (Nat × TypeId)} {r r2 : Nat} {p : PV} {l : List Int} (c : Int) (hne : r ≠ r2) (hrn : r < nx) (hrn2 : r2 < nx) (hr : getRow rows r = some (.var [p, .sl r2 0 l.length true])) (hr2 : getRow rows r2 = some (.ints .u8 l))
    (hp : p = .nilptr ∨ p = .ptr r 0 0) (ht : getT ty r = some 177) (ht2 : getT ty r2 = some 5) (hl : l.length ≤ 100000000000000) :
    HMeets Tryz.prog 164 [.ptr r 0 0, .int .u8 c] ⟨nx, rows, g, ty⟩ fun res H' => res = .con .nilIface ∧ H' = ⟨nx + 1, setRow (setRow (killRows r2 (setRow (setRow rows r (.var [.ptr r 0 0, .sl r2 0 l.length true])) nx (.ints .u8 [c]))) r2 (.ints .u8 (l ++ [c]))) r (.var [.ptr r 0 0, .sl r2 0 (l.length + 1) true]), g.map (Frame.kill r2), (r2, 5) :: dropT r2 ((nx, 5) :: ty)⟩ := by
  refine hmeets_by ttOk Tryz.func164 Tryz.ntmps164 Tryz.results164 (by kernel_rfl) (c := _) rfl rfl fun E => ?_
  simp only [argsFrame]
  have h1 : r ≠ nx := by omega
  have h2 : r2 ≠ nx := by omega
  have h3 := Ne.symm hne
  have h4 := Ne.symm h1
  have h5 := Ne.symm h2
  have b1 : (r2 == r) = false := beq_eq_false_iff_ne.2 h3
  have b2 : (r == r2) = false := beq_eq_false_iff_ne.2 hne
  have b3 : (nx == r2) = false := beq_eq_false_iff_ne.2 h5
  have b4 : (r2 == nx) = false := beq_eq_false_iff_ne.2 h2
  have b5 : (nx == r) = false := beq_eq_false_iff_ne.2 h4
  have b6 : (r == nx) = false := beq_eq_false_iff_ne.2 h1
  repeat' first
    | (with_reducible first | refine PW.seq ?_ | refine PW.block ?_ | refine PW.fork ?_ | refine PW.skip ?_ | refine PW.exit ?_ | refine PW.ret ?_ | refine PW.scope ?_ | refine PW.label ?_ | refine PW.goto ?_)
    | (with_reducible refine PW.region ttOk ?_ ?_
       · rfl)
    | (with_reducible refine PW.regionD ttOk mixed ?_ ?_ ?_
       · rfl
       · rfl)
    | (with_reducible refine ifW_dec (fun g => ?_) (fun g => ?_) <;> first | (exfalso; omega) | (simp -dsimp only [g, wkI]))
    | (with_reducible refine condE_dec (fun g => ?_) (fun g => ?_) <;> try (exfalso; omega))
    | (with_reducible refine condE_not (fun g => ?_) (fun g => ?_) <;> try (exfalso; omega))
    | (simp -dsimp only [getRow_setRow, getRow_kill, hr, hr2, hne, h1, h2, h3, h4, h5, b1, b2, b3, b4, b5, b6, ht, ht2, if_true, if_false, Option.map_some, ↓wkA, ↓wkE, ↓wkJ, wkB, ↓tt, Nat.reduceBEq, Nat.reduceEqDiff, ↓reduceIte, Nat.reduceLT, Array.toList, Nat.reduceAdd, Nat.reduceMul, Int.reduceToNat, Int.reducePow, UInt8.reduceToNat])
    | (refine call_h (builder_copyCheck (H := ⟨_, _, _, _⟩) hr hp ht) (fun res H' hR => ?_); obtain ⟨rfl, rfl⟩ := hR; refine ⟨_, _, rfl, ?_⟩)
    | (simp -dsimp (disch := first | assumption | omega) only [dec_t, dec_f])
    | (refine And.intro ?_ ?_
       · first | omega | decide | (simp (disch := omega) only [wkW, Int.reduceToNat, Int.reducePow] <;> omega) | (simp <;> omega))
    | (simp (disch := omega) only [wkW, Int.reduceToNat, Int.reducePow])
    | fail
  trace_state
end Go.Proofs.YtbmhnjghpjkjpaaGreatDoor
set_option maxHeartbeats 4000000
set_option maxRecDepth 4000
set_option exponentiation.threshold 300000
set_option linter.unusedVariables false
set_option linter.unusedSimpArgs false
namespace Go.Proofs.YtbmhnjghpjkjpaaGreatDoor
open Go Go.PV

termination_by v
decreasing_by exact Nat.div_lt_self (by omega) (by omega)

theorem digs_len {b : Nat} (hb : 2 ≤ b) : ∀ k v, v < 2 ^ k → (digs b v).length ≤ k := by
  intro k
  induction k with
  | zero => intro v hv; have : v = 0 := by simpa using hv
            subst this; simp [digs_zero]
  | succ k ih =>
    intro v hv
    by_cases h0 : v = 0
    · subst h0; simp [digs_zero]
    · rw [digs_step hb h0, List.length_cons]
      have : v / b ≤ v / 2 := Nat.div_le_div_left hb (by decide)
      have := ih (v / b) (by rw [Nat.pow_succ] at hv; omega)
      omega

theorem digs_part {b m r t : Nat} (hb : 2 ≤ b) (h : r ≠ 0 ∨ t ≠ 0) : digs b (r + b ^ (m + 1) * t) = (r % b) :: digs b (r / b + b ^ m * t) := by
  have hp := Nat.pow_pos (n := m + 1) (show 0 < b by omega)
  have e : b ^ (m + 1) * t = b * (b ^ m * t) := by rw [Nat.pow_succ]; grind
  have h0 : r + b ^ (m + 1) * t ≠ 0 := by
    rcases h with h | h
    · omega
    · have := Nat.mul_pos hp (Nat.pos_of_ne_zero h); omega
  rw [digs_step hb h0, e, Nat.add_mul_mod_self_left, Nat.add_mul_div_left _ _ (by omega)]

theorem lettersOf_len (u : Bool) : (lettersOf u).length = 36 := by cases u <;> rfl
theorem lettersOf_byte (u : Bool) : ∀ x ∈ lettersOf u, 0 ≤ x ∧ x < 256 := by cases u <;> decide

end Go.Proofs.YtbmhnjghpjkjpaaGreatDoor
set_option maxHeartbeats 4000000
set_option maxRecDepth 4000
set_option exponentiation.threshold 300000
set_option linter.unusedVariables false
set_option linter.unusedSimpArgs false
namespace Go.Proofs.YtbmhnjghpjkjpaaGreatDoor
open Go Go.PV

def inBaseR (a : List Int) (base : Int) (u : Bool) : PV :=
  if 4096 < size a then .tup [.str [], .int .i64 2] else if base < 2 ∨ 36 < base then .tup [.str [], .int .i64 32] else if size a = 0 then .tup [.str [48], .int .i64 0] else .tup [.str (text base.toNat u (val a).toNat), .int .i64 0]

theorem in_base_err (a : List Int) (hla : a.length ≤ 17592186043904) (base : Int) (hb : -9223372036854775808 ≤ base ∧ base ≤ 9223372036854775807) (u : Bool) (h : 4096 < size a ∨ (base < 2 ∨ 36 < base) ∨ size a = 0) :
    Meets Tryz.prog 129 [.ints .u64 a, .int .i64 base, .bool u] (inBaseR a base u) := by
  refine meets_by ttOk Tryz.func129 Tryz.ntmps129 Tryz.results129 (by kernel_rfl) (c := _) rfl rfl rfl fun E => ?_
  simp only [argsFrame]
  have htl := trim_len a
  unfold inBaseR
  by_cases h1 : 4096 < size a
  · rw [if_pos h1]
    repeat' first
      | (with_reducible first | refine PW.seq ?_ | refine PW.block ?_ | refine PW.fork ?_ | refine PW.skip ?_ | refine PW.exit ?_ | refine PW.ret ?_ | refine PW.scope ?_ | refine PW.label ?_ | refine PW.goto ?_)
      | (with_reducible refine PW.region ttOk ?_ ?_
         · rfl)
      | (with_reducible refine PW.regionD ttOk mixed ?_ ?_ ?_
         · rfl
         · rfl)
      | (with_reducible refine ifW_dec (fun g => ?_) (fun g => ?_) <;> first | (exfalso; omega) | (simp -dsimp only [g, wkI]))
      | (with_reducible refine condE_dec (fun g => ?_) (fun g => ?_) <;> try (exfalso; omega))
      | (with_reducible refine condE_not (fun g => ?_) (fun g => ?_) <;> try (exfalso; omega))
      | (simp -dsimp only [↓wkA, ↓wkE, ↓wkJ, wkB, ↓tt, Nat.reduceBEq, Nat.reduceEqDiff, ↓reduceIte, Nat.reduceLT, Array.toList, Nat.reduceAdd, Nat.reduceMul, Int.reduceToNat, Int.reducePow, UInt8.reduceToNat])
      | (refine call_h (nat_trim_h a hla _ _ _ _) (fun res H' hR => ?_); obtain ⟨rfl, rfl⟩ := hR; refine ⟨_, _, rfl, ?_⟩)
      | (simp -dsimp (disch := first | assumption | omega) only [dec_t, dec_f])
      | (refine And.intro ?_ ?_
         · first | omega | decide | (simp (disch := omega) only [wkW, Int.reduceToNat, Int.reducePow] <;> omega) | (simp <;> omega))
      | (simp (disch := omega) only [wkW, Int.reduceToNat, Int.reducePow])
      | fail
  rw [if_neg h1]
  by_cases h2 : base < 2 ∨ 36 < base
  · rw [if_pos h2]
    repeat' first
      | (with_reducible first | refine PW.seq ?_ | refine PW.block ?_ | refine PW.fork ?_ | refine PW.skip ?_ | refine PW.exit ?_ | refine PW.ret ?_ | refine PW.scope ?_ | refine PW.label ?_ | refine PW.goto ?_)
      | (with_reducible refine PW.region ttOk ?_ ?_
         · rfl)
      | (with_reducible refine PW.regionD ttOk mixed ?_ ?_ ?_
         · rfl
         · rfl)
      | (with_reducible refine ifW_dec (fun g => ?_) (fun g => ?_) <;> first | (exfalso; omega) | (simp -dsimp only [g, wkI]))
      | (with_reducible refine condE_dec (fun g => ?_) (fun g => ?_) <;> try (exfalso; omega))
      | (with_reducible refine condE_not (fun g => ?_) (fun g => ?_) <;> try (exfalso; omega))
      | (simp -dsimp only [↓wkA, ↓wkE, ↓wkJ, wkB, ↓tt, Nat.reduceBEq, Nat.reduceEqDiff, ↓reduceIte, Nat.reduceLT, Array.toList, Nat.reduceAdd, Nat.reduceMul, Int.reduceToNat, Int.reducePow, UInt8.reduceToNat])
      | (refine call_h (nat_trim_h a hla _ _ _ _) (fun res H' hR => ?_); obtain ⟨rfl, rfl⟩ := hR; refine ⟨_, _, rfl, ?_⟩)
      | (simp -dsimp (disch := first | assumption | omega) only [dec_t, dec_f])
      | (refine And.intro ?_ ?_
         · first | omega | decide | (simp (disch := omega) only [wkW, Int.reduceToNat, Int.reducePow] <;> omega) | (simp <;> omega))
      | (simp (disch := omega) only [wkW, Int.reduceToNat, Int.reducePow])
      | fail
  rw [if_neg h2]
  have h3 : size a = 0 := by omega
  rw [if_pos h3]
  repeat' first
    | (with_reducible first | refine PW.seq ?_ | refine PW.block ?_ | refine PW.fork ?_ | refine PW.skip ?_ | refine PW.exit ?_ | refine PW.ret ?_ | refine PW.scope ?_ | refine PW.label ?_ | refine PW.goto ?_)
    | (with_reducible refine PW.region ttOk ?_ ?_
       · rfl)
    | (with_reducible refine PW.regionD ttOk mixed ?_ ?_ ?_
       · rfl
       · rfl)
    | (with_reducible refine ifW_dec (fun g => ?_) (fun g => ?_) <;> first | (exfalso; omega) | (simp -dsimp only [g, wkI]))
    | (with_reducible refine condE_dec (fun g => ?_) (fun g => ?_) <;> try (exfalso; omega))
    | (with_reducible refine condE_not (fun g => ?_) (fun g => ?_) <;> try (exfalso; omega))
    | (simp -dsimp only [↓wkA, ↓wkE, ↓wkJ, wkB, ↓tt, Nat.reduceBEq, Nat.reduceEqDiff, ↓reduceIte, Nat.reduceLT, Array.toList, Nat.reduceAdd, Nat.reduceMul, Int.reduceToNat, Int.reducePow, UInt8.reduceToNat])
    | (refine call_h (nat_trim_h a hla _ _ _ _) (fun res H' hR => ?_); obtain ⟨rfl, rfl⟩ := hR; refine ⟨_, _, rfl, ?_⟩)
    | (simp -dsimp (disch := first | assumption | omega) only [dec_t, dec_f])
    | (refine And.intro ?_ ?_
       · first | omega | decide | (simp (disch := omega) only [wkW, Int.reduceToNat, Int.reducePow] <;> omega) | (simp <;> omega))
    | (simp (disch := omega) only [wkW, Int.reduceToNat, Int.reducePow])
    | fail

abbrev ifO (b k : Nat) (ℓ : List Int) (n r : Nat) : PV.Frame := [(8, .sl 0 0 n true), (9, .str ℓ), (1, .int .i64 (b : Int)), (10, .int .u64 ((b ^ k : Nat) : Int)), (11, .int .i64 (k : Int)), (12, .sl 1 0 r true)]
abbrev ihO (t rev : List Int) : PV.Heap := ⟨2, [(0, .ints .u64 t), (1, .ints .u8 rev)], [], []⟩
def IOut (b k : Nat) (ℓ R : List Int) (L : Nat) (m : Nat) (F : PV.Frame) (H : PV.Heap) : Prop :=
  ∃ n t rev, t.length = L ∧ n ≤ L ∧ Limbs t ∧ (n ≠ 0 → t.getD (n - 1) 0 ≠ 0) ∧ rev ++ (digs b (vt t n).toNat).map (fun d => ℓ.getD d 0) = R ∧ (vt t n).toNat = m ∧ F = ifO b k ℓ n rev.length ∧ H = ihO t rev

def IDiv (b k : Nat) (ℓ t rev : List Int) (n L : Nat) (i : Nat) (F : PV.Frame) (H : PV.Heap) : Prop :=
  ∃ t' rest, t'.length = L ∧ DivI t t' n i ((b ^ k : Nat) : Int) rest ∧ i ≤ n ∧ F = (14, .int .i64 ((i : Int) - 1)) :: (13, .int .u64 rest) :: ifO b k ℓ n rev.length ∧ H = ihO t' rev

def ITrim (b k : Nat) (ℓ t rev : List Int) (n : Nat) (T rest : Int) (i : Nat) (F : PV.Frame) (H : PV.Heap) : Prop :=
  i ≤ n ∧ vt t i = T ∧ F = (13, .int .u64 rest) :: ifO b k ℓ i rev.length ∧ H = ihO t rev

def IDig (b k : Nat) (ℓ R t : List Int) (n τ : Nat) (i : Nat) (F : PV.Frame) (H : PV.Heap) : Prop :=
  ∃ (j r : Nat) (rv : List Int), j + i = k ∧ r < b ^ i ∧ rv ++ (digs b (r + b ^ i * τ)).map (fun d => ℓ.getD d 0) = R ∧ F = (15, .int .i64 (j : Int)) :: (13, .int .u64 ((r : Nat) : Int)) :: ifO b k ℓ n rv.length ∧ H = ihO t rv

abbrev ihB (R : List Int) (p : PV) (l : List Int) : PV.Heap := ⟨4, [(1, .ints .u8 R), (2, .var [p, .sl 3 0 l.length true]), (3, .ints .u8 l)], [], [(3, 5), (2, 177)]⟩
def IBuild (R : List Int) (i : Nat) (F : PV.Frame) (H : PV.Heap) : Prop :=
  ∃ p, i ≤ R.length ∧ (p = .nilptr ∨ p = .ptr 2 0 0) ∧ F = [(17, .int .i64 ((i : Int) - 1)), (16, .ptr 2 0 0), (12, .sl 1 0 R.length true)] ∧ H = ihB R p (R.drop i).reverse

set_option exponentiation.threshold 300000 in
set_option maxHeartbeats 2000000 in
theorem in_base_main (a : List Int) (ha : Limbs a) (hla : a.length ≤ 17592186043904) (b : Nat) (hb : 2 ≤ b ∧ b ≤ 36) (u : Bool) (h1 : size a ≤ 4096) (h2 : size a ≠ 0) :
    Meets Tryz.prog 129 [.ints .u64 a, .int .i64 (b : Int), .bool u] (.tup [.str (text b u (val a).toNat), .int .i64 0]) := by
  refine meets_by ttOk Tryz.func129 Tryz.ntmps129 Tryz.results129 (by kernel_rfl) (c := _) rfl rfl rfl fun E => ?_
  simp only [argsFrame]
  have htl := trim_len a
  obtain ⟨k, hk1, hk2, hk3, hk4, hk5⟩ := chunk_ex b hb
  have hchunk := numeral_chunk b k hb hk1 hk2 hk3 hk4 hk5
  repeat' first
    | (with_reducible first | refine PW.seq ?_ | refine PW.block ?_ | refine PW.fork ?_ | refine PW.skip ?_ | refine PW.exit ?_ | refine PW.ret ?_ | refine PW.scope ?_ | refine PW.label ?_ | refine PW.goto ?_)
    | (with_reducible refine PW.region ttOk ?_ ?_
       · rfl)
    | (with_reducible refine PW.regionD ttOk mixed ?_ ?_ ?_
       · rfl
       · rfl)
    | (with_reducible refine ifW_dec (fun g => ?_) (fun g => ?_) <;> first | (exfalso; omega) | (simp -dsimp only [g, wkI]))
    | (with_reducible refine condE_dec (fun g => ?_) (fun g => ?_) <;> try (exfalso; omega))
    | (with_reducible refine condE_not (fun g => ?_) (fun g => ?_) <;> try (exfalso; omega))
    | (simp -dsimp only [↓wkA, ↓wkE, ↓wkJ, wkB, ↓tt, Nat.reduceBEq, Nat.reduceEqDiff, ↓reduceIte, Nat.reduceLT, Array.toList, Nat.reduceAdd, Nat.reduceMul, Int.reduceToNat, Int.reducePow, UInt8.reduceToNat])
    | (refine call_h (nat_trim_h a hla _ _ _ _) (fun res H' hR => ?_); obtain ⟨rfl, rfl⟩ := hR; refine ⟨_, _, rfl, ?_⟩)
    | (refine call_by hchunk (views_data rfl) ⟨trivial, trivial⟩ rfl ?_)
    | (simp -dsimp (disch := first | assumption | omega) only [dec_t, dec_f])
    | (refine And.intro ?_ ?_
       · first | omega | decide | (simp (disch := omega) only [wkW, Int.reduceToNat, Int.reducePow] <;> omega) | (simp <;> omega))
    | (simp (disch := omega) only [wkW, Int.reduceToNat, Int.reducePow])
    | fail
  refine condE_meet (fun F H => F = [(8, .sl 0 0 (size a) true), (9, .str (lettersOf u)), (1, .int .i64 (b : Int))] ∧ H = ⟨1, [(0, .ints .u64 (trim a))], [], [(0, 27)]⟩) (fun hu => ?_) (fun hu => ?_) ?_
  · subst hu
    repeat' first
      | (with_reducible first | refine PW.seq ?_ | refine PW.block ?_ | refine PW.fork ?_ | refine PW.skip ?_ | refine PW.exit ?_ | refine PW.ret ?_ | refine PW.scope ?_ | refine PW.label ?_ | refine PW.goto ?_)
      | (with_reducible refine PW.region ttOk ?_ ?_
         · rfl)
      | (with_reducible refine PW.regionD ttOk mixed ?_ ?_ ?_
         · rfl
         · rfl)
      | (with_reducible refine ifW_dec (fun g => ?_) (fun g => ?_) <;> first | (exfalso; omega) | (simp -dsimp only [g, wkI]))
      | (with_reducible refine condE_dec (fun g => ?_) (fun g => ?_) <;> try (exfalso; omega))
      | (with_reducible refine condE_not (fun g => ?_) (fun g => ?_) <;> try (exfalso; omega))
      | (simp -dsimp only [↓wkA, ↓wkE, ↓wkJ, wkB, ↓tt, Nat.reduceBEq, Nat.reduceEqDiff, ↓reduceIte, Nat.reduceLT, Array.toList, Nat.reduceAdd, Nat.reduceMul, Int.reduceToNat, Int.reducePow, UInt8.reduceToNat])
      | (simp -dsimp (disch := first | assumption | omega) only [dec_t, dec_f])
      | (refine And.intro ?_ ?_
         · first | omega | decide | (simp (disch := omega) only [wkW, Int.reduceToNat, Int.reducePow] <;> omega) | (simp <;> omega))
      | (simp (disch := omega) only [wkW, Int.reduceToNat, Int.reducePow])
      | fail
    exact Meet.mk [(8, .sl 0 0 (size a) true), (9, .str (lettersOf true)), (1, .int .i64 (b : Int))] ⟨1, [(0, .ints .u64 (trim a))], [], [(0, 27)]⟩ (Sub.norm ⟨rfl, rfl, rfl, trivial⟩ ⟨rfl, trivial⟩ (Nat.le_refl _) rfl rfl rfl rfl (tyOk_spec rfl)) ⟨rfl, rfl⟩
  · subst hu
    repeat' first
      | (with_reducible first | refine PW.seq ?_ | refine PW.block ?_ | refine PW.fork ?_ | refine PW.skip ?_ | refine PW.exit ?_ | refine PW.ret ?_ | refine PW.scope ?_ | refine PW.label ?_ | refine PW.goto ?_)
      | (with_reducible refine PW.region ttOk ?_ ?_
         · rfl)
      | (with_reducible refine PW.regionD ttOk mixed ?_ ?_ ?_
         · rfl
         · rfl)
      | (with_reducible refine ifW_dec (fun g => ?_) (fun g => ?_) <;> first | (exfalso; omega) | (simp -dsimp only [g, wkI]))
      | (with_reducible refine condE_dec (fun g => ?_) (fun g => ?_) <;> try (exfalso; omega))
      | (with_reducible refine condE_not (fun g => ?_) (fun g => ?_) <;> try (exfalso; omega))
      | (simp -dsimp only [↓wkA, ↓wkE, ↓wkJ, wkB, ↓tt, Nat.reduceBEq, Nat.reduceEqDiff, ↓reduceIte, Nat.reduceLT, Array.toList, Nat.reduceAdd, Nat.reduceMul, Int.reduceToNat, Int.reducePow, UInt8.reduceToNat])
      | (simp -dsimp (disch := first | assumption | omega) only [dec_t, dec_f])
      | (refine And.intro ?_ ?_
         · first | omega | decide | (simp (disch := omega) only [wkW, Int.reduceToNat, Int.reducePow] <;> omega) | (simp <;> omega))
      | (simp (disch := omega) only [wkW, Int.reduceToNat, Int.reducePow])
      | fail
    exact Meet.mk [(8, .sl 0 0 (size a) true), (9, .str (lettersOf false)), (1, .int .i64 (b : Int))] ⟨1, [(0, .ints .u64 (trim a))], [], [(0, 27)]⟩ (Sub.norm ⟨rfl, rfl, rfl, trivial⟩ ⟨rfl, trivial⟩ (Nat.le_refl _) rfl rfl rfl rfl (tyOk_spec rfl)) ⟨rfl, rfl⟩
  rintro F H ⟨rfl, rfl⟩
  repeat' first
    | (with_reducible first | refine PW.seq ?_ | refine PW.block ?_ | refine PW.fork ?_ | refine PW.skip ?_ | refine PW.exit ?_ | refine PW.ret ?_ | refine PW.scope ?_ | refine PW.label ?_ | refine PW.goto ?_)
    | (with_reducible refine PW.region ttOk ?_ ?_
       · rfl)
    | (with_reducible refine PW.regionD ttOk mixed ?_ ?_ ?_
       · rfl
       · rfl)
    | (with_reducible refine ifW_dec (fun g => ?_) (fun g => ?_) <;> first | (exfalso; omega) | (simp -dsimp only [g, wkI]))
    | (with_reducible refine condE_dec (fun g => ?_) (fun g => ?_) <;> try (exfalso; omega))
    | (with_reducible refine condE_not (fun g => ?_) (fun g => ?_) <;> try (exfalso; omega))
    | (simp -dsimp only [↓wkA, ↓wkE, ↓wkJ, wkB, ↓tt, Nat.reduceBEq, Nat.reduceEqDiff, ↓reduceIte, Nat.reduceLT, Array.toList, Nat.reduceAdd, Nat.reduceMul, Int.reduceToNat, Int.reducePow, UInt8.reduceToNat])
    | (refine call_by hchunk (views_data rfl) ⟨trivial, trivial⟩ rfl ?_)
    | (simp -dsimp (disch := first | assumption | omega) only [dec_t, dec_f])
    | (refine And.intro ?_ ?_
       · first | omega | decide | (simp (disch := omega) only [wkW, Int.reduceToNat, Int.reducePow] <;> omega) | (simp <;> omega))
    | (simp (disch := omega) only [wkW, Int.reduceToNat, Int.reducePow])
    | fail
  obtain ⟨ℓ, hℓ⟩ : ∃ ℓ, lettersOf u = ℓ := ⟨_, rfl⟩
  have hℓl : ℓ.length = 36 := by rw [← hℓ]; exact lettersOf_len u
  have hℓb : ∀ x ∈ ℓ, 0 ≤ x ∧ x < 256 := by rw [← hℓ]; exact lettersOf_byte u
  have hval : vt (trim a) (size a) = val a := by
    rw [← vt_size a]; exact vt_same _ fun j hj => by simp [trim, List.getD_eq_getElem?_getD, List.getElem?_take, hj]
  have hlim := limbs_take ha (size a)
  have hV := vt_bound hlim (size a)
  rw [show List.take (size a) a = trim a from rfl, hval] at hV
  have hVlt : (val a).toNat < 2 ^ 262144 := by
    have h3 := pow_mono64 h1
    have e : B64 ^ 4096 = ((2 ^ 262144 : Nat) : Int) := by
      rw [show (262144 : Nat) = 64 * 4096 from rfl, Nat.pow_mul, Int.natCast_pow]; rfl
    omega
  obtain ⟨R, hR⟩ : ∃ R, (digs b (val a).toNat).map (fun d => ℓ.getD d 0) = R := ⟨_, rfl⟩
  have hRl : R.length ≤ 262144 := by
    rw [← hR, List.length_map]; exact digs_len hb.1 _ _ hVlt
  have hRb : ∀ x ∈ R, 0 ≤ x ∧ x < 256 := by
    intro x hx
    rw [← hR] at hx
    obtain ⟨d, hd, rfl⟩ := List.mem_map.1 hx
    have := digs_lt hb.1 _ d hd
    rw [List.getD_eq_getElem?_getD, List.getElem?_eq_getElem (by omega)]
    exact hℓb _ (List.getElem_mem _)
  have hp2 : 2 ≤ b ^ k := Nat.le_trans hb.1 (by simpa using Nat.pow_le_pow_right (show 0 < b by omega) hk1)
  refine PW.meetB (fun F H => F = [(12, .sl 1 0 R.length true)] ∧ H = ⟨2, [(1, .ints .u8 R)], [], []⟩) ?_ ?_
  · refine PW.loopA (IOut b k ℓ R (size a)) (val a).toNat (ifO b k ℓ (size a) 0) (ihO (trim a) []) (Sub.trans (Sub.nilVar 12 5 .u8 rfl) (Sub.norm ⟨rfl, congrArg PV.str hℓ, rfl, rfl, rfl, rfl, trivial⟩ ⟨rfl, rfl, trivial⟩ (Nat.le_refl _) rfl rfl rfl rfl)) ⟨size a, trim a, [], htl, Nat.le_refl _, hlim, fun _ => ?_, ?_, by rw [hval], rfl, rfl⟩ ?_
    · have := sizeN_top a a.length h2
      simp only [trim, List.getD_eq_getElem?_getD, List.getElem?_take] at this ⊢
      rw [if_pos (by omega)]; exact this
    · rw [hval]; exact hR
    rintro m F H ⟨n, t, rev, htl', hn, htL, htop, hrev, hm, rfl, rfl⟩
    by_cases h0 : n = 0
    · subst h0
      have hv0 : vt t 0 = 0 := rfl
      rw [hv0] at hrev
      simp only [Int.toNat_zero, digs_zero, List.map_nil, List.append_nil] at hrev
      subst hrev
      repeat' first
        | (with_reducible first | refine PW.seq ?_ | refine PW.block ?_ | refine PW.fork ?_ | refine PW.skip ?_ | refine PW.exit ?_ | refine PW.ret ?_ | refine PW.scope ?_ | refine PW.label ?_ | refine PW.goto ?_)
        | (with_reducible refine PW.region ttOk ?_ ?_
           · rfl)
        | (with_reducible refine PW.regionD ttOk mixed ?_ ?_ ?_
           · rfl
           · rfl)
        | (with_reducible refine ifW_dec (fun g => ?_) (fun g => ?_) <;> first | (exfalso; omega) | (simp -dsimp only [g, wkI]))
        | (with_reducible refine condE_dec (fun g => ?_) (fun g => ?_) <;> try (exfalso; omega))
        | (with_reducible refine condE_not (fun g => ?_) (fun g => ?_) <;> try (exfalso; omega))
        | (simp -dsimp only [↓wkA, ↓wkE, ↓wkJ, wkB, ↓tt, Nat.reduceBEq, Nat.reduceEqDiff, ↓reduceIte, Nat.reduceLT, Array.toList, Nat.reduceAdd, Nat.reduceMul, Int.reduceToNat, Int.reducePow, UInt8.reduceToNat])
        | (simp -dsimp (disch := first | assumption | omega) only [dec_t, dec_f])
        | (refine And.intro ?_ ?_
           · first | omega | decide | (simp (disch := omega) only [wkW, Int.reduceToNat, Int.reducePow] <;> omega) | (simp <;> omega))
        | (simp (disch := omega) only [wkW, Int.reduceToNat, Int.reducePow])
        | fail
      exact Meet.mk [(12, .sl 1 0 rev.length true)] ⟨2, [(1, .ints .u8 rev)], [], []⟩ (Sub.norm ⟨rfl, trivial⟩ ⟨rfl, trivial⟩ (Nat.le_refl _) rfl rfl rfl rfl) ⟨rfl, rfl⟩
    have hVn := vt_bound htL n
    have htn : 0 < vt t n := by
      obtain ⟨n', rfl⟩ : ∃ n', n = n' + 1 := ⟨n - 1, by omega⟩
      have h1 := htop h0
      have h2 := getD_limb htL n'
      rw [show n' + 1 - 1 = n' by omega] at h1
      have h3 := vt_bound htL n'
      have h4 : 0 < B64 ^ n' * t.getD n' 0 := Int.mul_pos (pow_pos64 n') (by omega)
      simp only [vt]; omega
    have hp0 : (0 : Int) < ((b ^ k : Nat) : Int) ∧ ((b ^ k : Nat) : Int) < B64 := by simp only [B64]; omega
    repeat' first
      | (with_reducible first | refine PW.seq ?_ | refine PW.block ?_ | refine PW.fork ?_ | refine PW.skip ?_ | refine PW.exit ?_ | refine PW.ret ?_ | refine PW.scope ?_ | refine PW.label ?_ | refine PW.goto ?_)
      | (with_reducible refine PW.region ttOk ?_ ?_
         · rfl)
      | (with_reducible refine PW.regionD ttOk mixed ?_ ?_ ?_
         · rfl
         · rfl)
      | (with_reducible refine ifW_dec (fun g => ?_) (fun g => ?_) <;> first | (exfalso; omega) | (simp -dsimp only [g, wkI]))
      | (with_reducible refine condE_dec (fun g => ?_) (fun g => ?_) <;> try (exfalso; omega))
      | (with_reducible refine condE_not (fun g => ?_) (fun g => ?_) <;> try (exfalso; omega))
      | (simp -dsimp only [↓wkA, ↓wkE, ↓wkJ, wkB, ↓tt, Nat.reduceBEq, Nat.reduceEqDiff, ↓reduceIte, Nat.reduceLT, Array.toList, Nat.reduceAdd, Nat.reduceMul, Int.reduceToNat, Int.reducePow, UInt8.reduceToNat])
      | (simp -dsimp (disch := first | assumption | omega) only [dec_t, dec_f])
      | (refine And.intro ?_ ?_
         · first | omega | decide | (simp (disch := omega) only [wkW, Int.reduceToNat, Int.reducePow] <;> omega) | (simp <;> omega))
      | (simp (disch := omega) only [wkW, Int.reduceToNat, Int.reducePow])
      | fail
    -- division of the limbs
    refine PW.meetB (fun F H => ∃ t', t'.length = size a ∧ Limbs t' ∧ vt t' n = vt t n / ((b ^ k : Nat) : Int) ∧ F = (13, .int .u64 (vt t n % ((b ^ k : Nat) : Int))) :: ifO b k ℓ n rev.length ∧ H = ihO t' rev) ?_ ?_
    · refine PW.loopA (IDiv b k ℓ t rev n (size a)) n ((14, .int .i64 ((n : Int) - 1)) :: (13, .int .u64 0) :: ifO b k ℓ n rev.length) (ihO t rev) (Sub.norm ⟨?_, rfl, rfl, rfl, rfl, rfl, rfl, rfl, trivial⟩ ⟨rfl, rfl, trivial⟩ (Nat.le_refl _) rfl rfl rfl rfl) ⟨t, 0, htl', DivI.start htL hp0.1, Nat.le_refl _, rfl, rfl⟩ ?_
      · simp (disch := omega) only [↓wkA, ↓wkE, ↓wkJ, wkB, ↓tt, Nat.reduceBEq, Nat.reduceEqDiff, ↓reduceIte, Nat.reduceLT, Array.toList, Nat.reduceAdd, Nat.reduceMul, Int.reduceToNat, Int.reducePow, UInt8.reduceToNat, wkW, Int.reduceToNat, Int.reducePow]
      rintro i F H ⟨t', rest, ht', hdiv, hin, rfl, rfl⟩
      have hrst := hdiv.rst
      cases i with
      | zero =>
        obtain ⟨f1, f2⟩ := hdiv.fin
        repeat' first
          | (with_reducible first | refine PW.seq ?_ | refine PW.block ?_ | refine PW.fork ?_ | refine PW.skip ?_ | refine PW.exit ?_ | refine PW.ret ?_ | refine PW.scope ?_ | refine PW.label ?_ | refine PW.goto ?_)
          | (with_reducible refine PW.region ttOk ?_ ?_
             · rfl)
          | (with_reducible refine PW.regionD ttOk mixed ?_ ?_ ?_
             · rfl
             · rfl)
          | (with_reducible refine ifW_dec (fun g => ?_) (fun g => ?_) <;> first | (exfalso; omega) | (simp -dsimp only [g, wkI]))
          | (with_reducible refine condE_dec (fun g => ?_) (fun g => ?_) <;> try (exfalso; omega))
          | (with_reducible refine condE_not (fun g => ?_) (fun g => ?_) <;> try (exfalso; omega))
          | (simp -dsimp only [↓wkA, ↓wkE, ↓wkJ, wkB, ↓tt, Nat.reduceBEq, Nat.reduceEqDiff, ↓reduceIte, Nat.reduceLT, Array.toList, Nat.reduceAdd, Nat.reduceMul, Int.reduceToNat, Int.reducePow, UInt8.reduceToNat])
          | (simp -dsimp (disch := first | assumption | omega) only [dec_t, dec_f])
          | (refine And.intro ?_ ?_
             · first | omega | decide | (simp (disch := omega) only [wkW, Int.reduceToNat, Int.reducePow] <;> omega) | (simp <;> omega))
          | (simp (disch := omega) only [wkW, Int.reduceToNat, Int.reducePow])
          | fail
        exact Meet.mk ((13, .int .u64 (vt t n % ((b ^ k : Nat) : Int))) :: ifO b k ℓ n rev.length) (ihO t' rev) (Sub.norm ⟨congrArg (PV.int .u64) f2, rfl, rfl, rfl, rfl, rfl, rfl, trivial⟩ ⟨rfl, rfl, trivial⟩ (Nat.le_refl _) rfl rfl rfl rfl) ⟨t', ht', hdiv.lim, f1, rfl, rfl⟩
      | succ j =>
        have e : (((j + 1 : Nat)) : Int) - 1 = (j : Int) := by omega
        rw [e]
        have hx := getD_limb hdiv.lim j
        have hdv := div64 rest (t'.getD j 0) ((b ^ k : Nat) : Int) hp0 (by omega) hx
        have hstep := hdiv.step (by omega) (by omega) hp0
        simp only [B64] at hdv hp0 hx
        repeat' first
          | (with_reducible first | refine PW.seq ?_ | refine PW.block ?_ | refine PW.fork ?_ | refine PW.skip ?_ | refine PW.exit ?_ | refine PW.ret ?_ | refine PW.scope ?_ | refine PW.label ?_ | refine PW.goto ?_)
          | (with_reducible refine PW.region ttOk ?_ ?_
             · rfl)
          | (with_reducible refine PW.regionD ttOk mixed ?_ ?_ ?_
             · rfl
             · rfl)
          | (with_reducible refine ifW_dec (fun g => ?_) (fun g => ?_) <;> first | (exfalso; omega) | (simp -dsimp only [g, wkI]))
          | (with_reducible refine condE_dec (fun g => ?_) (fun g => ?_) <;> try (exfalso; omega))
          | (with_reducible refine condE_not (fun g => ?_) (fun g => ?_) <;> try (exfalso; omega))
          | (simp -dsimp only [↓wkA, ↓wkE, ↓wkJ, wkB, ↓tt, Nat.reduceBEq, Nat.reduceEqDiff, ↓reduceIte, Nat.reduceLT, Array.toList, Nat.reduceAdd, Nat.reduceMul, Int.reduceToNat, Int.reducePow, UInt8.reduceToNat])
          | (refine call_by hdv (views_data rfl) ⟨trivial, trivial, trivial, trivial⟩ rfl ?_)
          | (simp -dsimp (disch := first | assumption | omega) only [dec_t, dec_f])
          | (refine And.intro ?_ ?_
             · first | omega | decide | (simp (disch := omega) only [wkW, Int.reduceToNat, Int.reducePow] <;> omega) | (simp <;> omega))
          | (simp (disch := omega) only [wkW, Int.reduceToNat, Int.reducePow])
          | fail
        exact Again.mk j ((14, .int .i64 ((j : Int) - 1)) :: (13, .int .u64 ((rest * B64 + t'.getD j 0) % ((b ^ k : Nat) : Int))) :: ifO b k ℓ n rev.length) (ihO (t'.set j ((rest * B64 + t'.getD j 0) / ((b ^ k : Nat) : Int))) rev) (by omega) (Sub.norm ⟨rfl, rfl, rfl, rfl, rfl, rfl, rfl, rfl, trivial⟩ ⟨rfl, rfl, trivial⟩ (Nat.le_refl _) rfl rfl rfl rfl) ⟨_, _, by rw [List.length_set]; exact ht', hstep, by omega, rfl, rfl⟩
    rintro F H ⟨t', ht', htL', hvt', rfl, rfl⟩
    -- the high zeros
    obtain ⟨T, hT⟩ : ∃ T, vt t n / ((b ^ k : Nat) : Int) = T := ⟨_, rfl⟩
    obtain ⟨rest, hrest⟩ : ∃ r, vt t n % ((b ^ k : Nat) : Int) = r := ⟨_, rfl⟩
    have hdm := Int.emod_add_mul_ediv (vt t n) ((b ^ k : Nat) : Int)
    have hr0 := Int.emod_nonneg (vt t n) (show ((b ^ k : Nat) : Int) ≠ 0 by omega)
    have hr1 := Int.emod_lt_of_pos (vt t n) hp0.1
    have hT0 : 0 ≤ T := by rw [← hT]; exact Int.ediv_nonneg (by omega) (by omega)
    rw [hrest] at hdm hr0 hr1
    rw [hT] at hdm hvt'
    simp only [hrest]
    repeat' first
      | (with_reducible first | refine PW.seq ?_ | refine PW.block ?_ | refine PW.fork ?_ | refine PW.skip ?_ | refine PW.exit ?_ | refine PW.ret ?_ | refine PW.scope ?_ | refine PW.label ?_ | refine PW.goto ?_)
      | (with_reducible refine PW.region ttOk ?_ ?_
         · rfl)
      | (with_reducible refine PW.regionD ttOk mixed ?_ ?_ ?_
         · rfl
         · rfl)
      | (with_reducible refine ifW_dec (fun g => ?_) (fun g => ?_) <;> first | (exfalso; omega) | (simp -dsimp only [g, wkI]))
      | (with_reducible refine condE_dec (fun g => ?_) (fun g => ?_) <;> try (exfalso; omega))
      | (with_reducible refine condE_not (fun g => ?_) (fun g => ?_) <;> try (exfalso; omega))
      | (simp -dsimp only [↓wkA, ↓wkE, ↓wkJ, wkB, ↓tt, Nat.reduceBEq, Nat.reduceEqDiff, ↓reduceIte, Nat.reduceLT, Array.toList, Nat.reduceAdd, Nat.reduceMul, Int.reduceToNat, Int.reducePow, UInt8.reduceToNat])
      | (simp -dsimp (disch := first | assumption | omega) only [dec_t, dec_f])
      | (refine And.intro ?_ ?_
         · first | omega | decide | (simp (disch := omega) only [wkW, Int.reduceToNat, Int.reducePow] <;> omega) | (simp <;> omega))
      | (simp (disch := omega) only [wkW, Int.reduceToNat, Int.reducePow])
      | fail
    refine PW.meetB (fun F H => ∃ n', n' ≤ n ∧ vt t' n' = T ∧ (n' ≠ 0 → t'.getD (n' - 1) 0 ≠ 0) ∧ F = (13, .int .u64 rest) :: ifO b k ℓ n' rev.length ∧ H = ihO t' rev) ?_ ?_
    · refine PW.loopA (ITrim b k ℓ t' rev n T rest) n ((13, .int .u64 rest) :: ifO b k ℓ n rev.length) (ihO t' rev) (Sub.refl _ _ _ _) ⟨Nat.le_refl _, hvt', rfl, rfl⟩ ?_
      rintro i F H ⟨hin, hvi, rfl, rfl⟩
      cases i with
      | zero =>
        repeat' first
          | (with_reducible first | refine PW.seq ?_ | refine PW.block ?_ | refine PW.fork ?_ | refine PW.skip ?_ | refine PW.exit ?_ | refine PW.ret ?_ | refine PW.scope ?_ | refine PW.label ?_ | refine PW.goto ?_)
          | (with_reducible refine PW.region ttOk ?_ ?_
             · rfl)
          | (with_reducible refine PW.regionD ttOk mixed ?_ ?_ ?_
             · rfl
             · rfl)
          | (with_reducible refine ifW_dec (fun g => ?_) (fun g => ?_) <;> first | (exfalso; omega) | (simp -dsimp only [g, wkI]))
          | (with_reducible refine condE_dec (fun g => ?_) (fun g => ?_) <;> try (exfalso; omega))
          | (with_reducible refine condE_not (fun g => ?_) (fun g => ?_) <;> try (exfalso; omega))
          | (simp -dsimp only [↓wkA, ↓wkE, ↓wkJ, wkB, ↓tt, Nat.reduceBEq, Nat.reduceEqDiff, ↓reduceIte, Nat.reduceLT, Array.toList, Nat.reduceAdd, Nat.reduceMul, Int.reduceToNat, Int.reducePow, UInt8.reduceToNat])
          | (simp -dsimp (disch := first | assumption | omega) only [dec_t, dec_f])
          | (refine And.intro ?_ ?_
             · first | omega | decide | (simp (disch := omega) only [wkW, Int.reduceToNat, Int.reducePow] <;> omega) | (simp <;> omega))
          | (simp (disch := omega) only [wkW, Int.reduceToNat, Int.reducePow])
          | fail
        exact Meet.mk ((13, .int .u64 rest) :: ifO b k ℓ 0 rev.length) (ihO t' rev) (Sub.norm ⟨rfl, rfl, rfl, rfl, rfl, rfl, rfl, trivial⟩ ⟨rfl, rfl, trivial⟩ (Nat.le_refl _) rfl rfl rfl rfl) ⟨0, by omega, hvi, by simp, rfl, rfl⟩
      | succ j =>
        have e1 : (((j + 1 : Nat)) : Int) - 1 = (j : Int) := by omega
        have e2 : ((j : Int) - 0).toNat = j := by omega
        repeat' first
          | (simp (disch := omega) only [e1, e2, Int.toNat_natCast, wkW, Int.reduceToNat, Int.reducePow])
          | (with_reducible first | refine PW.seq ?_ | refine PW.block ?_ | refine PW.fork ?_ | refine PW.skip ?_ | refine PW.exit ?_ | refine PW.ret ?_ | refine PW.scope ?_ | refine PW.label ?_ | refine PW.goto ?_)
          | (with_reducible refine PW.region ttOk ?_ ?_
             · rfl)
          | (with_reducible refine PW.regionD ttOk mixed ?_ ?_ ?_
             · rfl
             · rfl)
          | (with_reducible refine ifW_dec (fun g => ?_) (fun g => ?_) <;> first | (exfalso; omega) | (simp -dsimp only [g, wkI]))
          | (with_reducible refine condE_dec (fun g => ?_) (fun g => ?_) <;> try (exfalso; omega))
          | (with_reducible refine condE_not (fun g => ?_) (fun g => ?_) <;> try (exfalso; omega))
          | (simp -dsimp only [↓wkA, ↓wkE, ↓wkJ, wkB, ↓tt, Nat.reduceBEq, Nat.reduceEqDiff, ↓reduceIte, Nat.reduceLT, Array.toList, Nat.reduceAdd, Nat.reduceMul, Int.reduceToNat, Int.reducePow, UInt8.reduceToNat])
          | (simp -dsimp (disch := first | assumption | omega) only [dec_t, dec_f])
          | (refine And.intro ?_ ?_
             · first | omega | decide | (simp (disch := omega) only [wkW, Int.reduceToNat, Int.reducePow] <;> omega) | (simp <;> omega))
          | (simp (disch := omega) only [wkW, Int.reduceToNat, Int.reducePow])
          | fail
        · have hvj : vt t' j = T := by rw [← hvi]; simp only [vt]; rw [show t'.getD j 0 = 0 by assumption]; simp
          exact Again.mk j ((13, .int .u64 rest) :: ifO b k ℓ j rev.length) (ihO t' rev) (by omega) (Sub.norm ⟨rfl, rfl, rfl, rfl, rfl, rfl, rfl, trivial⟩ ⟨rfl, rfl, trivial⟩ (Nat.le_refl _) rfl rfl rfl rfl) ⟨by omega, hvj, rfl, rfl⟩
        · exact Meet.mk ((13, .int .u64 rest) :: ifO b k ℓ (j + 1) rev.length) (ihO t' rev) (Sub.norm ⟨rfl, rfl, rfl, rfl, rfl, rfl, rfl, trivial⟩ ⟨rfl, rfl, trivial⟩ (Nat.le_refl _) rfl rfl rfl rfl) ⟨j + 1, by omega, hvi, fun _ => by assumption, rfl, rfl⟩
    rintro F H ⟨n', hn', hvn', htop', rfl, rfl⟩
    -- the digits of this chunk
    obtain ⟨τ, rfl⟩ := Int.eq_ofNat_of_zero_le hT0
    obtain ⟨ρ, rfl⟩ := Int.eq_ofNat_of_zero_le hr0
    have hτ : n' ≠ 0 → τ ≠ 0 := by
      intro h0' hτ0
      obtain ⟨n2, rfl⟩ : ∃ n2, n' = n2 + 1 := ⟨n' - 1, by omega⟩
      have h1 := htop' h0'
      have h2 := getD_limb htL' n2
      rw [show n2 + 1 - 1 = n2 by omega] at h1
      have h3 := vt_bound htL' n2
      have h4 : 0 < B64 ^ n2 * t'.getD n2 0 := Int.mul_pos (pow_pos64 n2) (by omega)
      simp only [vt] at hvn'
      omega
    have hVe : (vt t n).toNat = ρ + b ^ k * τ := by
      have : vt t n = ((ρ + b ^ k * τ : Nat) : Int) := by rw [← hdm]; simp
      rw [this, Int.toNat_natCast]
    have hlt : τ < (vt t n).toNat := by
      rw [hVe]
      have : 2 * τ ≤ b ^ k * τ := Nat.mul_le_mul_right _ hp2
      have : 0 < ρ + b ^ k * τ := by omega
      rcases Nat.eq_zero_or_pos τ with h | h
      · subst h; omega
      · omega
    rw [hVe] at hrev
    have hb64 : IntKind.wrap .u64 (b : Int) = (b : Int) := wrap_u64 (by omega)
    repeat' first
      | (with_reducible first | refine PW.seq ?_ | refine PW.block ?_ | refine PW.fork ?_ | refine PW.skip ?_ | refine PW.exit ?_ | refine PW.ret ?_ | refine PW.scope ?_ | refine PW.label ?_ | refine PW.goto ?_)
      | (with_reducible refine PW.region ttOk ?_ ?_
         · rfl)
      | (with_reducible refine PW.regionD ttOk mixed ?_ ?_ ?_
         · rfl
         · rfl)
      | (with_reducible refine ifW_dec (fun g => ?_) (fun g => ?_) <;> first | (exfalso; omega) | (simp -dsimp only [g, wkI]))
      | (with_reducible refine condE_dec (fun g => ?_) (fun g => ?_) <;> try (exfalso; omega))
      | (with_reducible refine condE_not (fun g => ?_) (fun g => ?_) <;> try (exfalso; omega))
      | (simp -dsimp only [↓wkA, ↓wkE, ↓wkJ, wkB, ↓tt, Nat.reduceBEq, Nat.reduceEqDiff, ↓reduceIte, Nat.reduceLT, Array.toList, Nat.reduceAdd, Nat.reduceMul, Int.reduceToNat, Int.reducePow, UInt8.reduceToNat])
      | (simp -dsimp (disch := first | assumption | omega) only [dec_t, dec_f])
      | (refine And.intro ?_ ?_
         · first | omega | decide | (simp (disch := omega) only [wkW, Int.reduceToNat, Int.reducePow] <;> omega) | (simp <;> omega))
      | (simp (disch := omega) only [wkW, Int.reduceToNat, Int.reducePow])
      | fail
    · refine PW.loopA (IDig b k ℓ R t' n' τ) k ((15, .int .i64 ((0 : Nat) : Int)) :: (13, .int .u64 ((ρ : Nat) : Int)) :: ifO b k ℓ n' rev.length) (ihO t' rev) (Sub.norm ⟨rfl, rfl, rfl, rfl, rfl, rfl, rfl, rfl, trivial⟩ ⟨rfl, rfl, trivial⟩ (Nat.le_refl _) rfl rfl rfl rfl) ⟨0, ρ, rev, by omega, by omega, hrev, rfl, rfl⟩ ?_
      rintro i F H ⟨j, r, rv, hji, hri, hrv, rfl, rfl⟩
      have hrvl : rv.length ≤ 262144 := by
        have := congrArg List.length hrv
        rw [List.length_append] at this
        omega
      cases i with
      | zero =>
        have hr00 : r = 0 := by simpa using hri
        subst hr00
        repeat' first
          | (with_reducible first | refine PW.seq ?_ | refine PW.block ?_ | refine PW.fork ?_ | refine PW.skip ?_ | refine PW.exit ?_ | refine PW.ret ?_ | refine PW.scope ?_ | refine PW.label ?_ | refine PW.goto ?_)
          | (with_reducible refine PW.region ttOk ?_ ?_
             · rfl)
          | (with_reducible refine PW.regionD ttOk mixed ?_ ?_ ?_
             · rfl
             · rfl)
          | (with_reducible refine ifW_dec (fun g => ?_) (fun g => ?_) <;> first | (exfalso; omega) | (simp -dsimp only [g, wkI]))
          | (with_reducible refine condE_dec (fun g => ?_) (fun g => ?_) <;> try (exfalso; omega))
          | (with_reducible refine condE_not (fun g => ?_) (fun g => ?_) <;> try (exfalso; omega))
          | (simp -dsimp only [↓wkA, ↓wkE, ↓wkJ, wkB, ↓tt, Nat.reduceBEq, Nat.reduceEqDiff, ↓reduceIte, Nat.reduceLT, Array.toList, Nat.reduceAdd, Nat.reduceMul, Int.reduceToNat, Int.reducePow, UInt8.reduceToNat])
          | (simp -dsimp (disch := first | assumption | omega) only [dec_t, dec_f])
          | (refine And.intro ?_ ?_
             · first | omega | decide | (simp (disch := omega) only [wkW, Int.reduceToNat, Int.reducePow] <;> omega) | (simp <;> omega))
          | (simp (disch := omega) only [wkW, Int.reduceToNat, Int.reducePow])
          | fail
        exact Again.mk τ (ifO b k ℓ n' rv.length) (ihO t' rv) (by omega) (Sub.norm ⟨rfl, rfl, rfl, rfl, rfl, rfl, trivial⟩ ⟨rfl, rfl, trivial⟩ (Nat.le_refl _) rfl rfl rfl rfl) ⟨n', t', rv, ht', by omega, htL', htop', by rw [hvn']; simpa using hrv, by rw [hvn']; rfl, rfl, rfl⟩
      | succ i =>
        have hmod : ((r : Nat) : Int).tmod (b : Int) = ((r % b : Nat) : Int) := by
          rw [tmod_pos (by omega)]; exact (Int.natCast_emod r b).symm
        have hdiv : ((r : Nat) : Int).tdiv (b : Int) = ((r / b : Nat) : Int) := by
          rw [tdiv_pos (by omega)]; exact (Int.natCast_ediv r b).symm
        have hmb : r % b < 36 := Nat.lt_of_lt_of_le (Nat.mod_lt _ (by omega)) hb.2
        have hdl : r / b ≤ r := Nat.div_le_self r b
        have hr64 : r < 18446744073709551616 := by
          refine Nat.lt_trans (Nat.lt_of_lt_of_le hri ?_) hk3
          exact Nat.pow_le_pow_right (by omega) (by omega)
        have hw0 : ∀ q : Nat, q ≤ r → IntKind.wrap .u64 (q : Int) = (q : Int) := fun q hq => wrap_u64 (by omega)
        have hw := hw0 (r / b) hdl
        by_cases hbr : r = 0 ∧ n' = 0
        · obtain ⟨rfl, rfl⟩ := hbr
          have hτ0 : τ = 0 := by
            have : ((τ : Nat) : Int) = 0 := hvn'.symm.trans rfl
            omega
          subst hτ0
          repeat' first
            | (simp only [hb64, hmod, hdiv, hw])
            | (with_reducible first | refine PW.seq ?_ | refine PW.block ?_ | refine PW.fork ?_ | refine PW.skip ?_ | refine PW.exit ?_ | refine PW.ret ?_ | refine PW.scope ?_ | refine PW.label ?_ | refine PW.goto ?_)
            | (with_reducible refine PW.region ttOk ?_ ?_
               · rfl)
            | (with_reducible refine PW.regionD ttOk mixed ?_ ?_ ?_
               · rfl
               · rfl)
            | (with_reducible refine ifW_dec (fun g => ?_) (fun g => ?_) <;> first | (exfalso; omega) | (simp -dsimp only [g, wkI]))
            | (with_reducible refine condE_dec (fun g => ?_) (fun g => ?_) <;> try (exfalso; omega))
            | (with_reducible refine condE_not (fun g => ?_) (fun g => ?_) <;> try (exfalso; omega))
            | (simp -dsimp only [↓wkA, ↓wkE, ↓wkJ, wkB, ↓tt, Nat.reduceBEq, Nat.reduceEqDiff, ↓reduceIte, Nat.reduceLT, Array.toList, Nat.reduceAdd, Nat.reduceMul, Int.reduceToNat, Int.reducePow, UInt8.reduceToNat])
            | (simp -dsimp (disch := first | assumption | omega) only [dec_t, dec_f])
            | (refine And.intro ?_ ?_
               · first | omega | decide | (simp (disch := omega) only [wkW, Int.reduceToNat, Int.reducePow] <;> omega) | (simp <;> omega))
            | (simp (disch := omega) only [wkW, Int.reduceToNat, Int.reducePow])
            | fail
          exact Again.mk 0 (ifO b k ℓ 0 rv.length) (ihO t' rv) (by omega) (Sub.norm ⟨rfl, rfl, rfl, rfl, rfl, rfl, trivial⟩ ⟨rfl, rfl, trivial⟩ (Nat.le_refl _) rfl rfl rfl rfl) ⟨0, t', rv, ht', by omega, htL', htop', by rw [hvn']; simpa using hrv, by rw [hvn']; rfl, rfl, rfl⟩
        · have hne : r ≠ 0 ∨ τ ≠ 0 := by
            rcases Nat.eq_zero_or_pos r with h | h
            · right; exact hτ (fun h' => hbr ⟨h, h'⟩)
            · left; omega
          rw [digs_part hb.1 hne, List.map_cons] at hrv
          have hnext : (rv ++ [ℓ.getD (r % b) 0]) ++ (digs b (r / b + b ^ i * τ)).map (fun d => ℓ.getD d 0) = R := by rw [← hrv]; simp
          have hri' : r / b < b ^ i := by
            rw [Nat.pow_succ, Nat.mul_comm] at hri
            exact Nat.div_lt_of_lt_mul hri
          repeat' first
            | (simp only [hb64, hmod, hdiv, hw, Int.toNat_natCast])
            | (with_reducible first | refine PW.seq ?_ | refine PW.block ?_ | refine PW.fork ?_ | refine PW.skip ?_ | refine PW.exit ?_ | refine PW.ret ?_ | refine PW.scope ?_ | refine PW.label ?_ | refine PW.goto ?_)
            | (with_reducible refine PW.region ttOk ?_ ?_
               · rfl)
            | (with_reducible refine PW.regionD ttOk mixed ?_ ?_ ?_
               · rfl
               · rfl)
            | (with_reducible refine ifW_dec (fun g => ?_) (fun g => ?_) <;> first | (exfalso; omega) | (simp -dsimp only [g, wkI]))
            | (with_reducible refine condE_dec (fun g => ?_) (fun g => ?_) <;> try (exfalso; omega))
            | (with_reducible refine condE_not (fun g => ?_) (fun g => ?_) <;> try (exfalso; omega))
            | (simp -dsimp only [↓wkA, ↓wkE, ↓wkJ, wkB, ↓tt, Nat.reduceBEq, Nat.reduceEqDiff, ↓reduceIte, Nat.reduceLT, Array.toList, Nat.reduceAdd, Nat.reduceMul, Int.reduceToNat, Int.reducePow, UInt8.reduceToNat])
            | (simp -dsimp (disch := first | assumption | omega) only [dec_t, dec_f])
            | (refine And.intro ?_ ?_
               · first | omega | decide | (simp (disch := omega) only [wkW, Int.reduceToNat, Int.reducePow] <;> omega) | (simp <;> omega))
            | (simp (disch := omega) only [wkW, Int.reduceToNat, Int.reducePow])
            | fail
          · obtain rfl : r = 0 := by omega
            simp only [Int.zero_ediv, Int.zero_emod, Int.toNat_zero, show IntKind.wrap .u64 0 = 0 from rfl]
            simp only [Nat.zero_mod, Nat.zero_div] at hnext hri'
            refine Again.mk i ((15, .int .i64 ((j + 1 : Nat) : Int)) :: (13, .int .u64 ((0 : Nat) : Int)) :: ifO b k ℓ n' (rv ++ [ℓ.getD 0 0]).length) (ihO t' (rv ++ [ℓ.getD 0 0])) (by omega) (Sub.norm ⟨rfl, rfl, rfl, rfl, rfl, rfl, rfl, ?_, trivial⟩ ⟨rfl, rfl, trivial⟩ (by simp) rfl rfl rfl rfl) ⟨j + 1, 0, rv ++ [ℓ.getD 0 0], by omega, hri', hnext, rfl, rfl⟩
            simp -dsimp only [↓wkA, ↓wkE, ↓wkJ, wkB, ↓tt, Nat.reduceBEq, Nat.reduceEqDiff, ↓reduceIte, Nat.reduceLT, Array.toList, Nat.reduceAdd, Nat.reduceMul, Int.reduceToNat, Int.reducePow, UInt8.reduceToNat]
          · refine Again.mk i ((15, .int .i64 ((j + 1 : Nat) : Int)) :: (13, .int .u64 ((r / b : Nat) : Int)) :: ifO b k ℓ n' (rv ++ [ℓ.getD (r % b) 0]).length) (ihO t' (rv ++ [ℓ.getD (r % b) 0])) (by omega) (Sub.norm ⟨rfl, rfl, rfl, rfl, rfl, rfl, rfl, ?_, trivial⟩ ⟨rfl, rfl, trivial⟩ (by simp) rfl rfl rfl rfl) ⟨j + 1, r / b, rv ++ [ℓ.getD (r % b) 0], by omega, hri', hnext, rfl, rfl⟩
            simp -dsimp only [↓wkA, ↓wkE, ↓wkJ, wkB, ↓tt, Nat.reduceBEq, Nat.reduceEqDiff, ↓reduceIte, Nat.reduceLT, Array.toList, Nat.reduceAdd, Nat.reduceMul, Int.reduceToNat, Int.reducePow, UInt8.reduceToNat]
  · rintro F H ⟨rfl, rfl⟩
    have hR0 : R ≠ [] := by
      intro h
      rw [h] at hR
      have h3 : (val a).toNat ≠ 0 := by
        obtain ⟨n, hn⟩ : ∃ n, size a = n + 1 := ⟨size a - 1, by omega⟩
        have h4 := sizeN_top a a.length h2
        have h5 : a.getD n 0 ≠ 0 := by
          have : size a - 1 = n := by omega
          rw [← this]; exact h4
        have h6 := getD_limb ha n
        have h7 := vt_bound ha n
        have h8 : 0 < B64 ^ n * a.getD n 0 := Int.mul_pos (pow_pos64 n) (by omega)
        have h9 := vt_size a
        rw [hn] at h9
        simp only [vt] at h9
        omega
      rw [digs_step hb.1 h3] at hR
      cases hR
    repeat' first
      | (with_reducible first | refine PW.seq ?_ | refine PW.block ?_ | refine PW.fork ?_ | refine PW.skip ?_ | refine PW.exit ?_ | refine PW.ret ?_ | refine PW.scope ?_ | refine PW.label ?_ | refine PW.goto ?_)
      | (with_reducible refine PW.region ttOk ?_ ?_
         · rfl)
      | (with_reducible refine PW.regionD ttOk mixed ?_ ?_ ?_
         · rfl
         · rfl)
      | (with_reducible refine ifW_dec (fun g => ?_) (fun g => ?_) <;> first | (exfalso; omega) | (simp -dsimp only [g, wkI]))
      | (with_reducible refine condE_dec (fun g => ?_) (fun g => ?_) <;> try (exfalso; omega))
      | (with_reducible refine condE_not (fun g => ?_) (fun g => ?_) <;> try (exfalso; omega))
      | (simp -dsimp only [↓wkA, ↓wkE, ↓wkJ, wkB, ↓tt, Nat.reduceBEq, Nat.reduceEqDiff, ↓reduceIte, Nat.reduceLT, Array.toList, Nat.reduceAdd, Nat.reduceMul, Int.reduceToNat, Int.reducePow, UInt8.reduceToNat])
      | (simp -dsimp (disch := first | assumption | omega) only [dec_t, dec_f])
      | (refine And.intro ?_ ?_
         · first | omega | decide | (simp (disch := omega) only [wkW, Int.reduceToNat, Int.reducePow] <;> omega) | (simp <;> omega))
      | (simp (disch := omega) only [wkW, Int.reduceToNat, Int.reducePow])
      | fail
    refine PW.meetB (fun F H => ∃ p, F = [(16, .ptr 2 0 0)] ∧ H = ⟨4, [(2, .var [p, .sl 3 0 R.reverse.length true]), (3, .ints .u8 R.reverse)], [], [(3, 5), (2, 177)]⟩) ?_ ?_
    · refine PW.loopA (IBuild R) R.length [(17, .int .i64 ((R.length : Int) - 1)), (16, .ptr 2 0 0), (12, .sl 1 0 R.length true)] (ihB R .nilptr []) (Sub.trans (Sub.nilField 2 [.nilptr, .nil] 1 5 .u8 rfl rfl (by decide) (by show 2 < 3; omega)) (Sub.norm ⟨?_, rfl, rfl, trivial⟩ ⟨rfl, rfl, rfl, trivial⟩ (Nat.le_refl _) rfl rfl rfl rfl (tyOk_spec rfl))) ⟨.nilptr, Nat.le_refl _, .inl rfl, rfl, by rw [List.drop_length]; rfl⟩ ?_
      · simp (disch := omega) only [↓wkA, ↓wkE, ↓wkJ, wkB, ↓tt, Nat.reduceBEq, Nat.reduceEqDiff, ↓reduceIte, Nat.reduceLT, Array.toList, Nat.reduceAdd, Nat.reduceMul, Int.reduceToNat, Int.reducePow, UInt8.reduceToNat, wkW, Int.reduceToNat, Int.reducePow]
      rintro i F H ⟨p, hin, hp, rfl, rfl⟩
      cases i with
      | zero =>
        simp only [List.drop_zero]
        repeat' first
          | (with_reducible first | refine PW.seq ?_ | refine PW.block ?_ | refine PW.fork ?_ | refine PW.skip ?_ | refine PW.exit ?_ | refine PW.ret ?_ | refine PW.scope ?_ | refine PW.label ?_ | refine PW.goto ?_)
          | (with_reducible refine PW.region ttOk ?_ ?_
             · rfl)
          | (with_reducible refine PW.regionD ttOk mixed ?_ ?_ ?_
             · rfl
             · rfl)
          | (with_reducible refine ifW_dec (fun g => ?_) (fun g => ?_) <;> first | (exfalso; omega) | (simp -dsimp only [g, wkI]))
          | (with_reducible refine condE_dec (fun g => ?_) (fun g => ?_) <;> try (exfalso; omega))
          | (with_reducible refine condE_not (fun g => ?_) (fun g => ?_) <;> try (exfalso; omega))
          | (simp -dsimp only [↓wkA, ↓wkE, ↓wkJ, wkB, ↓tt, Nat.reduceBEq, Nat.reduceEqDiff, ↓reduceIte, Nat.reduceLT, Array.toList, Nat.reduceAdd, Nat.reduceMul, Int.reduceToNat, Int.reducePow, UInt8.reduceToNat])
          | (simp -dsimp (disch := first | assumption | omega) only [dec_t, dec_f])
          | (refine And.intro ?_ ?_
             · first | omega | decide | (simp (disch := omega) only [wkW, Int.reduceToNat, Int.reducePow] <;> omega) | (simp <;> omega))
          | (simp (disch := omega) only [wkW, Int.reduceToNat, Int.reducePow])
          | fail
        refine Meet.mk [(16, .ptr 2 0 0)] ⟨4, [(2, .var [p, .sl 3 0 R.reverse.length true]), (3, .ints .u8 R.reverse)], [], [(3, 5), (2, 177)]⟩ (Sub.norm ⟨rfl, trivial⟩ ⟨rfl, rfl, trivial⟩ (Nat.le_refl _) rfl rfl rfl ?_ (tyOk_spec rfl)) ⟨p, rfl, rfl⟩
        rcases hp with rfl | rfl <;> rfl
      | succ i =>
        have e : (((i + 1 : Nat)) : Int) - 1 = (i : Int) := by omega
        rw [e]
        simp only [ihB]
        have hlen : (R.drop (i + 1)).reverse.length ≤ 100000000000000 := by simp; omega
        have hnext : (R.drop (i + 1)).reverse ++ [R.getD i 0] = (R.drop i).reverse := by
          rw [List.drop_eq_getElem_cons (show i < R.length by omega), List.reverse_cons, List.getD_eq_getElem?_getD, List.getElem?_eq_getElem (by omega)]; rfl
        have hll : (R.drop (i + 1)).reverse.length + 1 = (R.drop i).reverse.length := by rw [← hnext]; simp
        repeat' first
          | (with_reducible first | refine PW.seq ?_ | refine PW.block ?_ | refine PW.fork ?_ | refine PW.skip ?_ | refine PW.exit ?_ | refine PW.ret ?_ | refine PW.scope ?_ | refine PW.label ?_ | refine PW.goto ?_)
          | (with_reducible refine PW.region ttOk ?_ ?_
             · rfl)
          | (with_reducible refine PW.regionD ttOk mixed ?_ ?_ ?_
             · rfl
             · rfl)
          | (with_reducible refine ifW_dec (fun g => ?_) (fun g => ?_) <;> first | (exfalso; omega) | (simp -dsimp only [g, wkI]))
          | (with_reducible refine condE_dec (fun g => ?_) (fun g => ?_) <;> try (exfalso; omega))
          | (with_reducible refine condE_not (fun g => ?_) (fun g => ?_) <;> try (exfalso; omega))
          | (simp -dsimp only [↓wkA, ↓wkE, ↓wkJ, wkB, ↓tt, Nat.reduceBEq, Nat.reduceEqDiff, ↓reduceIte, Nat.reduceLT, Array.toList, Nat.reduceAdd, Nat.reduceMul, Int.reduceToNat, Int.reducePow, UInt8.reduceToNat])
          | (refine call_h (builder_WriteByte _ (r := 2) (r2 := 3) (by decide) (Nat.lt_of_lt_of_le (by decide : 2 < 4) (Nat.le_refl _)) (Nat.lt_of_lt_of_le (by decide : 3 < 4) (Nat.le_refl _)) rfl rfl hp rfl rfl hlen) (fun res H' hR' => ?_); obtain ⟨rfl, rfl⟩ := hR'; refine ⟨_, _, rfl, ?_⟩)
          | (simp -dsimp only [hnext, hll])
          | (simp -dsimp (disch := first | assumption | omega) only [dec_t, dec_f])
          | (refine And.intro ?_ ?_
             · first | omega | decide | (simp (disch := omega) only [wkW, Int.reduceToNat, Int.reducePow] <;> omega) | (simp <;> omega))
          | (simp (disch := omega) only [wkW, Int.reduceToNat, Int.reducePow])
          | fail
        exact Again.mk i [(17, .int .i64 ((i : Int) - 1)), (16, .ptr 2 0 0), (12, .sl 1 0 R.length true)] (ihB R (.ptr 2 0 0) (R.drop i).reverse) (by omega) (Sub.norm ⟨rfl, rfl, rfl, trivial⟩ ⟨rfl, rfl, rfl, trivial⟩ (by show 4 ≤ 5; omega) rfl rfl rfl rfl (tyOk_spec rfl)) ⟨_, by omega, .inr rfl, rfl, rfl⟩
    rintro F H ⟨p, rfl, rfl⟩
    repeat' first
      | (with_reducible first | refine PW.seq ?_ | refine PW.block ?_ | refine PW.fork ?_ | refine PW.skip ?_ | refine PW.exit ?_ | refine PW.ret ?_ | refine PW.scope ?_ | refine PW.label ?_ | refine PW.goto ?_)
      | (with_reducible refine PW.region ttOk ?_ ?_
         · rfl)
      | (with_reducible refine PW.regionD ttOk mixed ?_ ?_ ?_
         · rfl
         · rfl)
      | (with_reducible refine ifW_dec (fun g => ?_) (fun g => ?_) <;> first | (exfalso; omega) | (simp -dsimp only [g, wkI]))
      | (with_reducible refine condE_dec (fun g => ?_) (fun g => ?_) <;> try (exfalso; omega))
      | (with_reducible refine condE_not (fun g => ?_) (fun g => ?_) <;> try (exfalso; omega))
      | (simp -dsimp only [↓wkA, ↓wkE, ↓wkJ, wkB, ↓tt, Nat.reduceBEq, Nat.reduceEqDiff, ↓reduceIte, Nat.reduceLT, Array.toList, Nat.reduceAdd, Nat.reduceMul, Int.reduceToNat, Int.reducePow, UInt8.reduceToNat])
      | (refine call_h (builder_String (H := ⟨_, _, _, _⟩) (r := 2) (r2 := 3) (by decide) rfl rfl rfl rfl (by simpa using hR0) (fun x hx => hRb x (List.mem_reverse.1 hx)) (by simp; omega)) (fun res H' hR' => ?_); obtain ⟨rfl, rfl⟩ := hR'; refine ⟨_, _, rfl, ?_⟩)
      | (simp -dsimp (disch := first | assumption | omega) only [dec_t, dec_f])
      | (refine And.intro ?_ ?_
         · first | omega | decide | (simp (disch := omega) only [wkW, Int.reduceToNat, Int.reducePow] <;> omega) | (simp <;> omega))
      | (simp (disch := omega) only [wkW, Int.reduceToNat, Int.reducePow])
      | fail
    rw [text, hℓ, hR]

theorem in_base (a : List Int) (ha : Limbs a) (hla : a.length ≤ 17592186043904) (base : Int) (hb : -9223372036854775808 ≤ base ∧ base ≤ 9223372036854775807) (u : Bool) :
    Meets Tryz.prog 129 [.ints .u64 a, .int .i64 base, .bool u] (inBaseR a base u) := by
  by_cases h : 4096 < size a ∨ (base < 2 ∨ 36 < base) ∨ size a = 0
  · exact in_base_err a hla base hb u h
  · have h' := in_base_main a ha hla base.toNat (by omega) u (by omega) (by omega)
    rw [show ((base.toNat : Nat) : Int) = base by omega] at h'
    unfold inBaseR
    rw [if_neg (by omega), if_neg (by omega), if_neg (by omega)]
    exact h'
end Go.Proofs.YtbmhnjghpjkjpaaGreatDoor
set_option maxHeartbeats 4000000
set_option maxRecDepth 4000
set_option exponentiation.threshold 300000
set_option linter.unusedVariables false
set_option linter.unusedSimpArgs false
namespace Go.Proofs.YtbmhnjghpjkjpaaGreatDoor
open Go Go.PV

def letter (u : Bool) (d : Nat) : Int := (lettersOf u).getD d 0
theorem letter_all : ∀ u : Bool, ∀ d : Fin 36, worth (letter u d.val) = (d.val : Int) ∧ (letter u d.val = 48 → d.val = 0) ∧ 0 ≤ letter u d.val ∧ letter u d.val < 256 ∧ (u = true → ¬ (97 ≤ letter u d.val ∧ letter u d.val ≤ 122)) ∧ (u = false → ¬ (65 ≤ letter u d.val ∧ letter u d.val ≤ 90)) := by decide

theorem text_nil (b : Nat) (u : Bool) : text b u 0 = [] := by simp [text, digs_zero]
theorem text_step {b : Nat} (hb : 2 ≤ b) (u : Bool) {v : Nat} (hv : v ≠ 0) : text b u v = text b u (v / b) ++ [letter u (v % b)] := by
  unfold text letter
  rw [digs_step hb hv, List.map_cons, List.reverse_cons]

theorem num_text {b : Nat} (hb : 2 ≤ b ∧ b ≤ 36) (u : Bool) : ∀ v, num b (text b u v) = v := by
  intro v
  induction v using Nat.strongRecOn with
  | _ v ih =>
    by_cases h0 : v = 0
    · subst h0; rw [text_nil]; rfl
    · have hm := Nat.mod_lt v (show b > 0 by omega)
      have hl := (letter_all u ⟨v % b, by omega⟩).1
      simp only at hl
      rw [text_step hb.1 u h0, num_append, ih _ (Nat.div_lt_self (by omega) (by omega)), hl, Int.toNat_natCast]
      exact Nat.div_add_mod' v b

theorem text_ne {b : Nat} (hb : 2 ≤ b) (u : Bool) {v : Nat} (hv : v ≠ 0) : text b u v ≠ [] := by
  rw [text_step hb u hv]; simp

theorem text_head {b : Nat} (hb : 2 ≤ b ∧ b ≤ 36) (u : Bool) : ∀ v, v ≠ 0 → (text b u v).getD 0 0 ≠ 48 := by
  intro v
  induction v using Nat.strongRecOn with
  | _ v ih =>
    intro h0
    have hm := Nat.mod_lt v (show b > 0 by omega)
    rw [text_step hb.1 u h0]
    by_cases h1 : v / b = 0
    · rw [h1, text_nil]
      have hl := (letter_all u ⟨v % b, by omega⟩).2.1
      simp only at hl
      intro h
      have h2 := hl (by simpa using h)
      have := Nat.div_add_mod v b
      rw [h1, h2] at this
      simp at this; omega
    · have h2 := ih _ (Nat.div_lt_self (by omega) (by omega)) h1
      have h3 := text_ne hb.1 u h1
      cases hc : text b u (v / b) with
      | nil => exact absurd hc h3
      | cons x l => rw [hc] at h2; simpa using h2

theorem text_all {b : Nat} (hb : 2 ≤ b ∧ b ≤ 36) (u : Bool) (v : Nat) : ∀ x ∈ text b u v, ∃ d : Nat, d < b ∧ x = letter u d := by
  intro x hx
  unfold text at hx
  rw [List.mem_reverse] at hx
  obtain ⟨d, hd, rfl⟩ := List.mem_map.1 hx
  exact ⟨d, digs_lt hb.1 _ d hd, rfl⟩

def written (b : Nat) (u : Bool) (v : Nat) : List Int := if v = 0 then [48] else text b u v

theorem written_num {b : Nat} (hb : 2 ≤ b ∧ b ≤ 36) (u : Bool) (v : Nat) : num b (written b u v) = v := by
  unfold written
  split
  · rename_i h; rw [h]; exact num_zero b
  · exact num_text hb u v

theorem written_ne {b : Nat} (hb : 2 ≤ b ∧ b ≤ 36) (u : Bool) (v : Nat) : written b u v ≠ [] := by
  unfold written
  split
  · simp
  · exact text_ne hb.1 u (by assumption)

theorem val_nonneg {a : List Int} (ha : Limbs a) : 0 ≤ val a := (vt_bound ha a.length).1

set_option exponentiation.threshold 300000 in
theorem pow4096 : B64 ^ 4096 = ((2 ^ 262144 : Nat) : Int) := by
  rw [show (262144 : Nat) = 64 * 4096 from rfl, Nat.pow_mul, Int.natCast_pow]; rfl

theorem in_base_ok {a : List Int} (ha : Limbs a) (hla : a.length ≤ 17592186043904) {b : Nat} (hb : 2 ≤ b ∧ b ≤ 36) (u : Bool) (h : size a ≤ 4096) : Meets Tryz.prog 129 [.ints .u64 a, .int .i64 (b : Int), .bool u] (.tup [.str (written b u (val a).toNat), .int .i64 0]) := by
  have h1 := in_base a ha hla (b : Int) (by omega) u
  unfold inBaseR at h1
  rw [if_neg (by omega), if_neg (by omega)] at h1
  unfold written
  by_cases h0 : size a = 0
  · rw [if_pos h0] at h1
    rw [if_pos (by rw [(size_zero ha).1 h0]; rfl)]
    exact h1
  · rw [if_neg h0] at h1
    have := val_nonneg ha
    rw [if_neg (fun h => h0 ((size_zero ha).2 (by omega)))]
    rw [Int.toNat_natCast] at h1
    exact h1

end Go.Proofs.YtbmhnjghpjkjpaaGreatDoor
set_option maxHeartbeats 4000000
set_option maxRecDepth 4000
set_option exponentiation.threshold 300000
set_option linter.unusedVariables false
set_option linter.unusedSimpArgs false
namespace Go.Proofs.YtbmhnjghpjkjpaaGreatDoor
open Go Go.PV

set_option exponentiation.threshold 300000 in
theorem natL_len {v : Nat} (h : ((v : Nat) : Int) < B64 ^ 4096) : (natL v).length ≤ 262144 := by
  unfold natL
  rw [List.length_map]
  refine digs_len (by decide) 262144 v ?_
  rw [pow4096] at h
  omega

theorem forth_in {b : Nat} (hb : 2 ≤ b ∧ b ≤ 36) {v : Nat} (h : ((v : Nat) : Int) < B64 ^ 4096) : Meets Tryz.prog 129 [.ints .u64 (natL v), .int .i64 (b : Int), .bool false] (.tup [.str (written b false v), .int .i64 0]) := by
  have := in_base_ok (natL_limbs v) (by have := natL_len h; omega) hb false (natL_size h)
  rwa [val_natL, Int.toNat_natCast] at this

end Go.Proofs.YtbmhnjghpjkjpaaGreatDoor
set_option maxHeartbeats 4000000
set_option maxRecDepth 4000
set_option exponentiation.threshold 300000
set_option linter.unusedVariables false
set_option linter.unusedSimpArgs false
namespace Go.Proofs.YtbmhnjghpjkjpaaGreatDoor
open Go Go.PV

theorem digits_of (a s : List Int) (e : Int) (h : Meets Tryz.prog 129 [.ints .u64 a, .int .i64 10, .bool false] (.tup [.str s, .int .i64 e])) : Meets Tryz.prog 74 [.ints .u64 a] (.tup [.str s, .int .i64 e]) := by
  refine meets_by ttOk Tryz.func74 Tryz.ntmps74 Tryz.results74 (by kernel_rfl) (c := _) rfl rfl rfl fun E => ?_
  simp only [argsFrame]
  repeat' first
    | (with_reducible first | refine PW.seq ?_ | refine PW.block ?_ | refine PW.fork ?_ | refine PW.skip ?_ | refine PW.exit ?_ | refine PW.ret ?_ | refine PW.scope ?_ | refine PW.label ?_ | refine PW.goto ?_)
    | (with_reducible refine PW.region ttOk ?_ ?_
       · rfl)
    | (with_reducible refine PW.regionD ttOk mixed ?_ ?_ ?_
       · rfl
       · rfl)
    | (with_reducible refine ifW_dec (fun g => ?_) (fun g => ?_) <;> first | (exfalso; omega) | (simp -dsimp only [g, wkI]))
    | (with_reducible refine condE_dec (fun g => ?_) (fun g => ?_) <;> try (exfalso; omega))
    | (with_reducible refine condE_not (fun g => ?_) (fun g => ?_) <;> try (exfalso; omega))
    | (simp -dsimp only [↓wkA, ↓wkE, ↓wkJ, wkB, ↓tt, Nat.reduceBEq, Nat.reduceEqDiff, ↓reduceIte, Nat.reduceLT, Array.toList, Nat.reduceAdd, Nat.reduceMul, Int.reduceToNat, Int.reducePow, UInt8.reduceToNat])
    | (refine call_by h (views_data rfl) ⟨trivial, trivial, trivial, trivial⟩ rfl ?_)
    | (simp -dsimp (disch := first | assumption | omega) only [dec_t, dec_f])
    | (refine And.intro ?_ ?_
       · first | omega | decide | (simp (disch := omega) only [wkW, Int.reduceToNat, Int.reducePow] <;> omega) | (simp <;> omega))
    | (simp (disch := omega) only [wkW, Int.reduceToNat, Int.reducePow])
    | fail

end Go.Proofs.YtbmhnjghpjkjpaaGreatDoor
set_option maxHeartbeats 4000000
set_option maxRecDepth 4000
set_option exponentiation.threshold 300000
set_option linter.unusedVariables false
set_option linter.unusedSimpArgs false
namespace Go.Proofs.YtbmhnjghpjkjpaaGreatDoor
open Go Go.PV

theorem worth_dec {c : Int} : worth c < 10 ↔ 48 ≤ c ∧ c ≤ 57 := by
  unfold worth
  repeat' split
  all_goals omega

theorem text_digs {v : Nat} : Digs (text 10 false v) := fun x hx => by
  obtain ⟨d, hd, rfl⟩ := text_all (by decide) false v x hx
  have h := (letter_all false ⟨d, by omega⟩).1
  simp only at h
  have := worth_dec (c := letter false d)
  omega
end Go.Proofs.YtbmhnjghpjkjpaaGreatDoor
set_option maxHeartbeats 4000000
set_option maxRecDepth 4000
set_option exponentiation.threshold 300000
set_option linter.unusedVariables false
set_option linter.unusedSimpArgs false
namespace Go.Proofs.YtbmhnjghpjkjpaaGreatDoor
open Go Go.PV

section
variable {p : Int → Bool} {s : List Int} {i : Nat}
theorem run_eq (hp : p 0 = false) {k : Nat} (hik : i ≤ k) (h1 : ∀ j, i ≤ j → j < k → p (s.getD j 0) = true) (h2 : p (s.getD k 0) = false) : runE p s i = k := by
  obtain ⟨g1, g2⟩ := run_spec hp s i
  have := run_ge p s i
  rcases Nat.lt_trichotomy (runE p s i) k with h | h | h
  · rw [h1 _ this h] at g2; cases g2
  · exact h
  · rw [g1 _ hik h] at h2; cases h2
end

theorem dend_eq {s : List Int} {i k : Nat} (hik : i ≤ k) (h1 : ∀ j, i ≤ j → j < k → isDig (s.getD j 0)) (h2 : ¬ isDig (s.getD k 0)) : dend s i = k :=
  run_eq digB0 hik (fun j hj hk => decide_eq_true (h1 j hj hk)) (decide_eq_false h2)
end Go.Proofs.YtbmhnjghpjkjpaaGreatDoor
set_option maxHeartbeats 4000000
set_option maxRecDepth 4000
set_option exponentiation.threshold 300000
set_option linter.unusedVariables false
set_option linter.unusedSimpArgs false
namespace Go.Proofs.YtbmhnjghpjkjpaaGreatDoor
open Go Go.PV

theorem law10_awake (res : PV) (hres : res = .bool true) : Meets Tryz.prog 24 [] res := by
  subst hres
  have h1 : Meets Tryz.prog 16 [.str [32, 48, 46, 49, 120]] (.tup [.int .u64 4591870180066957722, .int .i64 4]) := parse_at _ 4591870180066957722 4 (by decide) (by decide +kernel) (by decide +kernel) (by decide +kernel)
  have hn : NormOk [49, 50] (-1) := ⟨by decide, ⟨by decide, by decide⟩, fun j hj => by
    match j, hj with
    | 0, _ => decide
    | 1, _ => decide
    | j + 2, h => simp at h; omega, by decide +kernel⟩
  have e1 : rdec (num 10 [49, 50]) (-1) = 4608083138725491507 := by decide +kernel
  have h2 : Meets Tryz.prog 20 [.agg [.bool true, .str [49, 50], .int .i64 (-1)]] (.tup [.int .u64 13831455175580267315, .int .i64 0]) := by
    have := strtod_exact true hn (by decide)
    unfold dblV at this
    rw [e1] at this
    exact this
  have h3 : Meets Tryz.prog 21 [.agg [.bool false, .str [49, 50], .int .i64 (-1)]] (.tup [.int .u64 4608083138725491507, .int .i64 0]) := by
    have := strtod_double false hn (by decide)
    unfold dblV at this
    rw [e1] at this
    exact this
  have h4 := road_x
  have h5 := road_12
  refine meets_by ttOk Tryz.func24 Tryz.ntmps24 Tryz.results24 (by kernel_rfl) (c := _) rfl rfl rfl fun E => ?_
  simp only [argsFrame]
  repeat' first
    | (with_reducible first | refine PW.seq ?_ | refine PW.block ?_ | refine PW.fork ?_ | refine PW.skip ?_ | refine PW.exit ?_ | refine PW.ret ?_ | refine PW.scope ?_ | refine PW.label ?_ | refine PW.goto ?_)
    | (with_reducible refine PW.region ttOk ?_ ?_
       · rfl)
    | (with_reducible refine PW.regionD ttOk mixed ?_ ?_ ?_
       · rfl
       · rfl)
    | (with_reducible refine ifW_dec (fun g => ?_) (fun g => ?_) <;> first | (exfalso; omega) | (simp -dsimp only [g, wkI]))
    | (with_reducible refine condE_dec (fun g => ?_) (fun g => ?_) <;> try (exfalso; omega))
    | (with_reducible refine condE_not (fun g => ?_) (fun g => ?_) <;> try (exfalso; omega))
    | (simp -dsimp only [↓wkA, ↓wkE, ↓wkJ, wkB, ↓tt, Nat.reduceBEq, Nat.reduceEqDiff, ↓reduceIte, Nat.reduceLT, Array.toList, Nat.reduceAdd, Nat.reduceMul, Int.reduceToNat, Int.reducePow, UInt8.reduceToNat])
    | (refine call_by (h1) (views_data rfl) ⟨trivial, trivial⟩ rfl ?_)
    | (refine call_by (h2) (views_data rfl) (by simp only [okViews, okView, okViews0, okView0, and_self]) rfl ?_)
    | (refine call_by (h3) (views_data rfl) (by simp only [okViews, okView, okViews0, okView0, and_self]) rfl ?_)
    | (refine call_by (h4) (views_data rfl) ⟨trivial, trivial⟩ rfl ?_)
    | (refine call_by (h5) (views_data rfl) ⟨trivial, trivial⟩ rfl ?_)
    | (simp -dsimp (disch := first | assumption | omega) only [dec_t, dec_f])
    | (refine And.intro ?_ ?_
       · first | omega | decide | (simp (disch := omega) only [wkW, Int.reduceToNat, Int.reducePow] <;> omega) | (simp <;> omega))
    | (simp (disch := omega) only [wkW, Int.reduceToNat, Int.reducePow])
    | fail

end Go.Proofs.YtbmhnjghpjkjpaaGreatDoor
set_option maxHeartbeats 4000000
set_option maxRecDepth 4000
set_option exponentiation.threshold 300000
set_option linter.unusedVariables false
set_option linter.unusedSimpArgs false
namespace Go.Proofs.YtbmhnjghpjkjpaaGreatDoor
open Go Go.PV

-- a text behind another
section
variable {p s : List Int}
theorem getD_behind (j : Nat) : (p ++ s).getD (p.length + j) 0 = s.getD j 0 := by
  rw [List.getD_eq_getElem?_getD, List.getD_eq_getElem?_getD, List.getElem?_append_right (by omega)]
  congr 2
  omega
theorem drop_behind (j : Nat) : (p ++ s).drop (p.length + j) = s.drop j := by
  rw [List.drop_append, List.drop_eq_nil_of_le (by omega), List.nil_append]
  congr 1
  omega
theorem range_behind (k i : Nat) : ((p ++ s).take (p.length + k)).drop (p.length + i) = (s.take k).drop i := by
  rw [List.take_append, List.take_of_length_le (by omega), show p.length + k - p.length = k by omega, drop_behind]
theorem run_behind (q : Int → Bool) (i : Nat) : runE q (p ++ s) (p.length + i) = p.length + runE q s i := by
  unfold runE
  rw [drop_behind]
  omega
theorem dend_behind (i : Nat) : dend (p ++ s) (p.length + i) = p.length + dend s i := run_behind _ _
theorem sgn_behind (i : Nat) : sgn (p ++ s) (p.length + i) = p.length + sgn s i := by
  unfold sgn
  rw [getD_behind]
  split <;> omega
theorem pnt_behind (i : Nat) : pnt (p ++ s) (p.length + i) ↔ pnt s i := by
  unfold pnt
  rw [dend_behind, getD_behind, show p.length + dend s i + 1 = p.length + (dend s i + 1) by omega, getD_behind]
  exact ⟨fun h => ⟨h.1, h.2.imp (fun h => by omega) id⟩, fun h => ⟨h.1, h.2.imp (fun h => by omega) id⟩⟩
theorem mend_behind (i : Nat) : mend (p ++ s) (p.length + i) = p.length + mend s i := by
  unfold mend
  by_cases h : pnt s i
  · rw [if_pos h, if_pos ((pnt_behind i).2 h), dend_behind, show p.length + dend s i + 1 = p.length + (dend s i + 1) by omega, dend_behind]
  · rw [if_neg h, if_neg (fun g => h ((pnt_behind i).1 g)), dend_behind]
theorem mdigs_behind (i : Nat) : mdigs (p ++ s) (p.length + i) = mdigs s i := by
  unfold mdigs
  rw [mend_behind, dend_behind, show p.length + dend s i + 1 = p.length + (dend s i + 1) by omega, range_behind, range_behind]
  by_cases h : pnt s i
  · rw [if_pos h, if_pos ((pnt_behind i).2 h)]
  · rw [if_neg h, if_neg (fun g => h ((pnt_behind i).1 g))]
theorem mplaces_behind (i : Nat) : mplaces (p ++ s) (p.length + i) = mplaces s i := by
  unfold mplaces
  rw [dend_behind, show p.length + dend s i + 1 = p.length + (dend s i + 1) by omega, dend_behind]
  by_cases h : pnt s i
  · rw [if_pos h, if_pos ((pnt_behind i).2 h)]
    omega
  · rw [if_neg h, if_neg (fun g => h ((pnt_behind i).1 g))]
theorem expo_behind (k : Nat) : expo (p ++ s) (p.length + k) ↔ expo s k := by
  unfold expo
  rw [getD_behind, show p.length + k + 1 = p.length + (k + 1) by omega, sgn_behind, getD_behind]
theorem eend_behind (k : Nat) : eend (p ++ s) (p.length + k) = p.length + eend s k := by
  unfold eend
  rw [show p.length + k + 1 = p.length + (k + 1) by omega, sgn_behind, dend_behind]
  by_cases h : expo s k
  · rw [if_pos h, if_pos ((expo_behind k).2 h)]
  · rw [if_neg h, if_neg (fun g => h ((expo_behind k).1 g))]
theorem eval_behind (k : Nat) : eval (p ++ s) (p.length + k) = eval s k := by
  unfold eval capN
  rw [show p.length + k + 1 = p.length + (k + 1) by omega, sgn_behind, eend_behind, getD_behind, range_behind]
  by_cases h : expo s k
  · rw [if_pos h, if_pos ((expo_behind k).2 h)]
  · rw [if_neg h, if_neg (fun g => h ((expo_behind k).1 g))]
end
structure Same (s u : List Int) (m : Nat) : Prop where
  f : nuF u = m + nuF s
  ok : nuOk u ↔ nuOk s
  d : nuD u = nuD s
  x : nuX u = nuX s
  e : nuE u = m + nuE s
theorem same_behind {p s : List Int} (h : nuF (p ++ s) = p.length + nuF s) : Same s (p ++ s) p.length := by
  refine ⟨h, ?_, ?_, ?_, ?_⟩
  · unfold nuOk
    rw [h, mend_behind]
    omega
  · unfold nuD
    rw [h, mdigs_behind]
  · unfold nuX
    rw [h, mend_behind, eval_behind, mplaces_behind]
  · unfold nuE
    rw [h, mend_behind, eend_behind]

end Go.Proofs.YtbmhnjghpjkjpaaGreatDoor
set_option maxHeartbeats 4000000
set_option maxRecDepth 4000
set_option exponentiation.threshold 300000
set_option linter.unusedVariables false
set_option linter.unusedSimpArgs false
namespace Go.Proofs.YtbmhnjghpjkjpaaGreatDoor
open Go Go.PV

theorem Same.v {s u : List Int} {m : Nat} (h : Same s u m) (hn : nuN u = nuN s) : nuV u = nuV s := by
  unfold nuV
  rw [h.d, h.x, hn]
theorem start_zero {s : List Int} (h1 : blB (s.getD 0 0) = false) (h2 : s.getD 0 0 ≠ 43) (h3 : s.getD 0 0 ≠ 45) : bend s 0 = 0 ∧ nuF s = 0 ∧ nuN s = false := by
  have hb : bend s 0 = 0 := run_stop h1
  refine ⟨hb, ?_, ?_⟩
  · unfold nuF sgn
    rw [hb, if_neg (by omega)]
  · unfold nuN
    rw [hb]
    exact decide_eq_false h3
theorem same_sign {s : List Int} {c : Int} (hc : c = 43 ∨ c = 45) (h1 : blB (s.getD 0 0) = false) (h2 : s.getD 0 0 ≠ 43) (h3 : s.getD 0 0 ≠ 45) : Same s (c :: s) 1 ∧ nuN (c :: s) = decide (c = 45) := by
  have hb : bend (c :: s) 0 = 0 := run_stop (by rcases hc with rfl | rfl <;> rfl)
  have hf : nuF ([c] ++ s) = ([c] : List Int).length + nuF s := by
    rw [(start_zero h1 h2 h3).2.1]
    unfold nuF
    show sgn (c :: s) (bend (c :: s) 0) = _
    rw [hb]
    exact if_pos hc
  refine ⟨same_behind hf, ?_⟩
  unfold nuN
  rw [hb]
  rfl
end Go.Proofs.YtbmhnjghpjkjpaaGreatDoor
set_option maxHeartbeats 4000000
set_option maxRecDepth 4000
set_option exponentiation.threshold 300000
set_option linter.unusedVariables false
set_option linter.unusedSimpArgs false
namespace Go.Proofs.YtbmhnjghpjkjpaaGreatDoor
open Go Go.PV

-- the literals that the laws write
theorem getD_ahead {a b : List Int} {i : Nat} (h : i < a.length) : (a ++ b).getD i 0 = a.getD i 0 := by
  rw [List.getD_eq_getElem?_getD, List.getD_eq_getElem?_getD, List.getElem?_append_left h]
theorem getD_at {a b : List Int} {c : Int} : (a ++ c :: b).getD a.length 0 = c := by
  rw [List.getD_eq_getElem?_getD, List.getElem?_append_right (Nat.le_refl _), Nat.sub_self]
  rfl
theorem getD_end {a : List Int} : a.getD a.length 0 = 0 := by
  rw [List.getD_eq_getElem?_getD, List.getElem?_eq_none (Nat.le_refl _)]
  rfl
theorem start_digit {s : List Int} (h : isDig (s.getD 0 0)) : bend s 0 = 0 ∧ nuF s = 0 ∧ nuN s = false := by
  have h1 := h.1
  have h2 := h.2
  refine start_zero ?_ (by omega) (by omega)
  unfold blB
  rw [decide_eq_false (by omega), decide_eq_false (show ¬ s.getD 0 0 ≤ 13 by omega), Bool.and_false]
  rfl
theorem lit_digits {a : List Int} (ha : AllD a) (hne : a ≠ []) : nuOk a ∧ nuN a = false ∧ nuD a = a ∧ nuX a = 0 ∧ nuE a = a.length := by
  have hp := List.length_pos_iff.2 hne
  obtain ⟨z1, z2, z3⟩ := start_digit (ha 0 hp)
  have e1 : dend a 0 = a.length := dend_eq (Nat.zero_le _) (fun j _ hj => ha j hj) (by rw [getD_end]; decide)
  have e2 : ¬ pnt a 0 := fun h => by have := h.1; rw [e1, getD_end] at this; exact absurd this (by decide)
  have e3 : mend a 0 = a.length := (if_neg e2).trans e1
  have e4 : ¬ expo a a.length := fun h => by have := h.1; rw [getD_end] at this; exact absurd this (by decide)
  refine ⟨?_, z3, ?_, ?_, ?_⟩
  · unfold nuOk
    rw [z2, e3]
    omega
  · unfold nuD mdigs
    rw [z2, if_neg e2, e1, List.take_length]
    rfl
  · unfold nuX mplaces eval
    rw [z2, e3, if_neg e2, if_neg e4]
    rfl
  · unfold nuE eend
    rw [z2, e3, if_neg e4]
theorem lit_exp {a b : List Int} (ha : AllD a) (hne : a ≠ []) (hb : AllD b) (hbn : b ≠ []) (hl : num 10 b ≤ 1000000000000000) : nuOk (a ++ 101 :: 45 :: b) ∧ nuN (a ++ 101 :: 45 :: b) = false ∧ nuD (a ++ 101 :: 45 :: b) = a ∧ nuX (a ++ 101 :: 45 :: b) = -(num 10 b : Int) ∧ nuE (a ++ 101 :: 45 :: b) = (a ++ 101 :: 45 :: b).length := by
  have hp := List.length_pos_iff.2 hne
  have hpb := List.length_pos_iff.2 hbn
  generalize hu : a ++ 101 :: 45 :: b = u
  have g1 : ∀ j, j < a.length → u.getD j 0 = a.getD j 0 := fun j hj => by rw [← hu]; exact getD_ahead hj
  have g2 : u.getD a.length 0 = 101 := by rw [← hu]; exact getD_at
  have hu2 : u = (a ++ [101, 45]) ++ b := by rw [← hu, List.append_assoc]; rfl
  have hm : (a ++ [101, 45]).length = a.length + 2 := by rw [List.length_append]; rfl
  have hul : u.length = a.length + 2 + b.length := by rw [hu2, List.length_append, hm]
  have g3 : u.getD (a.length + 1) 0 = 45 := by
    rw [← hu, show a ++ 101 :: 45 :: b = (a ++ [101]) ++ 45 :: b by rw [List.append_assoc]; rfl, show a.length + 1 = (a ++ [101]).length by rw [List.length_append]; rfl]
    exact getD_at
  have g4 : ∀ j, u.getD (a.length + 2 + j) 0 = b.getD j 0 := fun j => by rw [hu2, ← hm]; exact getD_behind j
  obtain ⟨z1, z2, z3⟩ := start_digit (s := u) (by rw [g1 0 hp]; exact ha 0 hp)
  have e1 : dend u 0 = a.length := dend_eq (Nat.zero_le _) (fun j _ hj => by rw [g1 j hj]; exact ha j hj) (by rw [g2]; decide)
  have e2 : ¬ pnt u 0 := fun h => by have := h.1; rw [e1, g2] at this; exact absurd this (by decide)
  have e3 : mend u 0 = a.length := (if_neg e2).trans e1
  have e5 : sgn u (a.length + 1) = a.length + 2 := if_pos (.inr g3)
  have e4 : expo u a.length := ⟨.inl g2, by rw [e5, g4 0]; exact hb 0 hpb⟩
  have e6 : dend u (a.length + 2) = u.length := by
    refine dend_eq (by omega) (fun j h1 h2 => ?_) (by rw [getD_end]; decide)
    have := g4 (j - (a.length + 2))
    rw [show a.length + 2 + (j - (a.length + 2)) = j by omega] at this
    rw [this]
    exact hb _ (by omega)
  have e7 : eend u a.length = u.length := by
    unfold eend
    rw [if_pos e4, e5, e6]
  refine ⟨?_, z3, ?_, ?_, ?_⟩
  · unfold nuOk
    rw [z2, e3]
    omega
  · unfold nuD mdigs
    rw [z2, if_neg e2, e1, ← hu, List.take_left]
    rfl
  · unfold nuX mplaces eval capN
    rw [z2, e3, if_neg e2, if_pos e4, if_pos g3, e5, e7, List.take_length, hu2, ← hm, List.drop_left, Nat.min_eq_left hl]
    omega
  · unfold nuE
    rw [z2, e3, e7]
theorem nuV_val {s a : List Int} {x : Int} (h1 : nuN s = false) (h2 : nuD s = a) (h3 : nuX s = x) : nuV s = rdec (num 10 a) x := by
  unfold nuV dblV
  rw [h1, h2, h3, signed_f]

theorem law_reads (s : List Int) (v e y : Int) (r : Bool) (h : Meets Tryz.prog 16 [.str s] (.tup [.int .u64 v, .int .i64 e])) (hr : (decide (v = y) && decide (e = (s.length : Int))) = r) : Meets Tryz.prog 38 [.str s, .int .u64 y] (.bool r) := by
  subst hr
  by_cases h1 : v = y
  case' pos => have d1 : decide (v = y) = true := decide_eq_true h1
  case' neg => have d1 : decide (v = y) = false := decide_eq_false h1
  all_goals rw [d1]
  all_goals (refine meets_by ttOk Tryz.func38 Tryz.ntmps38 Tryz.results38 (by kernel_rfl) (c := _) rfl rfl rfl fun E => ?_; simp only [argsFrame])
  all_goals
    repeat' first
      | (with_reducible first | refine PW.seq ?_ | refine PW.block ?_ | refine PW.fork ?_ | refine PW.skip ?_ | refine PW.exit ?_ | refine PW.ret ?_ | refine PW.scope ?_ | refine PW.label ?_ | refine PW.goto ?_)
      | (simp only [d1, Bool.true_and, Bool.false_and])
      | (with_reducible refine PW.region ttOk ?_ ?_
         · rfl)
      | (with_reducible refine PW.regionD ttOk mixed ?_ ?_ ?_
         · rfl
         · rfl)
      | (with_reducible refine ifW_dec (fun g => ?_) (fun g => ?_) <;> first | (exfalso; omega) | (simp -dsimp only [g, wkI]))
      | (with_reducible refine condE_dec (fun g => ?_) (fun g => ?_) <;> try (exfalso; omega))
      | (with_reducible refine condE_not (fun g => ?_) (fun g => ?_) <;> try (exfalso; omega))
      | (simp -dsimp only [↓wkA, ↓wkE, ↓wkJ, wkB, ↓tt, Nat.reduceBEq, Nat.reduceEqDiff, ↓reduceIte, Nat.reduceLT, Array.toList, Nat.reduceAdd, Nat.reduceMul, Int.reduceToNat, Int.reducePow, UInt8.reduceToNat])
      | (refine call_by (h) (views_data rfl) ⟨trivial, trivial⟩ rfl ?_)
      | (simp -dsimp (disch := first | assumption | omega) only [dec_t, dec_f])
      | (refine And.intro ?_ ?_
         · first | omega | decide | (simp (disch := omega) only [wkW, Int.reduceToNat, Int.reducePow] <;> omega) | (simp <;> omega))
      | (simp (disch := omega) only [wkW, Int.reduceToNat, Int.reducePow])
      | fail
end Go.Proofs.YtbmhnjghpjkjpaaGreatDoor
set_option maxHeartbeats 4000000
set_option maxRecDepth 4000
set_option exponentiation.threshold 300000
set_option linter.unusedVariables false
set_option linter.unusedSimpArgs false
namespace Go.Proofs.YtbmhnjghpjkjpaaGreatDoor
open Go Go.PV

-- the middles to both sides of a double
theorem pos_parts {A : Nat} (hA : A < infB) : absD A = A ∧ A = mantD A + (expD A + 1074).toNat * 4503599627370496 ∧ mantD A < 9007199254740992 ∧ -1074 ≤ expD A ∧ expD A ≤ 971 ∧ ((expD A + 1074).toNat = 0 ∨ 4503599627370496 ≤ mantD A) := by
  have hA' : A < 9218868437227405312 := hA
  have h0 : absD A = A := Nat.mod_eq_of_lt (by omega)
  have h1 := abs_parts A
  have h2 := frac_lt A
  rw [h0] at h1
  unfold mantD expD
  by_cases h : fieldD A = 0
  · rw [if_pos h, if_pos h]
    omega
  · rw [if_neg h, if_neg h]
    omega
theorem dv_self {A : Nat} (hA : A < infB) : dv A = mantD A * 2 ^ (expD A + 1074).toNat := by
  have h := dv_parts A
  rw [(pos_parts hA).1] at h
  exact h
theorem dv_next {A : Nat} (hA : A < infB) : dv (A + 1) = (mantD A + 1) * 2 ^ (expD A + 1074).toNat := by
  obtain ⟨_, h1, h2, _, _, h3⟩ := pos_parts hA
  have h := dv_at (m := mantD A + 1) (k := (expD A + 1074).toNat) (by omega) (by omega)
  rw [show mantD A + 1 + (expD A + 1074).toNat * 4503599627370496 = A + 1 by omega] at h
  exact h
end Go.Proofs.YtbmhnjghpjkjpaaGreatDoor
set_option maxHeartbeats 4000000
set_option maxRecDepth 4000
set_option exponentiation.threshold 300000
set_option linter.unusedVariables false
set_option linter.unusedSimpArgs false
namespace Go.Proofs.YtbmhnjghpjkjpaaGreatDoor
open Go Go.PV

theorem text_walk (m : List Int) (k nk : Int) (p five : List Int) (a b : List Int) (hk : IntKind.wrap .i64 (0 - k) = nk) (hk2 : k < 0 → IntKind.wrap .u64 nk = nk)
    (h : (0 ≤ k ∧ Meets Tryz.prog 39 [.ints .u64 m, .int .i64 k] (.tup [.ints .u64 p, .int .i64 0]) ∧ Meets Tryz.prog 74 [.ints .u64 p] (.tup [.str a, .int .i64 0])) ∨
      (k < 0 ∧ Meets Tryz.prog 75 [.int .i64 nk] (.tup [.ints .u64 five, .int .i64 0]) ∧ Meets Tryz.prog 61 [.ints .u64 m, .ints .u64 five] (.tup [.ints .u64 p, .int .i64 0]) ∧ Meets Tryz.prog 74 [.ints .u64 p] (.tup [.str a, .int .i64 0]) ∧ Meets Tryz.prog 74 [.ints .u64 [nk]] (.tup [.str b, .int .i64 0]) ∧ a.length + b.length ≤ 1000000))
    (t : List Int) (ht : t = if 0 ≤ k then a else a ++ 101 :: 45 :: b) : Meets Tryz.prog 37 [.ints .u64 m, .int .i64 k] (.tup [.str t, .bool true]) := by
  subst ht
  rcases h with ⟨h0, h1, h2⟩ | ⟨h0, h1, h2, h3, h4, h5⟩
  · rw [if_pos h0]
    have d1 : decide (0 ≤ k) = true := decide_eq_true h0
    refine meets_by ttOk Tryz.func37 Tryz.ntmps37 Tryz.results37 (by kernel_rfl) (c := _) rfl rfl rfl fun E => ?_
    simp only [argsFrame]
    repeat' first
      | (with_reducible first | refine PW.seq ?_ | refine PW.block ?_ | refine PW.fork ?_ | refine PW.skip ?_ | refine PW.exit ?_ | refine PW.ret ?_ | refine PW.scope ?_ | refine PW.label ?_ | refine PW.goto ?_)
      | (simp only [d1])
      | (with_reducible refine PW.region ttOk ?_ ?_
         · rfl)
      | (with_reducible refine PW.regionD ttOk mixed ?_ ?_ ?_
         · rfl
         · rfl)
      | (with_reducible refine ifW_dec (fun g => ?_) (fun g => ?_) <;> first | (exfalso; omega) | (simp -dsimp only [g, wkI]))
      | (with_reducible refine condE_dec (fun g => ?_) (fun g => ?_) <;> try (exfalso; omega))
      | (with_reducible refine condE_not (fun g => ?_) (fun g => ?_) <;> try (exfalso; omega))
      | (simp -dsimp only [↓wkA, ↓wkE, ↓wkJ, wkB, ↓tt, Nat.reduceBEq, Nat.reduceEqDiff, ↓reduceIte, Nat.reduceLT, Array.toList, Nat.reduceAdd, Nat.reduceMul, Int.reduceToNat, Int.reducePow, UInt8.reduceToNat])
      | (refine call_by (h1) (views_data rfl) ⟨trivial, trivial, trivial⟩ rfl ?_)
      | (refine call_by (h2) (views_data rfl) ⟨trivial, trivial⟩ rfl ?_)
      | (simp -dsimp (disch := first | assumption | omega) only [dec_t, dec_f])
      | (refine And.intro ?_ ?_
         · first | omega | decide | (simp (disch := omega) only [wkW, Int.reduceToNat, Int.reducePow] <;> omega) | (simp <;> omega))
      | (simp (disch := omega) only [wkW, Int.reduceToNat, Int.reducePow])
      | fail
  · rw [if_neg (by omega)]
    have d1 : decide (0 ≤ k) = false := decide_eq_false (by omega)
    have w2 := hk2 h0
    clear hk2 h0
    refine meets_by ttOk Tryz.func37 Tryz.ntmps37 Tryz.results37 (by kernel_rfl) (c := _) rfl rfl rfl fun E => ?_
    simp only [argsFrame]
    repeat' first
      | (with_reducible first | refine PW.seq ?_ | refine PW.block ?_ | refine PW.fork ?_ | refine PW.skip ?_ | refine PW.exit ?_ | refine PW.ret ?_ | refine PW.scope ?_ | refine PW.label ?_ | refine PW.goto ?_)
      | (simp only [d1, hk, w2])
      | (with_reducible refine PW.region ttOk ?_ ?_
         · rfl)
      | (with_reducible refine PW.regionD ttOk mixed ?_ ?_ ?_
         · rfl
         · rfl)
      | (with_reducible refine ifW_dec (fun g => ?_) (fun g => ?_) <;> first | (exfalso; omega) | (simp -dsimp only [g, wkI]))
      | (with_reducible refine condE_dec (fun g => ?_) (fun g => ?_) <;> try (exfalso; omega))
      | (with_reducible refine condE_not (fun g => ?_) (fun g => ?_) <;> try (exfalso; omega))
      | (simp -dsimp only [↓wkA, ↓wkE, ↓wkJ, wkB, ↓tt, Nat.reduceBEq, Nat.reduceEqDiff, ↓reduceIte, Nat.reduceLT, Array.toList, Nat.reduceAdd, Nat.reduceMul, Int.reduceToNat, Int.reducePow, UInt8.reduceToNat])
      | (refine call_by (h1) (views_data rfl) ⟨trivial, trivial⟩ rfl ?_)
      | (refine call_by (h2) (views_data rfl) ⟨trivial, trivial, trivial⟩ rfl ?_)
      | (refine call_by (h3) (views_data rfl) ⟨trivial, trivial⟩ rfl ?_)
      | (refine call_by' (args' := [.ints .u64 [nk]]) rfl h4 ⟨Nat.le_refl _, trivial⟩ rfl ?_)
      | (simp -dsimp (disch := first | assumption | omega) only [dec_t, dec_f])
      | (refine And.intro ?_ ?_
         · first | omega | decide | (simp (disch := omega) only [wkW, Int.reduceToNat, Int.reducePow] <;> omega) | (simp <;> omega))
      | (simp (disch := omega) only [wkW, Int.reduceToNat, Int.reducePow])
      | fail

def txt (M : Nat) (k : Int) : List Int := if 0 ≤ k then written 10 false (M * 2 ^ k.toNat) else written 10 false (M * 5 ^ (-k).toNat) ++ 101 :: 45 :: written 10 false (-k).toNat
theorem written_digs (v : Nat) : AllD (written 10 false v) := by
  unfold written
  split
  · intro i hi
    match i, hi with
    | 0, _ => decide
    | i + 1, h => simp at h
  · exact all_digs text_digs
theorem written_short {v n : Nat} (h : v < 10 ^ n) (hn : 0 < n) : (written 10 false v).length ≤ n := by
  by_cases h0 : v = 0
  · subst h0
    exact hn
  · refine Nat.le_of_not_lt fun hlt => ?_
    have hne := written_ne (b := 10) (by decide) false v
    have hl := num_low (written_digs v) (fun e => ?_) hne
    · rw [written_num (by decide)] at hl
      have : 10 ^ n ≤ 10 ^ ((written 10 false v).length - 1) := Nat.pow_le_pow_right (by decide) (by omega)
      omega
    · unfold written at e
      rw [if_neg h0] at e
      exact text_head (by decide) false v h0 e
theorem law_text {M : Nat} {k : Int} (hk : -1200 ≤ k ∧ k ≤ 1100) (hM : M < 2 ^ 200) : Meets Tryz.prog 37 [.ints .u64 (natL M), .int .i64 k] (.tup [.str (txt M k), .bool true]) := by
  have hMn : M < NMax := nmax_of hM (by decide)
  by_cases h0 : 0 ≤ k
  · obtain ⟨n, rfl⟩ : ∃ n : Nat, k = (n : Int) := ⟨k.toNat, by omega⟩
    have b1 : M * 2 ^ n < 2 ^ 200 * 2 ^ 1100 := Nat.mul_lt_mul_of_lt_of_le hM (Nat.pow_le_pow_right (by decide) (by omega)) (Nat.two_pow_pos _)
    have b2 : M * 2 ^ n < NMax := nmax_of (k := 1300) (Nat.lt_of_lt_of_le b1 (by decide +kernel)) (by decide)
    refine text_walk _ _ _ _ [] _ [] rfl (fun h => by omega) (.inl ⟨h0, shl_nat hMn (by omega) b2, digits_of _ _ _ (forth_in (b := 10) (by decide) (by rw [nmax_int]; exact_mod_cast b2))⟩) _ ?_
    unfold txt
    rw [if_pos h0, if_pos h0, Int.toNat_natCast]
  · obtain ⟨n, hn⟩ : ∃ n : Nat, k = -(n : Int) := ⟨(-k).toNat, by omega⟩
    have hn1 : 1 ≤ n ∧ n ≤ 1200 := by omega
    have c1 : 5 ^ n ≤ 5 ^ 1200 := Nat.pow_le_pow_right (by decide) hn1.2
    have b0 : 5 ^ n < NMax := nmax_of (k := 3000) (Nat.lt_of_le_of_lt c1 (by decide +kernel)) (by decide)
    have b1 : M * 5 ^ n < 2 ^ 200 * 5 ^ 1200 := Nat.mul_lt_mul_of_lt_of_le hM c1 (Nat.pow_pos (by decide))
    have b2 : M * 5 ^ n < NMax := nmax_of (k := 3200) (Nat.lt_of_lt_of_le b1 (by decide +kernel)) (by decide)
    have b3 : n < NMax := nmax_of (k := 20) (by omega) (by decide)
    have l1 := written_short (v := M * 5 ^ n) (n := 1000) (Nat.lt_of_lt_of_le b1 (by decide +kernel)) (by decide)
    have l2 := written_short (v := n) (n := 4) (by omega) (by decide)
    have e1 : (-k).toNat = n := by omega
    have g4 := digits_of (natL n) _ _ (forth_in (b := 10) (by decide) (by rw [nmax_int]; exact_mod_cast b3))
    rw [natL_single (by omega) (by omega)] at g4
    refine text_walk _ _ (n : Int) _ _ _ (written 10 false n) (by rw [hn, show (0 : Int) - -(n : Int) = n by omega]; exact wrap_i64 (by omega)) (fun _ => wrap_u64 (by omega)) (.inr ⟨by omega, pow5_ok n (by omega) b0, mul_nat0 hMn b0 b2, digits_of _ _ _ (forth_in (b := 10) (by decide) (by rw [nmax_int]; exact_mod_cast b2)), g4, by omega⟩) _ ?_
    unfold txt
    rw [if_neg h0, if_neg h0, e1]

theorem rdec_bin {M n : Nat} : rdec (M * 5 ^ n) (-(n : Int)) = rbin M (-(n : Int)) := by
  rw [← rrat_five]
  unfold rrat rbin
  refine rndU_congr (Nat.mul_pos (Nat.pow_pos (by decide)) (Nat.two_pow_pos _)) (Nat.two_pow_pos _) ?_
  ac_rfl
theorem rdec_whole {M n : Nat} : rdec (M * 2 ^ n) 0 = rbin M (n : Int) := by
  unfold rdec rbin
  rw [show (0 : Int).toNat = 0 from rfl, show (-(0 : Int)).toNat = 0 from rfl, show (-((n : Int) + 1074)).toNat = 0 by omega, show ((n : Int) + 1074).toNat = n + 1074 by omega, Nat.pow_zero, Nat.mul_one, Nat.pow_add, Nat.mul_assoc]
theorem txt_lit {M : Nat} {k : Int} (hk : -1200 ≤ k ∧ k ≤ 1100) : nuOk (txt M k) ∧ nuN (txt M k) = false ∧ nuV (txt M k) = rbin M k ∧ nuE (txt M k) = (txt M k).length ∧ isDig ((txt M k).getD 0 0) := by
  have wn := fun v => written_ne (b := 10) (by decide) false v
  have wv := fun v => written_num (b := 10) (by decide) false v
  unfold txt
  by_cases h0 : 0 ≤ k
  · rw [if_pos h0]
    obtain ⟨n, rfl⟩ : ∃ n : Nat, k = (n : Int) := ⟨k.toNat, by omega⟩
    obtain ⟨z1, z2, z3, z4, z5⟩ := lit_digits (written_digs (M * 2 ^ (n : Int).toNat)) (wn _)
    refine ⟨z1, z2, ?_, z5, written_digs _ 0 (List.length_pos_iff.2 (wn _))⟩
    rw [nuV_val z2 z3 z4, wv, Int.toNat_natCast, rdec_whole]
  · rw [if_neg h0]
    obtain ⟨n, rfl⟩ : ∃ n : Nat, k = -(n : Int) := ⟨(-k).toNat, by omega⟩
    obtain ⟨z1, z2, z3, z4, z5⟩ := lit_exp (written_digs (M * 5 ^ (- -(n : Int)).toNat)) (wn _) (written_digs (- -(n : Int)).toNat) (wn _) (by rw [wv]; omega)
    refine ⟨z1, z2, ?_, z5, ?_⟩
    · rw [nuV_val z2 z3 z4, wv, wv, show (- -(n : Int)).toNat = n by omega, rdec_bin]
    · rw [getD_ahead (List.length_pos_iff.2 (wn _))]
      exact written_digs _ 0 (List.length_pos_iff.2 (wn _))

-- roundings held against the neighbours
theorem rnd_in {d N D : Nat} (hD : 0 < D) (hd : d < infB) (h1 : dv d * D ≤ N) (h2 : 2 * N < (dv d + dv (d + 1)) * D) : rndU N D = d := by
  refine rndU_eq hD ⟨Nat.le_of_lt hd, fun _ => ⟨Nat.le_of_lt h2, fun e => by omega⟩, fun h0 => ?_⟩
  have h3 : dv (d - 1) < dv (d) := dv_lt (by omega)
  have h4 : (dv (d - 1) + dv d) * D < 2 * (dv d * D) := by
    rw [← Nat.mul_assoc]
    exact Nat.mul_lt_mul_of_pos_right (by omega) hD
  exact ⟨by omega, fun e => by omega⟩
theorem rnd_over {d N D : Nat} (hD : 0 < D) (hd : d < infB) (h1 : (dv d + dv (d + 1)) * D < 2 * N) (h2 : N ≤ dv (d + 1) * D) : rndU N D = d + 1 := by
  refine rndU_eq hD ⟨hd, fun _ => ?_, fun _ => ⟨Nat.le_of_lt h1, fun e => by rw [Nat.add_sub_cancel] at e; omega⟩⟩
  have h3 : dv (d + 1) < dv (d + 1 + 1) := dv_lt (by omega)
  have h4 : 2 * (dv (d + 1) * D) < (dv (d + 1) + dv (d + 1 + 1)) * D := by
    rw [← Nat.mul_assoc]
    exact Nat.mul_lt_mul_of_pos_right (by omega) hD
  exact ⟨by omega, fun e => by omega⟩
theorem rnd_tie {d N D : Nat} (hD : 0 < D) (hd : d < infB) (h : 2 * N = (dv d + dv (d + 1)) * D) : rndU N D = d + d % 2 := by
  have h3 : dv (d) < dv (d + 1) := dv_lt (by omega)
  rcases Nat.mod_two_eq_zero_or_one d with e | e
  · rw [e, Nat.add_zero]
    refine rndU_eq hD ⟨Nat.le_of_lt hd, fun _ => ⟨Nat.le_of_eq h, fun _ => e⟩, fun h0 => ?_⟩
    have h5 : dv (d - 1) < dv (d) := dv_lt (by omega)
    have h4 : (dv (d - 1) + dv d) * D < (dv d + dv (d + 1)) * D := Nat.mul_lt_mul_of_pos_right (by omega) hD
    exact ⟨by omega, fun e => by omega⟩
  · rw [e]
    refine rndU_eq hD ⟨hd, fun _ => ?_, fun _ => ⟨by rw [Nat.add_sub_cancel]; omega, fun _ => by omega⟩⟩
    have h5 : dv (d + 1) < dv (d + 1 + 1) := dv_lt (by omega)
    have h4 : (dv d + dv (d + 1)) * D < (dv (d + 1) + dv (d + 1 + 1)) * D := Nat.mul_lt_mul_of_pos_right (by omega) hD
    exact ⟨by omega, fun e => by omega⟩
end Go.Proofs.YtbmhnjghpjkjpaaGreatDoor
set_option maxHeartbeats 4000000
set_option maxRecDepth 4000
set_option exponentiation.threshold 300000
set_option linter.unusedVariables false
set_option linter.unusedSimpArgs false
namespace Go.Proofs.YtbmhnjghpjkjpaaGreatDoor
open Go Go.PV

section
variable {d : Nat} (hd : d < infB)
include hd
theorem mid_sum : dv d + dv (d + 1) = (2 * mantD d + 1) * 2 ^ (expD d + 1074).toNat := by
  rw [dv_self hd, dv_next hd, ← Nat.add_mul]
  congr 1
  omega
theorem bin_exact : rbin (mantD d) (expD d) = d := by
  have h := pos_parts hd
  unfold rbin
  rw [show (-(expD d + 1074)).toNat = 0 by omega, ← dv_self hd, Nat.pow_zero]
  have := rndU_dv (b := d) (D := 1) (by decide) (Nat.le_of_lt hd)
  rw [Nat.mul_one] at this
  exact this
theorem bin_mid : rbin (2 * mantD d + 1) (expD d - 1) = d + d % 2 := by
  have h := pos_parts hd
  unfold rbin
  refine rnd_tie (Nat.two_pow_pos _) hd ?_
  rw [mid_sum hd]
  by_cases h1 : expD d = -1074
  · rw [h1]
    show 2 * ((2 * mantD d + 1) * 2 ^ 0) = (2 * mantD d + 1) * 2 ^ 0 * 2 ^ 1
    omega
  · rw [show expD d - 1 + 1074 = expD d + 1073 by omega, show (-(expD d + 1073)).toNat = 0 by omega, Nat.pow_zero, Nat.mul_one, show (expD d + 1074).toNat = (expD d + 1073).toNat + 1 by omega, Nat.pow_succ]
    rw [Nat.mul_comm 2, Nat.mul_assoc]
theorem bin_low : rbin ((2 * mantD d + 1) * 2 ^ 100 - 1) (expD d - 101) = d := by
  have h := pos_parts hd
  unfold rbin
  obtain ⟨p, hp⟩ : ∃ p, (expD d - 101 + 1074).toNat = p := ⟨_, rfl⟩
  obtain ⟨q, hq⟩ : ∃ q, (-(expD d - 101 + 1074)).toNat = q := ⟨_, rfl⟩
  rw [hp, hq]
  have e1 : (expD d + 1074).toNat + q = p + 101 := by omega
  have hP := Nat.two_pow_pos p
  refine rnd_in (Nat.two_pow_pos _) hd ?_ ?_
  · rw [dv_self hd, Nat.mul_assoc, ← Nat.pow_add, e1, Nat.pow_add, Nat.mul_comm (2 ^ p), ← Nat.mul_assoc]
    exact Nat.mul_le_mul_right _ (by omega)
  · rw [mid_sum hd, Nat.mul_assoc (2 * mantD d + 1), ← Nat.pow_add, e1, Nat.pow_add, Nat.mul_comm (2 ^ p), ← Nat.mul_assoc, ← Nat.mul_assoc]
    exact Nat.mul_lt_mul_of_pos_right (by omega) hP
theorem bin_high : rbin ((2 * mantD d + 1) * 2 ^ 100 + 1) (expD d - 101) = d + 1 := by
  have h := pos_parts hd
  unfold rbin
  obtain ⟨p, hp⟩ : ∃ p, (expD d - 101 + 1074).toNat = p := ⟨_, rfl⟩
  obtain ⟨q, hq⟩ : ∃ q, (-(expD d - 101 + 1074)).toNat = q := ⟨_, rfl⟩
  rw [hp, hq]
  have e1 : (expD d + 1074).toNat + q = p + 101 := by omega
  have hP := Nat.two_pow_pos p
  refine rnd_over (Nat.two_pow_pos _) hd ?_ ?_
  · rw [mid_sum hd, Nat.mul_assoc (2 * mantD d + 1), ← Nat.pow_add, e1, Nat.pow_add, Nat.mul_comm (2 ^ p), ← Nat.mul_assoc, ← Nat.mul_assoc]
    exact Nat.mul_lt_mul_of_pos_right (by omega) hP
  · rw [dv_next hd, Nat.mul_assoc (mantD d + 1), ← Nat.pow_add, e1, Nat.pow_add, Nat.mul_comm (2 ^ p), ← Nat.mul_assoc]
    exact Nat.mul_le_mul_right _ (by omega)
theorem bin_long {P : Nat} {Y : Int} (hP : (0 ≤ expD d - 1 ∧ 0 ≤ Y ∧ P * 10 ^ Y.toNat = (2 * mantD d + 1) * 2 ^ (expD d - 1).toNat) ∨ (expD d - 1 < 0 ∧ Y = expD d - 1 ∧ P = (2 * mantD d + 1) * 5 ^ (1 - expD d).toNat)) (z : Nat) {n : Nat} {x : Int} (hn : n = Y.toNat + z) (hx : x = (if 0 ≤ Y then 0 else Y) - z - 1) : rdec (P * 10 ^ (n + 1) + 1) x = d + 1 := by
  have h := pos_parts hd
  unfold rdec
  have hT : 10 ≤ 10 ^ (z + 1) := by rw [Nat.pow_succ]; have := ten_pos z; omega
  rcases hP with ⟨h1, h2, h3⟩ | ⟨h1, h2, h3⟩
  · rw [if_pos h2] at hx
    rw [show x.toNat = 0 by omega, Nat.pow_zero, Nat.mul_one, show (-x).toNat = z + 1 by omega, hn, show Y.toNat + z + 1 = Y.toNat + (z + 1) by omega, Nat.pow_add, ← Nat.mul_assoc, h3]
    generalize 10 ^ (z + 1) = T at *
    have e1 : 2 ^ (expD d + 1074).toNat = 2 ^ (expD d - 1).toNat * 2 ^ 1074 * 2 := by
      rw [Nat.mul_assoc, ← Nat.pow_succ, ← Nat.pow_add]
      congr 1
      omega
    have hE := Nat.two_pow_pos (expD d - 1).toNat
    generalize 2 ^ (expD d - 1).toNat = E at *
    have hU := Nat.two_pow_pos 1074
    refine rnd_over (by omega) hd ?_ ?_
    · rw [mid_sum hd, e1]
      generalize (2 : Nat) ^ 1074 = U at *
      have a1 : (2 * mantD d + 1) * (E * U * 2) * T = 2 * ((2 * mantD d + 1) * E * T * U) := by ac_rfl
      rw [a1, Nat.add_mul ((2 * mantD d + 1) * E * T) 1 U, Nat.one_mul]
      generalize (2 * mantD d + 1) * E * T * U = X
      omega
    · rw [dv_next hd, e1]
      generalize (2 : Nat) ^ 1074 = U at *
      have a1 : (mantD d + 1) * (E * U * 2) * T = (2 * mantD d + 1) * E * T * U + E * T * U := by
        have h2 : (mantD d + 1) * 2 = (2 * mantD d + 1) + 1 := by omega
        calc (mantD d + 1) * (E * U * 2) * T = ((mantD d + 1) * 2) * (E * T * U) := by ac_rfl
          _ = (2 * mantD d + 1) * (E * T * U) + E * T * U := by rw [h2, Nat.add_mul (2 * mantD d + 1) 1, Nat.one_mul]
          _ = _ := by congr 1; ac_rfl
      rw [a1, Nat.add_mul ((2 * mantD d + 1) * E * T) 1 U, Nat.one_mul]
      have h3 : 1 * U ≤ E * T * U := Nat.mul_le_mul_right _ (Nat.mul_pos hE (by omega))
      rw [Nat.one_mul] at h3
      exact Nat.add_le_add_left h3 _
  · rw [if_neg (by omega)] at hx
    obtain ⟨n5, hn5⟩ : ∃ n5, (1 - expD d).toNat = n5 := ⟨_, rfl⟩
    rw [hn5] at h3
    rw [show x.toNat = 0 by omega, Nat.pow_zero, Nat.mul_one, show (-x).toNat = n5 + (z + 1) by omega, hn, show Y.toNat + z + 1 = z + 1 by omega, Nat.pow_add 10 n5, h3]
    generalize 10 ^ (z + 1) = T at *
    have e1 : 2 ^ (expD d + 1074).toNat * 10 ^ n5 = 2 ^ 1074 * 5 ^ n5 * 2 := by
      rw [show (10 : Nat) = 2 * 5 from rfl, Nat.mul_pow, ← Nat.mul_assoc, ← Nat.pow_add, show (expD d + 1074).toNat + n5 = 1074 + 1 by omega, Nat.pow_succ]
      ac_rfl
    have hF : 0 < 5 ^ n5 := Nat.pow_pos (by decide)
    have hTen := ten_pos n5
    have hU := Nat.two_pow_pos 1074
    refine rnd_over (Nat.mul_pos hTen (by omega)) hd ?_ ?_
    · rw [mid_sum hd]
      have e2 : (2 * mantD d + 1) * 2 ^ (expD d + 1074).toNat * (10 ^ n5 * T) = (2 * mantD d + 1) * (2 ^ (expD d + 1074).toNat * 10 ^ n5) * T := by ac_rfl
      rw [e2, e1]
      generalize (2 : Nat) ^ 1074 = U at *
      generalize 5 ^ n5 = F at *
      have a1 : (2 * mantD d + 1) * (U * F * 2) * T = 2 * ((2 * mantD d + 1) * F * T * U) := by ac_rfl
      rw [a1, Nat.add_mul ((2 * mantD d + 1) * F * T) 1 U, Nat.one_mul]
      generalize (2 * mantD d + 1) * F * T * U = X
      omega
    · rw [dv_next hd]
      have e2 : (mantD d + 1) * 2 ^ (expD d + 1074).toNat * (10 ^ n5 * T) = (mantD d + 1) * (2 ^ (expD d + 1074).toNat * 10 ^ n5) * T := by ac_rfl
      rw [e2, e1]
      generalize (2 : Nat) ^ 1074 = U at *
      generalize 5 ^ n5 = F at *
      have a1 : (mantD d + 1) * (U * F * 2) * T = (2 * mantD d + 1) * F * T * U + F * T * U := by
        have h2 : (mantD d + 1) * 2 = (2 * mantD d + 1) + 1 := by omega
        calc (mantD d + 1) * (U * F * 2) * T = ((mantD d + 1) * 2) * (F * T * U) := by ac_rfl
          _ = (2 * mantD d + 1) * (F * T * U) + F * T * U := by rw [h2, Nat.add_mul (2 * mantD d + 1) 1, Nat.one_mul]
          _ = _ := by congr 1; ac_rfl
      rw [a1, Nat.add_mul ((2 * mantD d + 1) * F * T) 1 U, Nat.one_mul]
      have h3 : 1 * U ≤ F * T * U := Nat.mul_le_mul_right _ (Nat.mul_pos hF (by omega))
      rw [Nat.one_mul] at h3
      exact Nat.add_le_add_left h3 _
end
theorem mid_normal {M : Nat} {k : Int} (hM : M % 2 = 1) (hk : -1200 ≤ k ∧ k ≤ 1100) : (0 ≤ k ∧ 0 ≤ nuY (txt M k) ∧ num 10 (nuS (txt M k)) * 10 ^ (nuY (txt M k)).toNat = M * 2 ^ k.toNat) ∨ (k < 0 ∧ nuY (txt M k) = k ∧ num 10 (nuS (txt M k)) = M * 5 ^ (-k).toNat) := by
  have wn := fun v => written_ne (b := 10) (by decide) false v
  have wv := fun v => written_num (b := 10) (by decide) false v
  unfold nuS nuY txt
  by_cases h0 : 0 ≤ k
  · rw [if_pos h0]
    obtain ⟨z1, z2, z3, z4, z5⟩ := lit_digits (written_digs (M * 2 ^ k.toNat)) (wn _)
    rw [z3, z4]
    refine .inl ⟨h0, ?_⟩
    have hne : M * 2 ^ k.toNat ≠ 0 := Nat.ne_of_gt (Nat.mul_pos (by omega) (Nat.two_pow_pos _))
    rcases norm_val (x := 0) (written_digs (M * 2 ^ k.toNat)) with ⟨h1, _⟩ | ⟨h1, j, h2, h3, h4, _⟩
    · rw [wv] at h1; exact absurd h1 hne
    · rw [wv] at h4
      rw [h2]
      refine ⟨by omega, ?_⟩
      rw [show (0 + (j : Int)).toNat = j by omega, ← h4]
  · rw [if_neg h0]
    obtain ⟨n, rfl⟩ : ∃ n : Nat, k = -(n : Int) := ⟨(-k).toNat, by omega⟩
    rw [show (- -(n : Int)).toNat = n by omega]
    obtain ⟨z1, z2, z3, z4, z5⟩ := lit_exp (written_digs (M * 5 ^ n)) (wn _) (written_digs n) (wn _) (by rw [wv]; omega)
    rw [z3, z4, wv]
    refine .inr ⟨by omega, ?_⟩
    have hodd : M * 5 ^ n % 2 = 1 := by
      have : 5 ^ n % 2 = 1 := by rw [Nat.pow_mod]; simp
      rw [Nat.mul_mod, hM, this]
    rcases norm_val (x := -(n : Int)) (written_digs (M * 5 ^ n)) with ⟨h1, _⟩ | ⟨h1, j, h2, h3, h4, _⟩
    · rw [wv] at h1; omega
    · rw [wv] at h4
      have hj : j = 0 := by
        cases j with
        | zero => rfl
        | succ j =>
          rw [Nat.pow_succ] at h4
          have : M * 5 ^ n % 2 = 0 := by rw [h4, ← Nat.mul_assoc]; omega
          omega
      subst hj
      rw [Nat.pow_zero, Nat.mul_one] at h4
      exact ⟨by rw [h2]; omega, h4.symm⟩
end Go.Proofs.YtbmhnjghpjkjpaaGreatDoor
set_option maxHeartbeats 4000000
set_option maxRecDepth 4000
set_option exponentiation.threshold 300000
set_option linter.unusedVariables false
set_option linter.unusedSimpArgs false
namespace Go.PV
theorem wf_u16 {n : Int} (h : (Lit.int .u16 n).wf = true) : 0 ≤ n ∧ n < 65536 := by
  simp only [Lit.wf, Bool.and_eq_true, decide_eq_true_eq, IntKind.min, IntKind.max, IntKind.signed, IntKind.bits] at h
  simp at h
  omega
end Go.PV
namespace Go.Proofs.YtbmhnjghpjkjpaaGreatDoor
open Go Go.PV

def wd (s : List Int) : Nat → List Int
  | 0 => s
  | n + 1 => wd s n ++ [48]
def fr (s : List Int) : Nat → List Int
  | 0 => s
  | n + 1 => 48 :: fr s n
theorem wd_len (s : List Int) : ∀ n, (wd s n).length = s.length + n
  | 0 => rfl
  | n + 1 => by rw [wd, List.length_append, wd_len s n]; rfl
theorem wd_all {s : List Int} (h : AllD s) : ∀ n, AllD (wd s n)
  | 0 => h
  | n + 1 => all_digs (digs_append (digs_all (wd_all h n)) (fun x hx => by rw [List.mem_singleton] at hx; subst hx; decide))
theorem wd_num {s : List Int} : ∀ n, num 10 (wd s n) = num 10 s * 10 ^ n
  | 0 => by rw [Nat.pow_zero, Nat.mul_one]; rfl
  | n + 1 => by
    rw [wd, num_append, wd_num n, show (worth 48).toNat = 0 by decide, Nat.pow_succ, Nat.mul_assoc]
    rfl
end Go.Proofs.YtbmhnjghpjkjpaaGreatDoor

/- Pure values, part 15: append, the whole state. -/
import Derived.Test.YtmoigffjpijpaaaV14
set_option linter.unusedVariables false
set_option linter.unusedSimpArgs false
namespace Go.PV
open Go Go.RowKit

def killG (kl : Option Nat) (get : Nat → PV) : Nat → PV :=
  match kl with
  | none => get
  | some r => fun t => kill r (get t)

def baseI (rows : Nat → Option Row) (k : IntKind) (s : PV) (K : Option (Nat × Bool) → List Int → Prop) : Prop :=
  match s with
  | .nil => K none []
  | .sl r off len full => match rows r with
    | some (.ints k' l) => k = k' ∧ off + len ≤ l.length ∧ K (some (r, full)) ((l.drop off).take len)
    | _ => False
  | _ => False

def baseL (rows : Nat → Option Row) (sz : Nat) (s : PV) (K : Option (Nat × Bool) → List PV → Prop) : Prop :=
  match s with
  | .nil => K none []
  | .sl r off len full => match rows r with
    | some (.list sz' l) => sz = sz' ∧ off + len ≤ l.length ∧ K (some (r, full)) ((l.drop off).take len)
    | _ => False
  | _ => False

def putRes (H : Heap) (b : Option (Nat × Bool)) (n : Nat) (row : Row) (K : PV → Heap → Option Nat → Prop) : Prop :=
  match b with
  | none => K (.sl H.nx 0 n true) (H.new row) none
  | some (r, full) => K (.sl r 0 n full) (H.move r row) (some r)

def notInt : TD → Bool
  | .slice _ | .str => true
  | _ => false

def appW (tt : Tab) (t u : TypeId) (s x : PV) (H : Heap) (K : PV → Heap → Option Nat → Prop) : Prop :=
  match tt t, tt u with
  | some ti, some ui => notInt ui.desc = true ∧ (match ti.desc with
    | .slice e => match tt e with
      | some te => 0 < te.size ∧ (match te.desc with
        | .int k => te.size = 1 ∧ baseI H.get k s fun b l => srcI H.get k x fun xs =>
          (l.length + xs.length ≤ 9223372036854775807 ∧ (l.length + xs.length) * te.bytes ≤ 140737488355328) ∧ putRes H b (l.length + xs.length) (.ints k (l ++ xs)) K
        | _ => baseL H.get te.size s fun b l => srcL H.get te.size x fun xs =>
          (l.length + xs.length ≤ 9223372036854775807 ∧ (l.length + xs.length) * te.bytes ≤ 140737488355328) ∧ putRes H b (l.length + xs.length) (.list te.size (l ++ xs)) K)
      | none => False
    | _ => False)
  | _, _ => False

section
variable {P : Program} {w w' : World} {ow ow' : Nat → Prop} {loc loc' : Locs} {n nt : Nat} {E : Entry} {H : Heap} {F : Frame} {a : Act} {tt : Tab} {rows : Nat → Option Row}

theorem HS.newNil (h : HS E H ow loc w) {row : Row} (hat : RowAt w ow (locNew loc H.nx none) none row) (hnv : ∀ l, row ≠ .var l) : HS E (H.new row) ow (locNew loc H.nx none) w := by
  have hs := Stable.refl ow w
  have hlo : ∀ r, r < H.nx → locNew loc H.nx none r = loc r ∨ locNew loc H.nx none r = none := fun r hr => .inl (by simp [locNew, Nat.ne_of_lt hr])
  refine ⟨?_, ?_, ?_, h.old, h.size, h.os, h.tape, h.output, ?_, h.owlt, h.forb, h.alt, ?_, ?_, h.gh.newLoc hs (fun _ _ h => h) hlo (Nat.le_succ _)⟩
  · intro r row' hr
    rw [Heap.get_new] at hr
    split at hr
    · rename_i e; subst e; injection hr with hr; subst hr
      exact ⟨none, by simp [locNew], hat⟩
    · rename_i hne
      obtain ⟨L', hL', hat'⟩ := h.rows r row' hr
      exact ⟨L', by simp [locNew, Ne.symm hne, hL'], hat'.mono (n := H.nx) hs (fun _ _ h => h) hlo (fun l e => h.refs r l (by rw [hr, e])) fun M hM => rfl⟩
  · intro r L' hr
    unfold locNew at hr
    split at hr
    · cases hr
    · exact h.live r L' hr
  · intro r r' L1 L2 h1 h2 e
    unfold locNew at h1 h2
    split at h1 <;> split at h2
    · cases h1
    · cases h1
    · cases h2
    · exact h.inj r r' L1 L2 h1 h2 e
  · intro r hr
    have hr' : H.nx + 1 ≤ r := hr
    simp only [locNew]
    rw [if_neg (by omega)]
    exact h.nx r (by omega)
  · intro r L' hr
    unfold locNew at hr
    split at hr
    · cases hr
    · exact h.apart r L' hr
  · intro r l hr j hj
    rw [Heap.get_new] at hr
    split at hr
    · injection hr with hr; exact absurd hr (hnv l)
    · exact (h.refs r l hr j hj).mono (by show H.nx ≤ H.nx + 1; omega)

/-- The whole step, once it is told what the row holds behind it. -/
theorem app_fin (hs : HS E H ow loc w) {s : Sem Value} {b : Option (Nat × Bool)} {Lo L' : Option RowLoc} {full : Bool} {k : Nat} {row : Row} {cv : Value} {blk : Nat} {K : PV → Heap → Option Nat → Prop}
    (hbase : match b with | none => Lo = none ∧ full = true | some (r, f) => loc r = some Lo ∧ full = f)
    (hrun : s.run P w = .ok cv w') (hc : Chg w w' blk) (hbo : (∃ L, Lo = some L ∧ blk = L.b) ∨ w.heap.size ≤ blk) (hnil : L' = none → k = 0 ∧ cv = .slice none 0 0 ∧ w' = w)
    (hsome : ∀ M, L' = some M → ((∃ L, Lo = some L ∧ M.b = L.b) ∨ (w.heap.size ≤ M.b)) ∧ M.b < w'.heap.size ∧ ∃ a' c', cv = .slice (some a') k c' ∧ k ≤ c' ∧ c' ≤ M.cap ∧ (full = true → c' = M.cap) ∧ (c' = 0 ∨ a' = ⟨M.b, M.o, none⟩))
    (hblk : Lo = none → ∀ M, L' = some M → blk = M.b)
    (hat : ∀ ow' loc', Stable ow w w' → (∀ b, b < w.heap.size → ow' b → ow b) → RowAt w' ow' loc' L' row) (hnv : ∀ l, row ≠ .var l) (h : putRes H b k row K) :
    ∃ q H' kl, K q H' kl ∧ ∃ cv w' ow' loc', s.run P w = .ok cv w' ∧ HS E H' ow' loc' w' ∧ Stable ow w w' ∧ (∀ b, b < w.heap.size → ow' b → ow b) ∧ RV w' ow' loc' q cv ∧ Refs H'.nx q ∧ ∀ get a, FS w ow loc H.nx get a → FS w' ow' loc' H'.nx (killG kl get) a := by
  cases b with
  | none =>
    obtain ⟨rfl, rfl⟩ := hbase
    cases L' with
    | none =>
      obtain ⟨rfl, rfl, rfl⟩ := hnil rfl
      have hb : ∀ b, b < w'.heap.size → ow b → ow b := fun _ _ h => h
      refine ⟨_, _, _, h, _, _, ow, locNew loc H.nx none, hrun, hs.newNil (hat _ _ (Stable.refl _ _) hb) hnv, Stable.refl _ _, hb, ?_, .sl _ _ _ _ (Nat.lt_succ_self _), fun get a hf => hf.new (Stable.refl _ _) hb⟩
      exact .slnil _ _ (by simp [locNew])
    | some M =>
      obtain ⟨hM, hlt, a', c', rfl, h1, h2, h3, h4⟩ := hsome M rfl
      have hMb : w.heap.size ≤ M.b := hM.resolve_left (by rintro ⟨L, e, _⟩; cases e)
      obtain rfl := hblk rfl M rfl
      have hst : Stable ow w w' := Stable.of_chg_new hc hMb ow
      have hb : ∀ b, b < w.heap.size → (ow b ∨ b = M.b) → ow b := fun b hlt h => h.elim id (fun e => by omega)
      have hL : locNew loc H.nx (some M) H.nx = some (some M) := by simp [locNew]
      refine ⟨_, _, _, h, _, _, fun b => ow b ∨ b = M.b, locNew loc H.nx (some M), hrun, hs.new hc hMb hlt (hat _ _ hst hb) (fun l e => absurd e (hnv l)), hst, hb, ?_, .sl _ _ _ _ (Nat.lt_succ_self _), fun get a hf => hf.new hst hb⟩
      exact .sl _ _ _ _ M _ _ hL h1 (by omega) (fun e => by rw [h3 e]; omega) (by simpa using h4)
  | some rf =>
    obtain ⟨r, f⟩ := rf
    obtain ⟨hLo, rfl⟩ := hbase
    have hrn : r < H.nx := by
      rcases Nat.lt_or_ge r H.nx with h1 | h1
      · exact h1
      · rw [hs.nx r h1] at hLo; cases hLo
    have hlive : ∀ L, Lo = some L → ow L.b := fun L e => (hs.live r L (by rw [hLo, e])).1
    have hb : ∀ b, b < w.heap.size → (ow b ∨ ∃ M, L' = some M ∧ b = M.b) → ow b := by
      rintro b hlt (h | ⟨M, hM, rfl⟩)
      · exact h
      · rcases (hsome M hM).1 with ⟨L, e, e2⟩ | h2
        · rw [e2]; exact hlive L e
        · omega
    have hst : Stable ow w w' := by
      rcases hbo with ⟨L, e, rfl⟩ | hbo
      · exact Stable.of_chg hc (hlive L e)
      · exact Stable.of_chg_new hc hbo ow
    obtain ⟨hHS, _⟩ := hs.move (L' := L') (row := row) (ow' := fun b => ow b ∨ ∃ M, L' = some M ∧ b = M.b) hLo hc hbo (fun b h => .inl h) hb (fun M hM => ⟨.inr ⟨M, hM, rfl⟩, (hsome M hM).2.1, (hsome M hM).1⟩) (fun b hb0 => hb0.elim (fun h1 => by have := hs.owlt b h1; have := hc.size; omega) (fun ⟨M, hM, e⟩ => by rw [e]; exact (hsome M hM).2.1)) (hat _ _ hst hb) hnv
    refine ⟨_, _, _, h, _, _, _, _, hrun, hHS, hst, hb, ?_, .sl _ _ _ _ hrn, fun get a hf => hf.kill hst hb⟩
    cases L' with
    | none =>
      obtain ⟨rfl, rfl, rfl⟩ := hnil rfl
      exact .slnil _ _ (by simp [locSet])
    | some M =>
      obtain ⟨_, hlt, a', c', rfl, h1, h2, h3, h4⟩ := hsome M rfl
      exact .sl _ _ _ _ M _ _ (by simp [locSet]) h1 (by omega) (fun e => by rw [h3 e]; omega) (by simpa using h4)

/-- Where an owned slice lies. -/
theorem base_of (hrows : RowsOk w ow loc n rows) {r off len : Nat} {full : Bool} {v : Value} {row : Row} (hrw : rows r = some row) (hp : RV w ow loc (.sl r off len full) v) (sz : Nat) (hsz : ∀ L, RowAt w ow loc (some L) row → L.sz = sz) :
    ∃ Lo c, loc r = some Lo ∧ RowAt w ow loc Lo row ∧ Base w sz Lo off full v len c := by
  obtain ⟨Lo, hLo, hat⟩ := hrows.at_ r row hrw
  refine ⟨Lo, ?_⟩
  cases hp with
  | data _ _ hd => cases hd
  | dang _ _ _ _ a m c hl => exact absurd hl (hrows.ne hrw)
  | slnil _ _ hl =>
    rw [hLo] at hl; injection hl with hl; subst hl
    exact ⟨0, hLo, hat, .nil _ _⟩
  | sl _ _ _ _ L a c hl hlc hc hf ha =>
    rw [hLo] at hl; injection hl with hl; subst hl
    have := hsz L hat
    exact ⟨c, hLo, hat, .at_ L off full a len c hlc hc hf (by rwa [this] at ha) this⟩

theorem laid_append {sz : Nat} {l xs : List PV} {va vb : List Value} (h1 : Laid w ow sz l va) (h2 : Laid w ow sz xs vb) : Laid w ow sz (l ++ xs) (va ++ vb) := by
  refine ⟨by rw [List.length_append, List.length_append, h1.1, h2.1, Nat.add_mul], fun i hi => ?_⟩
  rw [List.length_append] at hi
  by_cases h : i < l.length
  · have e : (l ++ xs).getD i .undef = l.getD i .undef := by simp [List.getD, List.getElem?_append_left h]
    rw [e]
    refine ⟨(h1.2 i h).1, fun j hj => ?_⟩
    obtain ⟨u, hu, hr⟩ := (h1.2 i h).2 j hj
    refine ⟨u, ?_, hr⟩
    rw [List.getElem?_append_left ((List.getElem?_eq_some_iff.1 hu).1), hu]
  · have e : (l ++ xs).getD i .undef = xs.getD (i - l.length) .undef := by simp [List.getD, List.getElem?_append_right (Nat.le_of_not_lt h)]
    rw [e]
    refine ⟨(h2.2 _ (by omega)).1, fun j hj => ?_⟩
    obtain ⟨u, hu, hr⟩ := (h2.2 (i - l.length) (by omega)).2 j hj
    refine ⟨u, ?_, hr⟩
    have e2 : i * sz + j - va.length = (i - l.length) * sz + j := by
      rw [h1.1, Nat.sub_mul]
      have : l.length * sz ≤ i * sz := Nat.mul_le_mul_right _ (by omega)
      omega
    have hle : va.length ≤ i * sz + j := by
      rw [h1.1]
      have : l.length * sz ≤ i * sz := Nat.mul_le_mul_right _ (by omega)
      omega
    rw [List.getElem?_append_right hle, e2, hu]

theorem app_sound (hT : TabOk P tt) (hs : HS E H ow loc w) {t u ty : TypeId} {s x : PV} {vs vx : Value} {K : PV → Heap → Option Nat → Prop} (hps : RV w ow loc s vs) (hpx : RV w ow loc x vx) (h : appW tt t u s x H K) :
    ∃ q H' kl, K q H' kl ∧ ∃ cv w' ow' loc', (Builtin.append_ #[t, u] ty #[vs, vx]).run P w = .ok cv w' ∧ HS E H' ow' loc' w' ∧ Stable ow w w' ∧ (∀ b, b < w.heap.size → ow' b → ow b) ∧ RV w' ow' loc' q cv ∧ Refs H'.nx q ∧ ∀ get a, FS w ow loc H.nx get a → FS w' ow' loc' H'.nx (killG kl get) a := by
  have hrows := hs.rowsOk
  unfold appW at h
  cases hti : tt t with
  | none => rw [hti] at h; exact h.elim
  | some ti =>
  cases hui : tt u with
  | none => rw [hti, hui] at h; exact h.elim
  | some ui =>
  rw [hti, hui] at h
  obtain ⟨hni, h⟩ := h
  obtain ⟨d, hud, hdi⟩ : ∃ d, P.underlying u = some d ∧ ∀ k, d ≠ .int k := by
    obtain ⟨d, hu, he⟩ := (hT _ _ hui).ex
    refine ⟨d, hu, fun k e => ?_⟩
    subst e
    rw [← he] at hni
    simp [tdOf, notInt] at hni
  cases hd : ti.desc <;> rw [hd] at h <;> try exact h.elim
  rename_i e
  simp only at h
  cases hte : tt e with
  | none => rw [hte] at h; exact h.elim
  | some te =>
  rw [hte] at h
  obtain ⟨hpos, h⟩ := h
  have ht := hT _ _ hti
  have hte' := hT _ _ hte
  -- what the block of the row looks like
  have blkOf : ∀ (Lo : Option RowLoc) (row : Row), RowAt w ow loc Lo row → ∀ L, Lo = some L → ∃ cur e fr, w.heap[L.b]? = some (.cells cur e fr) ∧ cur.size = L.o + L.cap * L.sz ∧ unfrozen fr cur.size := by
    rintro Lo row hat L rfl
    obtain ⟨cur, e, fr, h1, h2, h3, _⟩ := hat
    exact ⟨cur, e, fr, h1, h2, h3⟩
  split at h
  · rename_i k hk
    obtain ⟨h1, h⟩ := h
    -- numbers
    have core : ∀ (b : Option (Nat × Bool)) (Lo : Option RowLoc) (off : Nat) (full : Bool) (len c : Nat) (l : List Int), l.length = len → Base w te.size Lo off full vs len c →
        (match b with | none => Lo = none ∧ full = true | some (r, f) => loc r = some Lo ∧ full = f) →
        (∀ L, Lo = some L → ∃ cur e fr, w.heap[L.b]? = some (.cells cur e fr) ∧ cur.size = L.o + L.cap * L.sz ∧ unfrozen fr cur.size) →
        (∀ L, Lo = some L → ∀ cur e fr, w.heap[L.b]? = some (.cells cur e fr) → ∀ i, i < len * te.size → cur[L.o + off * te.size + i]? = (l.map (Value.int k))[i]?) →
        (srcI H.get k x fun xs => (l.length + xs.length ≤ 9223372036854775807 ∧ (l.length + xs.length) * te.bytes ≤ 140737488355328) ∧ putRes H b (l.length + xs.length) (.ints k (l ++ xs)) K) →
        ∃ q H' kl, K q H' kl ∧ ∃ cv w' ow' loc', (Builtin.append_ #[t, u] ty #[vs, vx]).run P w = .ok cv w' ∧ HS E H' ow' loc' w' ∧ Stable ow w w' ∧ (∀ b, b < w.heap.size → ow' b → ow b) ∧ RV w' ow' loc' q cv ∧ Refs H'.nx q ∧ ∀ get a, FS w ow loc H.nx get a → FS w' ow' loc' H'.nx (killG kl get) a := by
      intro b Lo off full len c l hlen hbase hb hblk hold hsrc
      obtain ⟨xs, ⟨⟨h63, hfit⟩, hput⟩, hsr⟩ := srcI_sound hrows hpx hsrc
      rw [← h1] at hsr
      obtain ⟨cv, w', L', blk, hrun, hc, hbo, hnil, hsome⟩ := app_core (P := P) ht hd hte' hud hdi hpos hbase hblk (olds := l.map (Value.int k)) (by simp [hlen, h1]) hold hsr (by omega) (by rw [hlen] at hfit; exact hfit) ty
      refine app_fin hs (L' := L') (full := full) (row := .ints k (l ++ xs)) hb hrun hc hbo (fun h => by have := hnil h; rw [hlen]; exact this) (fun M hM => ?_) (fun h0 M hM => (hsome M hM).1 h0) ?_ (fun l e => by cases e) hput
      · obtain ⟨_, h2, h3, h4⟩ := hsome M hM
        refine ⟨h2, h3.lt, ?_⟩
        rw [hlen]; exact h4
      · intro ow' loc' hst hb'
        cases L' with
        | none =>
          have := (hnil rfl).1
          have e1 : l = [] := List.eq_nil_of_length_eq_zero (by omega)
          have e2 : xs = [] := List.eq_nil_of_length_eq_zero (by omega)
          subst e1 e2
          exact rfl
        | some M =>
          obtain ⟨_, _, h3, _⟩ := hsome M rfl
          obtain ⟨cur, e', fr, h5, h6, h7, h8⟩ := h3.at_
          refine ⟨cur, e', fr, h5, h6, h7, h3.szs.trans h1, by rw [List.length_append, hlen]; exact h3.cap, fun i hi => ?_⟩
          rw [List.length_append, hlen] at hi
          rw [h8 i (by rw [h1]; omega), ← List.map_append, List.getElem?_map]
          have : i < (l ++ xs).length := by rw [List.length_append]; omega
          simp [List.getD, List.getElem?_eq_getElem this]
    unfold baseI at h
    split at h
    · obtain rfl := rv_nil hps
      exact core none none 0 true 0 0 [] rfl (.nil _ _) ⟨rfl, rfl⟩ (fun L h => by cases h) (fun L h => by cases h) h
    · rename_i r off len full
      cases hrw : H.get r with
      | none => rw [hrw] at h; exact h.elim
      | some row =>
        rw [hrw] at h
        cases row with
        | list => exact h.elim
        | var => exact h.elim
        | ints k' l =>
          obtain ⟨rfl, hle, h⟩ := h
          have hlen : ((l.drop off).take len).length = len := by simp; omega
          obtain ⟨Lo, c, hLo, hat, hbase⟩ := base_of hrows hrw hps te.size (fun L hat => by obtain ⟨_, _, _, _, _, _, hin⟩ := hat; rw [hin.1, h1])
          refine core (some (r, full)) Lo off full len c _ hlen hbase ⟨hLo, rfl⟩ (blkOf Lo _ hat) ?_ h
          rintro L rfl cur e' fr hbk i hi
          obtain ⟨cur', e2, fr', hbk', _, _, hin⟩ := hat
          rw [hbk] at hbk'
          injection hbk' with hbk'
          injection hbk' with hc1
          subst hc1
          rw [h1] at hi ⊢
          rw [Nat.mul_one] at hi ⊢
          rw [Nat.add_assoc, hin.2.2 _ (by omega), List.getElem?_map, List.getElem?_take, if_pos hi, List.getElem?_drop]
          have : off + i < l.length := by omega
          simp [List.getD, List.getElem?_eq_getElem this]
    · exact h.elim
  · -- other elements
    have core : ∀ (b : Option (Nat × Bool)) (Lo : Option RowLoc) (off : Nat) (full : Bool) (len c : Nat) (l : List PV) (va : List Value), l.length = len → Laid w ow te.size l va → Base w te.size Lo off full vs len c →
        (match b with | none => Lo = none ∧ full = true | some (r, f) => loc r = some Lo ∧ full = f) →
        (∀ L, Lo = some L → ∃ cur e fr, w.heap[L.b]? = some (.cells cur e fr) ∧ cur.size = L.o + L.cap * L.sz ∧ unfrozen fr cur.size) →
        (∀ L, Lo = some L → ∀ cur e fr, w.heap[L.b]? = some (.cells cur e fr) → ∀ i, i < len * te.size → cur[L.o + off * te.size + i]? = va[i]?) →
        (srcL H.get te.size x fun xs => (l.length + xs.length ≤ 9223372036854775807 ∧ (l.length + xs.length) * te.bytes ≤ 140737488355328) ∧ putRes H b (l.length + xs.length) (.list te.size (l ++ xs)) K) →
        ∃ q H' kl, K q H' kl ∧ ∃ cv w' ow' loc', (Builtin.append_ #[t, u] ty #[vs, vx]).run P w = .ok cv w' ∧ HS E H' ow' loc' w' ∧ Stable ow w w' ∧ (∀ b, b < w.heap.size → ow' b → ow b) ∧ RV w' ow' loc' q cv ∧ Refs H'.nx q ∧ ∀ get a, FS w ow loc H.nx get a → FS w' ow' loc' H'.nx (killG kl get) a := by
      intro b Lo off full len c l va hlen hlaid hbase hb hblk hold hsrc
      obtain ⟨xs, ⟨⟨h63, hfit⟩, hput⟩, vb, hsr, hlaid2⟩ := srcL_sound hrows hpos hpx hsrc
      obtain ⟨cv, w', L', blk, hrun, hc, hbo, hnil, hsome⟩ := app_core (P := P) ht hd hte' hud hdi hpos hbase hblk (olds := va) (by rw [hlaid.1, hlen]) hold hsr (by omega) (by rw [hlen] at hfit; exact hfit) ty
      refine app_fin hs (L' := L') (full := full) (row := .list te.size (l ++ xs)) hb hrun hc hbo (fun h => by have := hnil h; rw [hlen]; exact this) (fun M hM => ?_) (fun h0 M hM => (hsome M hM).1 h0) ?_ (fun l e => by cases e) hput
      · obtain ⟨_, h2, h3, h4⟩ := hsome M hM
        refine ⟨h2, h3.lt, ?_⟩
        rw [hlen]; exact h4
      · intro ow' loc' hst hb'
        cases L' with
        | none =>
          have := (hnil rfl).1
          have e1 : l = [] := List.eq_nil_of_length_eq_zero (by omega)
          have e2 : xs = [] := List.eq_nil_of_length_eq_zero (by omega)
          subst e1 e2
          exact rfl
        | some M =>
          obtain ⟨_, _, h3, _⟩ := hsome M rfl
          obtain ⟨cur, e', fr, h5, h6, h7, h8⟩ := h3.at_
          obtain ⟨_, hboth⟩ := laid_append hlaid hlaid2
          refine ⟨cur, e', fr, h5, h6, h7, h3.szs, hpos, by rw [List.length_append, hlen]; exact h3.cap, fun i hi => ⟨(hboth i hi).1, fun j hj => ?_⟩⟩
          rw [List.length_append, hlen] at hi
          obtain ⟨u0, hu, h9, h10⟩ := (hboth i (by rw [List.length_append]; omega)).2 j hj
          refine ⟨u0, ?_, h9, h10.mono hst hb'⟩
          rw [← hu]
          refine h8 _ ?_
          have : (i + 1) * te.size ≤ (len + xs.length) * te.size := Nat.mul_le_mul_right _ hi
          rw [Nat.add_mul i, Nat.one_mul] at this
          omega
    unfold baseL at h
    split at h
    · obtain rfl := rv_nil hps
      exact core none none 0 true 0 0 [] [] rfl (Laid.nil _) (.nil _ _) ⟨rfl, rfl⟩ (fun L h => by cases h) (fun L h => by cases h) h
    · rename_i r off len full
      cases hrw : H.get r with
      | none => rw [hrw] at h; exact h.elim
      | some row =>
        rw [hrw] at h
        cases row with
        | ints => exact h.elim
        | var => exact h.elim
        | list sz' l =>
          obtain ⟨rfl, hle, h⟩ := h
          have hlen : ((l.drop off).take len).length = len := by simp; omega
          obtain ⟨Lo, c, hLo, hat, hbase⟩ := base_of hrows hrw hps te.size (fun L hat => by obtain ⟨_, _, _, _, _, _, hin⟩ := hat; exact hin.1)
          have hget : ∀ i, i < len → ((l.drop off).take len).getD i .undef = l.getD (off + i) .undef := fun i hi => by simp [List.getD, hi]
          cases Lo with
          | none =>
            have hl0 : l = [] := hat
            subst hl0
            have hz : len = 0 := by simp at hle; omega
            subst hz
            exact core (some (r, full)) none off full 0 c _ [] hlen (by simpa using Laid.nil te.size) hbase ⟨hLo, rfl⟩ (fun L h => by cases h) (fun L h => by cases h) h
          | some L =>
            obtain ⟨cur, e2, fr, hbk, hcsz, hfr, hs1, _, hlc, hcell⟩ := hat
            have hcur : ∀ i j, i < len → j < te.size → ∃ u, cur[L.o + ((off + i) * te.size + j)]? = some u ∧ u.oneCell' = true ∧ RD w ow ((cellsOf (l.getD (off + i) .undef)).getD j .undef) u := fun i j hi hj => (hcell (off + i) (by omega)).2 j hj
            obtain ⟨va, hlaid, hone, hgv⟩ := laid_of (w := w) (ow := ow) te.size hpos ((l.drop off).take len) (fun i j => cur.getD (L.o + ((off + i) * te.size + j)) undef) (fun i hi => by rw [hlen] at hi; rw [hget i hi]; exact (hcell _ (by omega)).1)
              (fun i j hi hj => by rw [hlen] at hi; obtain ⟨u, h1, h2, _⟩ := hcur i j hi hj; rw [Array.getD_eq_getD_getElem?, h1]; exact h2)
              (fun i j hi hj => by rw [hlen] at hi; obtain ⟨u, h1, _, h3⟩ := hcur i j hi hj; rw [Array.getD_eq_getD_getElem?, h1, hget i hi]; exact h3)
            refine core (some (r, full)) (some L) off full len c _ va hlen hlaid hbase ⟨hLo, rfl⟩ (blkOf (some L) (.list te.size l) ⟨cur, e2, fr, hbk, hcsz, hfr, hs1, hpos, hlc, hcell⟩) ?_ h
            intro L2 hL2 cur' e' fr' hbk' i hi
            injection hL2 with hL2
            subst hL2
            rw [hbk] at hbk'
            injection hbk' with hbk'
            injection hbk' with hc1
            subst hc1
            have hvl : va.length = len * te.size := by rw [hlaid.1, hlen]
            obtain ⟨u0, hu0⟩ : ∃ u0, va[i]? = some u0 := ⟨va[i]'(by omega), List.getElem?_eq_getElem (by omega)⟩
            obtain ⟨h2, h3, he⟩ := hgv i u0 hu0
            rw [hlen] at h2
            obtain ⟨u, h4, _, _⟩ := hcur _ _ h2 h3
            rw [hu0, he, Array.getD_eq_getD_getElem?, h4, Option.getD_some, ← h4]
            congr 1
            have := Nat.div_add_mod i te.size
            rw [Nat.mul_comm] at this
            rw [Nat.add_mul]
            omega
    · exact h.elim
end
end Go.PV

import Derived.Test.YtafdddakkenlaaaWinT
namespace Go.Proofs.Ytafdddakkenlaaa
open Go.RowKit Go.Sort
attribute [local go_sem ↓] field26_0 field26_1

def encBl (B : List Bool) : List Value := B.map Value.bool
/-- The reference's set: its bits, in a row of its own. -/
def isRef (w : World) (base pb : Nat) (B : List Bool) : Prop := ∃ a n c, w.heap[pb]? = some (.cells #[.slice a n c] 55 (0, 0)) ∧ base ≤ pb ∧ w.ownsRow base 4 1 (.slice a n c) B.length (encBl B)
/-- Only the set's own block, and rows of bits, have turned. -/
structure FT (pb : Nat) (w w' : World) : Prop where
  os : w'.os = w.os
  tape : w'.tape = w.tape
  output : w'.output = w.output
  size : w.heap.size ≤ w'.heap.size
  block : ∀ k, k < w.heap.size → k ≠ pb → (∀ c f, w.heap[k]? ≠ some (.cells c 4 f)) → w'.heap[k]? = w.heap[k]?
theorem FT.rfl' {pb : Nat} {w : World} : FT pb w w := ⟨rfl, rfl, rfl, Nat.le_refl _, fun _ _ _ _ => rfl⟩
theorem FT.gr {pb : Nat} {w0 w w1 : World} (h : FT pb w0 w) (hg : Gr w w1) : FT pb w0 w1 :=
  ⟨hg.os.trans h.os, hg.tape.trans h.tape, hg.output.trans h.output, Nat.le_trans h.size hg.size, fun k hk hne ht => (hg.block k (Nat.lt_of_lt_of_le hk h.size)).trans (h.block k hk hne ht)⟩
theorem FT.row {pb g : Nat} {w0 w w1 : World} {cur : Array Value} {f : Nat × Nat} (h : FT pb w0 w) (hg : w.grownBy w1 (some g)) (hb : w.heap[g]? = some (.cells cur 4 f)) : FT pb w0 w1 := by
  refine ⟨hg.os.trans h.os, hg.tape.trans h.tape, hg.output.trans h.output, Nat.le_trans h.size hg.size, fun k hk hne ht => ?_⟩
  have h1 := h.block k hk hne ht
  rw [hg.block k (Nat.lt_of_lt_of_le hk h.size) (fun e => ?_), h1]
  cases e
  exact ht _ _ (h1.symm.trans hb)
theorem FT.nog {pb : Nat} {w0 w w1 : World} (h : FT pb w0 w) (hg : w.grownBy w1 .none) : FT pb w0 w1 :=
  ⟨hg.os.trans h.os, hg.tape.trans h.tape, hg.output.trans h.output, Nat.le_trans h.size hg.size, fun k hk hne ht => (hg.block k (Nat.lt_of_lt_of_le hk h.size) (by simp)).trans (h.block k hk hne ht)⟩
theorem FT.of_gr {pb : Nat} {w w1 w2 : World} (hg : Gr w w1) (h : FT pb w1 w2) : FT pb w w2 :=
  ⟨h.os.trans hg.os, h.tape.trans hg.tape, h.output.trans hg.output, Nat.le_trans hg.size h.size, fun k hk hne ht =>
    (h.block k (Nat.lt_of_lt_of_le hk hg.size) hne (fun c f e => ht c f (by rw [← hg.block k hk]; exact e))).trans (hg.block k hk)⟩
theorem FT.cell {pb : Nat} {w w1 : World} {a : Addr} {v : Value} {cs : Array Value} {ty : TypeId} {f : Nat × Nat} (h : FT pb w w1) (hb : w.heap[a.block]? = some (.cells cs ty f)) (hty : ty ≠ 4) (hne : a.block ≠ pb) (hc : w.cell? a = some v) : w1.cell? a = some v := by
  rw [World.cell?_of_block (h.block a.block (Array.getElem?_eq_some_iff.1 hb).1 hne (fun c f e => by rw [hb] at e; cases e; exact hty rfl)), hc]
def lenAt (w : World) (pb : Nat) : Nat := match w.cell? ⟨pb, 0, none⟩ with | some (.slice _ n _) => n | _ => 0
theorem FT.set {pb : Nat} {w0 w : World} {o : Nat} {v : Value} (h : FT pb w0 w) : FT pb w0 (w.setCell ⟨pb, o, none⟩ v) :=
  ⟨h.os, h.tape, h.output, by simpa [World.setCell] using h.size, fun k hk hne ht => (Below.heap_setCell _ _ _ _ hne).trans (h.block k hk hne ht)⟩
theorem isRef.cell {w : World} {base pb : Nat} {B : List Bool} (h : isRef w base pb B) : ∃ a c, w.cell? ⟨pb, 0, none⟩ = some (.slice a B.length c) ∧ w.ownsRow base 4 1 (.slice a B.length c) B.length (encBl B) ∧ w.frozen? ⟨pb, 0, none⟩ = false ∧ pb < w.heap.size := by
  obtain ⟨a, n, c, h, _, hr⟩ := h
  obtain ⟨a', c', e⟩ := own_slice hr
  cases e
  exact ⟨a, c, by rw [cell_of_row w pb 0 _ _ _ h]; rfl, hr, by simp [World.frozen?, h], (Array.getElem?_eq_some_iff.1 h).1⟩
theorem isRef.gr {w w1 : World} {base pb : Nat} {B : List Bool} (h : isRef w base pb B) (hg : Gr w w1) : isRef w1 base pb B := by
  obtain ⟨a, n, c, h, hb, hr⟩ := h
  exact ⟨a, n, c, (hg.block pb (Array.getElem?_eq_some_iff.1 h).1).trans h, hb, own_gr hr hg⟩
/-- A set of the program's is written beside it. -/
theorem isRef.gb {w w1 : World} {base pa pb : Nat} {B : List Bool} {l : List Sp} (h : isRef w base pb B) (h2 : isSet w pa l) (hg : w.grownBy w1 (some pa)) (hne : pa ≠ pb) : isRef w1 base pb B := by
  obtain ⟨a, n, c, h1, hb, hr⟩ := h
  obtain ⟨a2, n2, c2, h3, _⟩ := h2
  refine ⟨a, n, c, by rw [hg.block pb (Array.getElem?_eq_some_iff.1 h1).1 (fun e => hne (Option.some.inj e).symm), h1], hb, hr.kept hg ?_⟩
  rcases hr.2 with ⟨e, _⟩ | ⟨g, cap, cur, e, _, hgb, _⟩
  · left; rw [e]; rfl
  · right; rw [e]; intro e2
    have : g = pa := Option.some.inj e2
    subst this
    rw [h3] at hgb
    simp at hgb
theorem isSet.ft {w w1 : World} {base pa pb : Nat} {B : List Bool} {l : List Sp} (h : isSet w pa l) (h2 : isRef w base pb B) (hf : FT pb w w1) (hne : pa ≠ pb) : isSet w1 pa l := by
  obtain ⟨a, n, c, h1, hr⟩ := h
  obtain ⟨a2, n2, c2, h3, _⟩ := h2
  refine ⟨a, n, c, by rw [hf.block pa (Array.getElem?_eq_some_iff.1 h1).1 hne (fun c f e => by rw [h1] at e; simp at e), h1], hr.1, ?_⟩
  rcases hr.2 with h5 | ⟨g, cap, cur, e, hb, hgb, r⟩
  · exact .inl h5
  · refine .inr ⟨g, cap, cur, e, hb, ?_, r⟩
    rw [hf.block g (Array.getElem?_eq_some_iff.1 hgb).1 (fun e => by subst e; rw [h3] at hgb; simp at hgb) (fun c f e => by rw [hgb] at e; simp at e), hgb]

theorem gb_setCell (w : World) (pb : Nat) (u : Value) : w.grownBy (w.setCell ⟨pb, 0, none⟩ u) (some pb) :=
  ⟨rfl, rfl, rfl, by simp [World.setCell], fun k _ hne => Below.heap_setCell _ _ _ _ (fun e => hne (by rw [e]))⟩
theorem own_ne_ref {w : World} {base pb n : Nat} {v : Value} {xs : List Value} {c : Array Value} {f : Nat × Nat} (hr : w.ownsRow base 4 1 v n xs) (hb : w.heap[pb]? = some (.cells c 55 f)) : v.ownBlock ≠ some pb := by
  intro e
  rcases hr.2 with ⟨h, _⟩ | ⟨g, cap, cur, h, _, hg, _⟩
  · rw [h] at e; cases e
  · rw [h] at e; cases e; rw [hb] at hg; simp at hg
theorem isRef_mk {w : World} {base pb n c : Nat} {a : Option Addr} {B : List Bool} {x : Value} (hb : w.heap[pb]? = some (.cells #[x] 55 (0, 0))) (hbase : base ≤ pb) (ho : w.ownsRow base 4 1 (.slice a n c) B.length (encBl B)) :
    isRef (w.setCell ⟨pb, 0, none⟩ (.slice a n c)) base pb B := by
  refine ⟨a, n, c, ?_, hbase, ho.kept (gb_setCell w pb _) (.inr (own_ne_ref ho hb))⟩
  rw [heap_setCell_same w pb 0 _ _ _ hb]; rfl
theorem isRef.heap {w : World} {base pb : Nat} {B : List Bool} (h : isRef w base pb B) : base ≤ pb ∧ ∃ x, w.heap[pb]? = some (.cells #[x] 55 (0, 0)) := by
  obtain ⟨a, n, c, h, hb, _⟩ := h; exact ⟨hb, _, h⟩
/-- A row of bits of the call's own has been appended to. -/
theorem FT.own {pb base n : Nat} {w0 w w1 : World} {v : Value} {xs : List Value} (h : FT pb w0 w) (ho : w.ownsRow base 4 1 v n xs) (hg : w.grownBy w1 v.ownBlock) : FT pb w0 w1 := by
  rcases ho.2 with ⟨e, _⟩ | ⟨g, cap, cur, e, _, hb, _⟩
  · rw [e] at hg; exact h.nog hg
  · rw [e] at hg; exact h.row hg hb

set_option maxHeartbeats 400000 in
theorem is_calls (a b : Int) (w : World) :
    Calls Try.prog 24 #[.agg #[.int .i64 a, .int .i64 b]] w fun e w' => e = .returned (.bool (decide (wCheck (a, b) = 0))) ∧ Gr w w' := by
  have Hr := Lib.hid (show (decide (0 ≤ a) && decide (a ≤ b) && decide (b ≤ 1099511627777)) = decide (wCheck (a, b) = 0) by
    rw [Bool.eq_iff_iff]; simp only [Bool.and_eq_true, decide_eq_true_eq, wCheck_0, and_assoc])
  by_cases h1 : 0 ≤ a
  · by_cases h2 : a ≤ b
    · have Hq := Lib.hid (show decide (b ≤ 1099511627777) = decide (wCheck (a, b) = 0) by rw [← Hr.out]; simp [h1, h2])
      go_enter Try.func24, Try.ntmps24
      go_wp2
      go_ret; exact ⟨ret_b rfl Hq.out, by (repeat (first | exact Gr.rfl' | refine Gr.al ?_ _ | refine Gr.dr ?_ | refine Gr.drN ?_ | refine Gr.sc ?_ (by simp <;> omega) _ | refine Gr.tr ?_ (by assumption)))⟩
    · have Hq := Lib.hid (show false = decide (wCheck (a, b) = 0) by rw [← Hr.out]; simp [h2])
      go_enter Try.func24, Try.ntmps24
      go_wp2
      go_ret; exact ⟨ret_b rfl Hq.out, by (repeat (first | exact Gr.rfl' | refine Gr.al ?_ _ | refine Gr.dr ?_ | refine Gr.drN ?_ | refine Gr.sc ?_ (by simp <;> omega) _ | refine Gr.tr ?_ (by assumption)))⟩
  · have Hq := Lib.hid (show false = decide (wCheck (a, b) = 0) by rw [← Hr.out]; simp [h1])
    go_enter Try.func24, Try.ntmps24
    go_wp2
    go_ret; exact ⟨ret_b rfl Hq.out, by (repeat (first | exact Gr.rfl' | refine Gr.al ?_ _ | refine Gr.dr ?_ | refine Gr.drN ?_ | refine Gr.sc ?_ (by simp <;> omega) _ | refine Gr.tr ?_ (by assumption)))⟩

def gB (B : List Bool) (t : Nat) : Bool := B.getD t false
theorem info4 : (Try.prog.info? 4).map (fun i => (i.zero, i.size, i.bytes)) = some (some (.bool false), 1, 1) := by kernel_rfl

set_option maxRecDepth 100000 in
set_option maxHeartbeats 2000000 in
theorem mark_not {pv : Value} {c d : Int} {i : Bool} {w : World} (hs : wCheck (c, d) ≠ 0) :
    Calls Try.prog 36 #[pv, .agg #[.int .i64 c, .int .i64 d], .bool i] w fun e w' => e = .returned (.bool false) ∧ Gr w w' := by
  have h1 : decide (wCheck (c, d) = 0) = false := by simp [hs]
  clear hs
  go_enter Try.func36, Try.ntmps36
  go_wp2_with (go_at_call 24; refine (is_calls _ _ _).mono ?_; rintro e w1 ⟨rfl, hb⟩; obtain ⟨hc, hf⟩ := bcell hb; have hz := hb.size; (try simp at hz); have z0 : w.heap.size < w1.heap.size := (by omega))
  go_loop [8, 9] (fun u v => u = .bool false ∧ v = .int .i64 c) (fun _ _ => 0)
  case atStart => exact ⟨rfl, rfl⟩
  case round =>
    obtain ⟨rfl, rfl⟩ := hrel
    go_wp2_with fail
    go_ret; exact ⟨ret_b rfl rfl, by (repeat (first | exact Gr.rfl' | refine Gr.al ?_ _ | refine Gr.dr ?_ | refine Gr.drN ?_ | refine Gr.sc ?_ (by simp <;> omega) _ | refine Gr.tr ?_ (by assumption)))⟩

theorem gB_snoc (B : List Bool) (t : Nat) : gB (B ++ [false]) t = gB B t := by
  unfold gB List.getD
  by_cases h : t < B.length
  · rw [List.getElem?_append_left h]
  · rw [List.getElem?_append_right (by omega), List.getElem?_eq_none (by omega : B.length ≤ t)]
    cases h2 : t - B.length <;> simp
theorem gB_set (B : List Bool) (t t' : Nat) (i : Bool) (h : t < B.length) : gB (B.set t i) t' = if t' = t then i else gB B t' := by
  unfold gB List.getD
  by_cases e : t' = t
  · subst e; rw [if_pos rfl, List.getElem?_set_self h]; rfl
  · rw [if_neg e, List.getElem?_set_ne (fun h => e h.symm)]
theorem gB_get (B : List Bool) (t : Nat) (h : t < B.length) : gB B t = B[t] := by unfold gB List.getD; rw [List.getElem?_eq_getElem h]; rfl
theorem mark_same {B B1 B3 : List Bool} {c t : Nat} {i r : Bool} (hct : c ≤ t) (hr : r = true ↔ ∃ t' : Nat, c ≤ t' ∧ t' < t ∧ gB B t' ≠ i) (h1 : ∀ t' : Nat, gB B1 t' = if c ≤ t' ∧ t' < t then i else gB B t') (h3 : ∀ t', gB B3 t' = gB B1 t') (hb : gB B3 t = i) :
    (r = true ↔ ∃ t' : Nat, c ≤ t' ∧ t' < t + 1 ∧ gB B t' ≠ i) ∧ ∀ t' : Nat, gB B3 t' = if c ≤ t' ∧ t' < t + 1 then i else gB B t' := by
  have ht : gB B t = i := by have := h1 t; rw [if_neg (by omega)] at this; rw [← this, ← h3 t, hb]
  refine ⟨hr.trans ⟨fun ⟨t', a, b, c⟩ => ⟨t', a, by omega, c⟩, fun ⟨t', a, b, c⟩ => ⟨t', a, ?_, c⟩⟩, fun t' => ?_⟩
  · rcases Nat.lt_or_ge t' t with h | h
    · exact h
    · exact absurd (by rw [show t' = t by omega]; exact ht) c
  · rw [h3 t', h1 t']
    by_cases e : t' = t
    · subst e; rw [if_neg (by omega), if_pos (by omega), ht]
    · by_cases h : c ≤ t' ∧ t' < t
      · rw [if_pos h, if_pos (by omega)]
      · rw [if_neg h, if_neg (by omega)]
theorem mark_turn {B B1 B3 : List Bool} {c t : Nat} {i : Bool} (hct : c ≤ t) (h1 : ∀ t' : Nat, gB B1 t' = if c ≤ t' ∧ t' < t then i else gB B t') (h3 : ∀ t', gB B3 t' = gB B1 t') (hl : t < B3.length) (hb : gB B3 t ≠ i) :
    (true = true ↔ ∃ t' : Nat, c ≤ t' ∧ t' < t + 1 ∧ gB B t' ≠ i) ∧ ∀ t' : Nat, gB (B3.set t i) t' = if c ≤ t' ∧ t' < t + 1 then i else gB B t' := by
  have ht : gB B t ≠ i := by have := h1 t; rw [if_neg (by omega)] at this; rw [← this, ← h3 t]; exact hb
  refine ⟨⟨fun _ => ⟨t, hct, by omega, ht⟩, fun _ => rfl⟩, fun t' => ?_⟩
  rw [gB_set _ _ _ _ hl]
  by_cases e : t' = t
  · subst e; rw [if_pos rfl, if_pos (by omega)]
  · rw [if_neg e, h3 t', h1 t']
    by_cases h : c ≤ t' ∧ t' < t
    · rw [if_pos h, if_pos (by omega)]
    · rw [if_neg h, if_neg (by omega)]

def MarkPost (base pb : Nat) (B : List Bool) (c d : Int) (i : Bool) (w : World) (e : Ending) (w' : World) : Prop :=
  ∃ (B2 : List Bool) (r : Bool), e = .returned (.bool r) ∧ (r = true ↔ ∃ t : Nat, c ≤ t ∧ (t : Int) < d ∧ gB B t ≠ i) ∧ isRef w' base pb B2 ∧ (∀ t : Nat, gB B2 t = if c ≤ t ∧ (t : Int) < d then i else gB B t) ∧ B2.length ≤ 1000 ∧ Below base w w' ∧ FT pb w w'
set_option maxRecDepth 100000 in
set_option maxHeartbeats 2000000 in
theorem mark_calls {base pb : Nat} {B : List Bool} {c d : Int} {i : Bool} {w : World} (h : isRef w base pb B) (hs : wCheck (c, d) = 0) (hd : d ≤ 1000) (hB : B.length ≤ 1000) (hbw : base ≤ w.heap.size) :
    Calls Try.prog 36 #[.pointer (some ⟨pb, 0, none⟩), .agg #[.int .i64 c, .int .i64 d], .bool i] w (MarkPost base pb B c d i w) := by
  have h1 : decide (wCheck (c, d) = 0) = true := by simp [hs]
  have hcd := wCheck_0.1 hs
  clear hs
  obtain ⟨i0, hi, hz0, hz1, hz2⟩ := info_parts info4
  obtain ⟨c, rfl⟩ := Int.eq_ofNat_of_zero_le hcd.1
  obtain ⟨d, rfl⟩ := Int.eq_ofNat_of_zero_le (show 0 ≤ d by omega)
  have hpl := h.cell
  obtain ⟨_, _, _, _, _, hpl⟩ := hpl
  have Href := Lib.hid h; clear h
  go_enter Try.func36, Try.ntmps36
  go_wp2_with (go_at_call 24; refine (is_calls _ _ _).mono ?_; rintro e w1 ⟨rfl, hb⟩; obtain ⟨hc, hf⟩ := bcell hb; have hz := hb.size; (try simp at hz); have z0 : w.heap.size < w1.heap.size := (by omega))
  have hW1 : w1.heap[w.heap.size]? = some (.cells #[.int .i64 (c : Int), .int .i64 (d : Int)] 26 (0, 0)) := (hb.block w.heap.size (by simp)).trans (heap_alloc_new w _)
  have x0 : w1.cell? ⟨w.heap.size, 0, none⟩ = some (.int .i64 (c : Int)) := keepc hb (by simp)
  have x1 : w1.cell? ⟨w.heap.size, 1, none⟩ = some (.int .i64 (d : Int)) := keepc hb (by simp)
  have hG1 : Gr w w1 := by (repeat (first | exact Gr.rfl' | refine Gr.al ?_ _ | refine Gr.dr ?_ | refine Gr.drN ?_ | refine Gr.sc ?_ (by simp <;> omega) _ | refine Gr.tr ?_ (by assumption)))
  have hne : w.heap.size ≠ pb := by omega
  have Href1 := Lib.hid (Href.out.gr hG1)
  have hbw1 : base ≤ w1.heap.size := Nat.le_trans hbw hG1.size
  clear hb hc hf hz z0 Href
  go_loopw [8, 9] (fun u v wr => ∃ (t : Nat) (B1 : List Bool) (r : Bool), v = .int .i64 (t : Int) ∧ u = .bool r ∧ c ≤ t ∧ t ≤ d ∧ (r = true ↔ ∃ t' : Nat, c ≤ t' ∧ t' < t ∧ gB B t' ≠ i) ∧ isRef wr base pb B1 ∧ (∀ t' : Nat, gB B1 t' = if c ≤ t' ∧ t' < t then i else gB B t') ∧ B1.length ≤ 1000 ∧ Below base w1 wr ∧ FT pb w1 wr) (fun _ v _ => d - (intOf v).toNat)
  case atStart => exact ⟨c, B, false, rfl, rfl, Nat.le_refl _, by omega, by simp; omega, Href1.out, fun t' => by rw [if_neg (by omega)], hB, Below.refl _ _, FT.rfl'⟩
  case round =>
    obtain ⟨t, B1, r, rfl, rfl, hct, htd, hr, href, hgb, hB1, hbl, hft⟩ := hrel
    obtain ⟨wo, rfl⟩ : ∃ wo : World, wo = wr := ⟨_, rfl⟩
    have y0 := hft.cell hW1 (by decide) hne x0
    have y1 := hft.cell hW1 (by decide) hne x1
    have Hr := Lib.hid hr; have Hgb := Lib.hid hgb; have Hrefr := Lib.hid href
    clear hr hgb href Href1
    have hsz := hft.size
    by_cases hlt : t < d
    · have ht1 : (t : Int) < (d : Int) := by omega
      go_wp2_with fail
      go_loopw [29] (fun _ wi => ∃ B3 : List Bool, isRef wi base pb B3 ∧ (∀ t' : Nat, gB B3 t' = gB B1 t') ∧ B3.length ≤ 1000 ∧ Below base w1 wi ∧ FT pb w1 wi) (fun _ wi => t + 1 - lenAt wi pb)
      case atStart => exact ⟨B1, Hrefr.out, fun _ => rfl, hB1, hbl, hft⟩
      case round =>
        obtain ⟨B3, href3, hgb3, hB3, hbl3, hft3⟩ := hrel
        obtain ⟨a3, c3, hc3, hown3, hf3, hpl3⟩ := href3.cell
        have Hgb3 := Lib.hid hgb3; have Href3 := Lib.hid href3; have Hown3 := Lib.hid hown3
        clear hgb3 href3 hown3 Hrefr hbl
        by_cases hle : B3.length ≤ t
        · have hle1 : (B3.length : Int) ≤ (t : Int) := by omega
          obtain ⟨hbp, xv, hxv⟩ := Href3.out.heap
          have hown3a := Hown3.out.alloc (.cells #[.bool false] 4)
          have hneb := own_ne_ref Hown3.out hxv
          have Hown3a := Lib.hid hown3a; have Hxv := Lib.hid hxv; have Hneb := Lib.hid hneb
          have hc3a := keepc (Gr.al Gr.rfl' (.cells #[.bool false] 4)) hc3
          have hbi : base ≤ wr.heap.size := Nat.le_trans hbw1 hft3.size
          clear hown3a hxv hneb
          go_wp2_with (at_builtin; refine wpList_append_own _ rfl _ _ 53 rfl base 4 i0 _ 1 1 Try.underlying53 hi hz0 hz1 hz2 rfl (by decide) _ _ _ rfl Hown3a.out ⟨wr.heap.size, 0, none⟩ 1 1 [.bool false] rfl rfl (World.news_of_block (heap_alloc_new wr _)) (by intro u hu; simp only [List.mem_cons, List.not_mem_nil, or_false] at hu; rcases hu with rfl; rfl) (by unfold maxLen; omega) (by omega) (by simp; omega) ?_; intro v4 w4 hown4 hgrow4 _; obtain ⟨a4, c4, hv4⟩ := own_slice hown4; subst hv4; have hc4 := hgrow4.cell hc3a (fun e => Hneb.out e.symm); have hb4 := (hgrow4.block pb (by simp; omega) (fun e => Hneb.out e.symm)).trans ((Below.heap_alloc wr (.cells #[.bool false] 4) pb hpl3).trans Hxv.out); have hf4 : w4.frozen? ⟨pb, 0, none⟩ = false := (by simp [World.frozen?, hb4]); have Hb4 := Lib.hid hb4; have Hown4 := Lib.hid hown4; clear hb4 hown4)
          have hlen1 : lenAt wr pb = B3.length := by simp [lenAt, hc3]
          have hlen2 : lenAt (w4.setCell ⟨pb, 0, none⟩ (.slice a4 (B3.length + 1) c4)) pb = B3.length + 1 := by
            unfold lenAt; rw [World.cell?_setCell_same _ _ _ hc4]
          exact ⟨⟨B3 ++ [false], isRef_mk Hb4.out hbp (own_cast Hown4.out (by simp) (by simp [encBl])), fun t' => by rw [gB_snoc, Hgb3.out t'], by simp; omega, ((hbl3.alloc hbi _).grown hgrow4 (by simp; omega) (fun k hk => (Hown3a.out.lt k hk).1)).setCell hbp _, FT.set (FT.own (hft3.gr (Gr.al Gr.rfl' _)) Hown3a.out hgrow4)⟩, by rw [hlen1, hlen2]; omega⟩
        · have hle1 : ¬ (B3.length : Int) ≤ (t : Int) := by omega
          have hlt3 : t < B3.length := by omega
          obtain ⟨g3, c3', ha3, hg3b, hg3⟩ := own_at Hown3.out (by omega)
          cases ha3
          have hct3 : wr.cell? ⟨g3, t, none⟩ = some (.bool B3[t]) := by
            rw [Hown3.out.cellAt t (by omega)]; simp [encBl, hlt3]
          have hft3' : wr.frozen? ⟨g3, t, none⟩ = false := Hown3.out.frozenAt t
          have hbt := gB_get B3 t hlt3
          generalize B3[t] = b at hct3 hbt
          have Hbt := Lib.hid hbt; clear hbt
          obtain ⟨hbp, xv, hxv⟩ := Href3.out.heap
          have Hxv := Lib.hid hxv; clear hxv
          have hi0 : (0 : Int) ≤ (t : Int) := by omega
          have hi1 : (t : Int) < (B3.length : Int) := by omega
          by_cases hbi : b = i
          · have Hms := Lib.hid (mark_same hct Hr.out Hgb.out Hgb3.out (by rw [Hbt.out]; exact hbi))
            subst hbi
            cases b
            all_goals
              go_wp2_with fail
              go_roundw
              case rel => exact ⟨t + 1, B3, r, by go_num, rfl, by omega, by omega, Hms.out.1, Href3.out, Hms.out.2, hB3, hbl3, hft3⟩
              case measure => simp [intOf]; omega
          · have Hms := Lib.hid (mark_turn hct Hgb.out Hgb3.out hlt3 (by rw [Hbt.out]; exact hbi))
            have hst := Hown3.out.stored t (.bool i)
            have hown5 : (wr.setCell ⟨g3, t, none⟩ (.bool i)).ownsRow base 4 1 (.slice (some ⟨g3, 0, none⟩) B3.length c3) (B3.set t i).length (encBl (B3.set t i)) := own_cast hst.1 (by simp) (by simp [encBl, List.map_set])
            have hb5 : (wr.setCell ⟨g3, t, none⟩ (.bool i)).heap[pb]? = some (.cells #[.slice (some ⟨g3, 0, none⟩) B3.length c3] 55 (0, 0)) := by
              have hx : xv = .slice (some ⟨g3, 0, none⟩) B3.length c3 := by
                have := hc3
                rw [cell_of_row wr pb 0 _ _ _ Hxv.out] at this
                exact Option.some.inj this
              rw [Below.heap_setCell wr ⟨g3, t, none⟩ (.bool i) pb (fun e => own_ne_ref Hown3.out Hxv.out (congrArg some e.symm)), Hxv.out, hx]
            have Href5 := Lib.hid (show isRef (wr.setCell ⟨g3, t, none⟩ (.bool i)) base pb (B3.set t i) from ⟨_, _, _, hb5, hbp, hown5⟩)
            have Hbl5 := Lib.hid (hbl3.setCell (p := ⟨g3, t, none⟩) hg3b (.bool i))
            have Hft5 := Lib.hid (FT.own hft3 Hown3.out hst.2)
            clear hst hown5 hb5
            cases b <;> cases i <;> first
              | (exact absurd rfl hbi)
              | (clear hbi
                 go_wp2_with fail
                 go_roundw
                 case rel => exact ⟨t + 1, _, true, by go_num, rfl, by omega, by omega, Hms.out.1, Href5.out, Hms.out.2, by simpa using hB3, Hbl5.out, Hft5.out⟩
                 case measure => simp [intOf]; omega)
    · have ht1 : ¬ (t : Int) < (d : Int) := by omega
      obtain rfl : t = d := by omega
      go_wp2_with fail
      go_ret
      unfold MarkPost
      exact ⟨B1, r, rfl, by rw [Hr.out]; constructor <;> (rintro ⟨t', h1, h2, h3⟩; exact ⟨t', by omega, by omega, h3⟩), Hrefr.out, fun t' => by rw [Hgb.out t']; simp, hB1, (hG1.mono hbw).trans hbl, FT.of_gr hG1 hft⟩

/-- The reference's spans, bit by bit. -/
def spStep (B : List Bool) (M : List Sp) (t : Nat) : List Sp :=
  if gB B t then (match M.getLast? with | some x => if x.2 = (t : Int) then M.dropLast ++ [(x.1, (t : Int) + 1)] else M ++ [((t : Int), (t : Int) + 1)] | none => [((t : Int), (t : Int) + 1)]) else M
def spansB (B : List Bool) (n : Nat) : List Sp := (List.range n).foldl (spStep B) []
theorem spansB_succ (B : List Bool) (n : Nat) : spansB B (n + 1) = spStep B (spansB B n) n := by unfold spansB; rw [List.range_succ, List.foldl_append]; rfl
theorem spStep_cat {B : List Bool} {M : List Sp} {a b : Int} {t : Nat} (h : gB B t = true) : spStep B (M.concat (a, b)) t = if b = (t : Int) then M ++ [(a, (t : Int) + 1)] else M ++ [(a, b)] ++ [((t : Int), (t : Int) + 1)] := by
  unfold spStep; rw [if_pos h, List.concat_eq_append, List.getLast?_concat]; simp only [List.dropLast_concat]
theorem spStep_len (B : List Bool) (M : List Sp) (t : Nat) : (spStep B M t).length ≤ M.length + 1 := by
  unfold spStep; split
  · split
    · split
      · simp
      · simp
    · simp
  · omega
theorem spansB_len (B : List Bool) (n : Nat) : (spansB B n).length ≤ n := by
  induction n with
  | zero => simp [spansB]
  | succ n ih => rw [spansB_succ]; have := spStep_len B (spansB B n) n; omega
theorem spansB_norm (B : List Bool) (n : Nat) (hn : n ≤ 1000) : Norm (spansB B n) ∧ (∀ t : Int, memS (spansB B n) t ↔ 0 ≤ t ∧ t < n ∧ gB B t.toNat = true) ∧ ∀ x ∈ spansB B n, x.2 ≤ (n : Int) := by
  induction n with
  | zero => exact ⟨⟨by simp [spansB], by simp [spansB]⟩, fun t => by simp [spansB, memS]; omega, by simp [spansB]⟩
  | succ n ih =>
    obtain ⟨h1, h2, h3⟩ := ih (by omega)
    rw [spansB_succ]
    cases hb : gB B n
    · have e : spStep B (spansB B n) n = spansB B n := by unfold spStep; rw [hb]; simp
      rw [e]
      refine ⟨h1, fun t => ?_, fun x hx => by have := h3 x hx; omega⟩
      rw [h2 t]
      constructor
      · rintro ⟨a, b, c⟩; exact ⟨a, by omega, c⟩
      · rintro ⟨a, b, c⟩
        refine ⟨a, ?_, c⟩
        rcases Int.lt_or_le t n with h | h
        · exact h
        · have e2 : t.toNat = n := by omega
          rw [e2, hb] at c; cases c
    · have hs : spStep B (spansB B n) n = mgStep (spansB B n) ((n : Int), (n : Int) + 1) := by
        unfold spStep mgStep; rw [if_pos hb]; rfl
      obtain ⟨g1, g2⟩ := mg_all [((n : Int), (n : Int) + 1)] (spansB B n) h1 ⟨by simp, by intro x hx; simp at hx; subst hx; unfold okP; simp only; omega⟩ (by
        intro x hx y hy; simp at hy; subst hy; exact h3 x hx)
      simp only [List.foldl_cons, List.foldl_nil] at g1 g2
      rw [hs]
      refine ⟨g1, fun t => ?_, ?_⟩
      · rw [g2 t, h2 t, memS_cons]
        have hn := memS_nil t
        simp only [hn, or_false]
        constructor
        · rintro (⟨a, b, c⟩ | ⟨a, b⟩)
          · exact ⟨a, by omega, c⟩
          · exact ⟨by omega, by omega, by rw [show t.toNat = n by omega]; exact hb⟩
        · rintro ⟨a, b, c⟩
          rcases Int.lt_or_le t n with h | h
          · exact .inl ⟨a, h, c⟩
          · exact .inr ⟨h, by omega⟩
      · intro x hx
        rcases Int.lt_or_le (n + 1) x.2 with h | h
        · exfalso
          have hx2 := g1.2 x hx
          unfold okP at hx2
          have : memS (mgStep (spansB B n) ((n : Int), (n : Int) + 1)) (x.2 - 1) := ⟨x, hx, by omega, by omega⟩
          rw [g2, h2, memS_cons] at this
          have hn := memS_nil (x.2 - 1)
          simp only [hn, or_false] at this
          omega
        · push_cast; exact h

set_option maxRecDepth 100000 in
set_option maxHeartbeats 2000000 in
theorem rspans_calls {base pb : Nat} {B : List Bool} {w : World} (h : isRef w base pb B) (hB : B.length ≤ 1000) :
    Calls Try.prog 38 #[.pointer (some ⟨pb, 0, none⟩)] w fun e w' => ∃ v', e = .returned v' ∧ w'.ownsRow w.heap.size 26 2 v' (spansB B B.length).length (encS (spansB B B.length)) ∧ Gr w w' := by
  obtain ⟨a0, c0, hc0, hown0, hf0, hpl0⟩ := h.cell
  have Hown0 := Lib.hid hown0; clear hown0 h
  obtain ⟨i0, hi, hz0, hz1, hz2⟩ := info_parts info26
  go_enter Try.func38, Try.ntmps38
  go_wp2_with fail
  go_loopw [3, 4] (fun u i wr => ∃ t : Nat, t ≤ B.length ∧ i = .int .i64 (t : Int) ∧ wr.ownsRow w.heap.size 26 2 u (spansB B t).length (encS (spansB B t)) ∧ Gr w wr) (fun _ i _ => B.length - (intOf i).toNat)
  case atStart => exact ⟨0, Nat.zero_le _, rfl, World.ownsRow_nil _ _ _ _, Gr.rfl'⟩
  case round =>
    obtain ⟨t, htB, rfl, hownr, hg⟩ := hrel
    have hcr := keepc hg hc0
    have hgs := hg.size
    by_cases hlt : t < B.length
    · have hlt2 : (t : Int) < (B.length : Int) := by omega
      obtain ⟨g0, c0', ha0, hg0b, hg0⟩ := own_at Hown0.out (by omega)
      cases ha0
      have hbt : wr.cell? ⟨g0, t, none⟩ = some (.bool (gB B t)) := by
        refine keepc hg ?_
        rw [Hown0.out.cellAt t (by omega), gB_get B t hlt]; simp [encBl, hlt]
      have hs := spansB_succ B t
      have hl := spansB_len B t
      have Hs := Lib.hid hs; clear hs
      generalize hM : spansB B t = M at *
      clear hM
      clear hc0
      cases hb : gB B t
      · rw [hb] at hbt
        have Hs2 := Lib.hid (show spansB B (t + 1) = M by rw [Hs.out]; unfold spStep; rw [hb]; rfl)
        have Hownr := Lib.hid hownr; clear hownr hb
        go_wp2_with fail
        go_roundw
        case rel => exact ⟨t + 1, by omega, by go_num, by rw [Hs2.out]; exact Hownr.out, hg⟩
        case measure => simp [intOf]; omega
      · rw [hb] at hbt
        have Hb := Lib.hid hb; clear hb
        rcases List.eq_nil_or_concat M with hM | ⟨M0, y, hM⟩
        · subst hM
          have Hs2 := Lib.hid (show spansB B (t + 1) = [((t : Int), (t : Int) + 1)] by rw [Hs.out]; unfold spStep; rw [if_pos Hb.out]; rfl)
          have hr3 := fun k hk => (hownr.lt k hk).1
          obtain ⟨a, c1, hu⟩ := own_slice hownr
          subst hu
          go_wp2_with (at_builtin; refine wpList_append_own _ rfl _ _ 37 rfl w.heap.size 26 i0 _ 2 16 Try.underlying37 hi hz0 hz1 hz2 rfl (by decide) _ _ _ rfl (hownr.alloc _) ⟨wr.heap.size, 0, none⟩ 1 1 [.int .i64 (t : Int), .int .i64 ((t : Int) + 1)] rfl rfl (World.news_of_block (heap_alloc_new wr _)) (by intro u hu; simp only [List.mem_cons, List.not_mem_nil, or_false] at hu; rcases hu with rfl | rfl <;> rfl) (by unfold maxLen; omega) (by omega) (by simp; omega) ?_; intro v3 w3 hown3 hgrow3 _)
          go_roundw
          case rel => exact ⟨t + 1, by omega, by go_num, own_cast hown3 (by rw [Hs2.out]; rfl) (by rw [Hs2.out]; rfl), gr_gb (by (repeat (first | exact Gr.rfl' | refine Gr.al ?_ _ | refine Gr.dr ?_ | refine Gr.drN ?_ | refine Gr.sc ?_ (by simp <;> omega) _ | refine Gr.tr ?_ (by assumption)))) hgrow3 hr3⟩
          case measure => simp [intOf]; omega
        · obtain ⟨y1, y2⟩ := y
          obtain ⟨m, hm⟩ : ∃ m, M0.length = m := ⟨_, rfl⟩
          have hown' : wr.ownsRow w.heap.size 26 2 _ (m + 1) (encS M0 ++ [.int .i64 y1, .int .i64 y2]) := own_cast hownr (by rw [hM]; simp [hm]) (by rw [hM, List.concat_eq_append, encS_append]; rfl)
          have hmm : m + 1 ≤ 1000 := by rw [hM] at hl; simp at hl; omega
          obtain ⟨g2, c2, hu, hg2b, hg2⟩ := own_at hown' (by omega)
          subst hu
          have hel : (encS M0).length = m * 2 := by rw [encS_len, hm]
          have cY : wr.cell? ⟨g2, m * 2 + 1, none⟩ = some (.int .i64 y2) := (hown'.cellAt (m * 2 + 1) (by omega)).trans (by rw [List.getElem?_append_right (by omega), hel]; simp)
          have fY : wr.frozen? ⟨g2, m * 2 + 1, none⟩ = false := hown'.frozenAt _
          have hr3 := fun k hk => (hown'.lt k hk).1
          have hgt : (0 : Int) < (m : Int) + 1 := by omega
          have HM := Lib.hid hM
          have Hm := Lib.hid hm
          have Hown := Lib.hid hown'
          clear hM hm hel hownr hown' hl
          by_cases hyp : y2 = (t : Int)
          · have hb1 : (y2 == (t : Int)) = true := by simp [hyp]
            have Hyp := Lib.hid hyp
            clear hyp
            go_wp2_with fail
            have hst := (Hown.out.stored (m * 2 + 1) (.int .i64 ((t : Int) + 1))).1
            have hmg : spansB B (t + 1) = M0 ++ [(y1, (t : Int) + 1)] := by rw [Hs.out, HM.out, spStep_cat Hb.out, if_pos Hyp.out]
            have hset : (encS M0 ++ [Value.int .i64 y1, .int .i64 y2]).set (m * 2 + 1) (.int .i64 ((t : Int) + 1)) = encS (M0 ++ [(y1, (t : Int) + 1)]) := by
              rw [encS_append, List.set_append_right _ _ (by rw [encS_len, Hm.out]; omega), encS_len, Hm.out]; simp [encS]
            go_roundw
            case rel => exact ⟨t + 1, by omega, by go_num, own_cast hst (by rw [hmg]; simp [Hm.out]) (by rw [hmg, hset]), Gr.sc (by (repeat (first | exact Gr.rfl' | refine Gr.al ?_ _ | refine Gr.dr ?_ | refine Gr.drN ?_ | refine Gr.sc ?_ (by simp <;> omega) _ | refine Gr.tr ?_ (by assumption)))) hg2b _⟩
            case measure => simp [intOf]; omega
          · have hb1 : (y2 == (t : Int)) = false := by simp [hyp]
            have Hyp := Lib.hid hyp
            clear hyp
            go_wp2_with (at_builtin; refine wpList_append_own _ rfl _ _ 37 rfl w.heap.size 26 i0 _ 2 16 Try.underlying37 hi hz0 hz1 hz2 rfl (by decide) _ _ _ rfl (Hown.out.alloc _) ⟨wr.heap.size, 0, none⟩ 1 1 [.int .i64 (t : Int), .int .i64 ((t : Int) + 1)] rfl rfl (World.news_of_block (heap_alloc_new wr _)) (by intro u hu; simp only [List.mem_cons, List.not_mem_nil, or_false] at hu; rcases hu with rfl | rfl <;> rfl) (by unfold maxLen; omega) (by omega) (by simp; omega) ?_; intro v3 w3 hown3 hgrow3 _)
            have hmg : spansB B (t + 1) = M0 ++ [(y1, y2)] ++ [((t : Int), (t : Int) + 1)] := by rw [Hs.out, HM.out, spStep_cat Hb.out, if_neg Hyp.out]
            go_roundw
            case rel => exact ⟨t + 1, by omega, by go_num, own_cast hown3 (by rw [hmg]; simp [Hm.out]) (by rw [hmg, encS_append, encS_append]; rfl), gr_gb (by (repeat (first | exact Gr.rfl' | refine Gr.al ?_ _ | refine Gr.dr ?_ | refine Gr.drN ?_ | refine Gr.sc ?_ (by simp <;> omega) _ | refine Gr.tr ?_ (by assumption)))) hgrow3 hr3⟩
            case measure => simp [intOf]; omega
    · have hlt2 : ¬ (t : Int) < (B.length : Int) := by omega
      obtain rfl : t = B.length := by omega
      have Hownr := Lib.hid hownr; clear hownr
      go_wp2_with fail
      go_ret
      exact ⟨_, rfl, Hownr.out, hg⟩
end Go.Proofs.Ytafdddakkenlaaa

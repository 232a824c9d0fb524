import Derived.Test.YtafdddakkenlaaaWinI
namespace Go.Proofs.Ytafdddakkenlaaa
open Go.RowKit Go.Sort
attribute [local go_sem ↓] field26_0 field26_1

/-- The set behind a pointer reads as the list l. -/
def isSet (w : World) (pb : Nat) (l : List Sp) : Prop := ∃ a n c, w.heap[pb]? = some (.cells #[.slice a n c] 62 (0, 0)) ∧ w.ownsRow 0 26 2 (.slice a n c) l.length (encS l)

theorem rdRow_slice {w : World} {size n : Nat} {v : Value} {xs : List Value} (h : rdRow w size v n xs) : ∃ a c, v = .slice a n c := by
  obtain ⟨_, a, cap, hv, _⟩ := h; exact ⟨a, cap, hv⟩
theorem isSet.lt {w : World} {pb : Nat} {l : List Sp} (h : isSet w pb l) : pb < w.heap.size := by
  obtain ⟨a, n, c, h, _⟩ := h; exact (Array.getElem?_eq_some_iff.1 h).1
theorem isSet.cell {w : World} {pb : Nat} {l : List Sp} (h : isSet w pb l) : ∃ a c, w.cell? ⟨pb, 0, none⟩ = some (.slice a l.length c) ∧ rdRow w 2 (.slice a l.length c) l.length (encS l) := by
  obtain ⟨a, n, c, h, hr0⟩ := h
  have hr := rdRow_of_own hr0
  obtain ⟨a', c', e⟩ := rdRow_slice hr
  cases e
  exact ⟨a, c, by rw [cell_of_row w pb 0 _ _ _ h]; rfl, hr⟩
theorem isSet.gr {w w1 : World} {pb : Nat} {l : List Sp} (h : isSet w pb l) (hg : Gr w w1) : isSet w1 pb l := by
  obtain ⟨a, n, c, h1, hr⟩ := h
  exact ⟨a, n, c, (hg.block pb (Array.getElem?_eq_some_iff.1 h1).1).trans h1, own_gr hr hg⟩
/-- Another set is written. -/
theorem isSet.gb {w w1 : World} {pa pb : Nat} {l l2 : List Sp} (h : isSet w pb l) (h2 : isSet w pa l2) (hg : w.grownBy w1 (some pa)) (hne : pa ≠ pb) : isSet w1 pb l := by
  have hlt := h.lt
  obtain ⟨a, n, c, h1, hr⟩ := h
  obtain ⟨a2, n2, c2, h3, _⟩ := h2
  refine ⟨a, n, c, by rw [hg.block pb hlt (fun e => hne (Option.some.inj e).symm), h1], hr.kept hg ?_⟩
  rcases hr.2 with ⟨e, _⟩ | ⟨g, cap, cur, e, _, hgb, _⟩
  · left; rw [e]; rfl
  · right; rw [e]; intro e2
    have : g = pa := Option.some.inj e2
    subst this
    rw [h3] at hgb
    simp at hgb

theorem add_set {pb : Nat} {l : List Sp} {c d : Int} {w : World} (h : isSet w pb l) (hk : l.length ≤ 100000) (hl : ∀ x ∈ l, vS x) (hs : wCheck (c, d) = 0) (hne : c ≠ d) :
    Calls Try.prog 37 #[.pointer (some ⟨pb, 0, none⟩), .agg #[.int .i64 c, .int .i64 d]] w fun e w' => ∃ l' : List Sp, l'.Perm (withoutS l (c, d) ++ [(c, d)]) ∧ sortedS l' ∧ e = .returned (.bool (decide (szS l < szS (mergeS l')))) ∧ isSet w' pb (mergeS l') ∧ w.grownBy w' (some pb) := by
  obtain ⟨a, n, cc, h1, hr⟩ := h
  refine (add_calls pb _ l c d w h1 (rdRow_of_own hr) hk hl hs hne).mono ?_
  rintro e w' ⟨l', v', hp, hso, rfl, hb, hr', hg⟩
  obtain ⟨a2, c2, rfl⟩ := own_slice hr'
  exact ⟨l', hp, hso, rfl, ⟨_, _, _, hb, hr'⟩, hg⟩

set_option maxHeartbeats 1000000 in
theorem add_not {pb : Nat} {c d : Int} {w : World} (hs : wCheck (c, d) ≠ 0 ∨ c = d) :
    Calls Try.prog 37 #[.pointer (some ⟨pb, 0, none⟩), .agg #[.int .i64 c, .int .i64 d]] w fun e w' => e = .returned (.bool false) ∧ Gr w w' := by
  by_cases h1 : wCheck (c, d) = 0
  · have h1b : (wCheck (c, d) != 0) = false := by simp [h1]
    have h2b : (c == d) = true := by simp; exact hs.resolve_left (fun h => h h1)
    clear hs h1
    go_enter Try.func37, Try.ntmps37
    go_wp2_with (go_at_call 18; refine (check_calls _ _ _).mono ?_; rintro e w1 ⟨rfl, hb⟩; obtain ⟨hc, hf⟩ := bcell hb; have hz := hb.size; (try simp at hz); have z0 : w.heap.size < w1.heap.size := (by omega))
    go_ret; exact ⟨ret_b rfl rfl, by (repeat (first | exact Gr.rfl' | refine Gr.al ?_ _ | refine Gr.dr ?_ | refine Gr.drN ?_ | refine Gr.sc ?_ (by simp <;> omega) _ | refine Gr.tr ?_ (by assumption)))⟩
  · have h1b : (wCheck (c, d) != 0) = true := by simp [h1]
    clear hs h1
    go_enter Try.func37, Try.ntmps37
    go_wp2_with (go_at_call 18; refine (check_calls _ _ _).mono ?_; rintro e w1 ⟨rfl, hb⟩; obtain ⟨hc, hf⟩ := bcell hb; have hz := hb.size; (try simp at hz); have z0 : w.heap.size < w1.heap.size := (by omega))
    go_ret; exact ⟨ret_b rfl rfl, by (repeat (first | exact Gr.rfl' | refine Gr.al ?_ _ | refine Gr.dr ?_ | refine Gr.drN ?_ | refine Gr.sc ?_ (by simp <;> omega) _ | refine Gr.tr ?_ (by assumption)))⟩
set_option maxHeartbeats 1000000 in
theorem add_nil {c d : Int} {w : World} :
    Calls Try.prog 37 #[.pointer none, .agg #[.int .i64 c, .int .i64 d]] w fun e w' => e = .returned (.bool false) ∧ Gr w w' := by
  go_enter Try.func37, Try.ntmps37
  go_wp2_with (go_at_call 18; refine (check_calls _ _ _).mono ?_; rintro e w1 ⟨rfl, hb⟩; obtain ⟨hc, hf⟩ := bcell hb; have hz := hb.size; (try simp at hz); have z0 : w.heap.size < w1.heap.size := (by omega))
  go_ret; exact ⟨ret_b rfl rfl, by (repeat (first | exact Gr.rfl' | refine Gr.al ?_ _ | refine Gr.dr ?_ | refine Gr.drN ?_ | refine Gr.sc ?_ (by simp <;> omega) _ | refine Gr.tr ?_ (by assumption)))⟩

set_option maxHeartbeats 1000000 in
theorem take_set {pb : Nat} {l : List Sp} {c d : Int} {w : World} (h : isSet w pb l) (hk : l.length ≤ 100000) (hl : ∀ x ∈ l, vS x) (hs : wCheck (c, d) = 0) :
    Calls Try.prog 35 #[.pointer (some ⟨pb, 0, none⟩), .agg #[.int .i64 c, .int .i64 d]] w fun e w' => e = .returned (.bool (decide (szS (withoutS l (c, d)) < szS l))) ∧ isSet w' pb (withoutS l (c, d)) ∧ w.grownBy w' (some pb) := by
  have hcd := wCheck_0.1 hs
  have h1b : (wCheck (c, d) != 0) = false := by simp [hs]
  clear hs
  have hwl := withoutS_len l (c, d)
  have Hv := Lib.hid (vS_withoutS (s := (c, d)) hcd hl)
  have hlt := h.lt
  have H := Lib.hid h
  obtain ⟨a, cap, hpc, hr⟩ := h.cell
  obtain ⟨a0, n0, c0, hblk, hr0⟩ := h
  have Hblk := Lib.hid hblk; clear hblk hr0
  go_enter Try.func35, Try.ntmps35
  go_wp2_with (go_at_call 18; refine (check_calls _ _ _).mono ?_; rintro e w1 ⟨rfl, hb⟩; obtain ⟨hc, hf⟩ := bcell hb; have hz := hb.size; (try simp at hz); have z0 : w.heap.size < w1.heap.size := (by omega))
  have hG1 : Gr w w1 := by (repeat (first | exact Gr.rfl' | refine Gr.al ?_ _ | refine Gr.dr ?_ | refine Gr.drN ?_ | refine Gr.sc ?_ (by simp <;> omega) _ | refine Gr.tr ?_ (by assumption)))
  have hbx0 : w1.cell? ⟨w.heap.size, 0, none⟩ = some (.int .i64 c) := keepc hb (by simp)
  have hbx1 : w1.cell? ⟨w.heap.size, 1, none⟩ = some (.int .i64 d) := keepc hb (by simp)
  have hp1 := keepc hG1 hpc
  clear hc hf hpc
  refine (size_calls _ l _ (hr.gr hG1) ⟨by omega, hl⟩).mono ?_
  rintro e w2 ⟨rfl, hb2⟩
  have hG2 := hG1.tr hb2
  have hbx0' := keepc hb2 hbx0
  have hbx1' := keepc hb2 hbx1
  have hp2 := keepc hb2 hp1
  clear hbx0 hbx1 hp1
  go_wp2_with fail
  refine (without_calls pb _ l c d _ hp2 (hr.gr hG2) hk).mono ?_
  rintro e w3 ⟨v3, rfl, hown3, hb3⟩
  obtain ⟨a3, c3, hv3⟩ := own_slice hown3
  subst hv3
  have hG3 := hG2.tr hb3
  have hp3 := keepc hb3 hp2
  have hblk3 : w3.heap[pb]? = some (.cells #[.slice a0 n0 c0] 62 (0, 0)) := (hG3.block pb hlt).trans Hblk.out
  have hf3 : w3.frozen? ⟨pb, 0, none⟩ = false := by simp [World.frozen?, hblk3]
  have Hblk3 := Lib.hid hblk3
  clear hblk3 hp2 hbx0' hbx1'
  go_wp2_with fail
  have hlt2 : pb < w2.heap.size := Nat.lt_of_lt_of_le hlt hG2.size
  have hown5 := ownsRow_setCell_below hown3 (a := ⟨pb, 0, none⟩) hlt2 (.slice a3 (withoutS l (c, d)).length c3)
  refine (size_calls _ (withoutS l (c, d)) _ (rdRow_of_own hown5) ⟨by omega, Hv.out⟩).mono ?_
  rintro e w5 ⟨rfl, hb5⟩
  go_wp2_with fail
  go_ret
  have h4 : pb < w3.heap.size := Nat.lt_of_lt_of_le hlt hG3.size
  refine ⟨rfl, ⟨a3, _, c3, ?_, own_mono (own_gr hown5 hb5) (Nat.zero_le _)⟩, ?_⟩
  · rw [hb5.block pb (by simp [World.setCell]; exact h4)]
    rw [heap_setCell_same w3 pb 0 _ _ _ Hblk3.out]; rfl
  · refine ⟨hb5.os.trans hG3.os, hb5.tape.trans hG3.tape, hb5.output.trans hG3.output, ?_, fun j hj hne => ?_⟩
    · have := hb5.size; have := hG3.size; simp [World.setCell] at *; omega
    · have h4 := hG3.size
      rw [hb5.block j (by simp [World.setCell]; omega), Below.heap_setCell _ _ _ _ (fun e => hne (by rw [e])), hG3.block j hj]

set_option maxHeartbeats 1000000 in
theorem take_not {pb : Nat} {c d : Int} {w : World} (hs : wCheck (c, d) ≠ 0) :
    Calls Try.prog 35 #[.pointer (some ⟨pb, 0, none⟩), .agg #[.int .i64 c, .int .i64 d]] w fun e w' => e = .returned (.bool false) ∧ Gr w w' := by
  have h1b : (wCheck (c, d) != 0) = true := by simp [hs]
  clear hs
  go_enter Try.func35, Try.ntmps35
  go_wp2_with (go_at_call 18; refine (check_calls _ _ _).mono ?_; rintro e w1 ⟨rfl, hb⟩; obtain ⟨hc, hf⟩ := bcell hb; have hz := hb.size; (try simp at hz); have z0 : w.heap.size < w1.heap.size := (by omega))
  go_ret; exact ⟨ret_b rfl rfl, by (repeat (first | exact Gr.rfl' | refine Gr.al ?_ _ | refine Gr.dr ?_ | refine Gr.drN ?_ | refine Gr.sc ?_ (by simp <;> omega) _ | refine Gr.tr ?_ (by assumption)))⟩
set_option maxHeartbeats 1000000 in
theorem take_nil {c d : Int} {w : World} :
    Calls Try.prog 35 #[.pointer none, .agg #[.int .i64 c, .int .i64 d]] w fun e w' => e = .returned (.bool false) ∧ Gr w w' := by
  go_enter Try.func35, Try.ntmps35
  go_wp2_with (go_at_call 18; refine (check_calls _ _ _).mono ?_; rintro e w1 ⟨rfl, hb⟩; obtain ⟨hc, hf⟩ := bcell hb; have hz := hb.size; (try simp at hz); have z0 : w.heap.size < w1.heap.size := (by omega))
  go_ret; exact ⟨ret_b rfl rfl, by (repeat (first | exact Gr.rfl' | refine Gr.al ?_ _ | refine Gr.dr ?_ | refine Gr.drN ?_ | refine Gr.sc ?_ (by simp <;> omega) _ | refine Gr.tr ?_ (by assumption)))⟩
end Go.Proofs.Ytafdddakkenlaaa

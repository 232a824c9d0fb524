/- The reference's Check and Same of records. -/
import Derived.Test.YtnneebdcaefgoaaCaI
namespace Go.Proofs.Ytnneebdcaefgoaa
open Go.RowKit

set_option maxRecDepth 100000 in
set_option maxHeartbeats 2000000 in
theorem rcheck6_calls (r : Rec) (d : Value) (w : World) (hd : rdRow w 1 d r.d.length (encI r.d)) (hk : r.d.length ≤ 1000000) :
    Calls Try.prog 47 #[recV r d] w fun e w' => e = .returned (.int .i64 (errOf (decide (RecOk r)))) ∧ Gr w w' := by
  have hcs : (decide (0 ≤ r.t ∧ r.t ≤ topN) = false ∧ ¬ RecOk r) ∨ (decide (0 ≤ r.t ∧ r.t ≤ topN) = true ∧ decide (r.d = plainV r.d) = false ∧ ¬ RecOk r) ∨ (decide (0 ≤ r.t ∧ r.t ≤ topN) = true ∧ decide (r.d = plainV r.d) = true ∧ decide (StampOk r.c r.st r.q) = false ∧ ¬ RecOk r) ∨ (decide (0 ≤ r.t ∧ r.t ≤ topN) = true ∧ decide (r.d = plainV r.d) = true ∧ decide (StampOk r.c r.st r.q) = true ∧ (atV r.d r.st != r.q - 1) = true ∧ ¬ RecOk r) ∨ (decide (0 ≤ r.t ∧ r.t ≤ topN) = true ∧ decide (r.d = plainV r.d) = true ∧ decide (StampOk r.c r.st r.q) = true ∧ (atV r.d r.st != r.q - 1) = false ∧ (RecOk r ↔ KindOk r)) := by
    by_cases h1 : 0 ≤ r.t ∧ r.t ≤ topN
    · by_cases h3 : r.d = plainV r.d
      · by_cases h2 : StampOk r.c r.st r.q
        · by_cases h4 : atV r.d r.st = r.q - 1
          · exact .inr (.inr (.inr (.inr ⟨decide_eq_true h1, decide_eq_true h3, decide_eq_true h2, by simp [h4], ⟨fun h => h.2, fun h => ⟨⟨h1, h2, h3, h4⟩, h⟩⟩⟩)))
          · exact .inr (.inr (.inr (.inl ⟨decide_eq_true h1, decide_eq_true h3, decide_eq_true h2, by simp [h4], fun h => h4 h.1.2.2.2⟩)))
        · exact .inr (.inr (.inl ⟨decide_eq_true h1, decide_eq_true h3, decide_eq_false h2, fun h => h2 h.1.2.1⟩))
      · exact .inr (.inl ⟨decide_eq_true h1, decide_eq_false h3, fun h => h3 h.1.2.2.1⟩)
    · exact .inl ⟨decide_eq_false h1, fun h => h1 h.1.1⟩
  have Hrt0 := Lib.hid (fun W hg => rright_calls d r.d W (hd.gr hg) hk)
  have Hat0 := Lib.hid (fun W hg => rat_calls d r.d r.st W (hd.gr hg) hk)
  have hkc := kind_cases r
  have hwr : ∀ (h : StampOk r.c r.st r.q), IntKind.i64.wrap (r.q - 1) = r.q - 1 := fun h => by unfold StampOk topN at h; simp [IntKind.wrap, IntKind.bits, IntKind.signed]; omega
  unfold recV
  clear hd
  have hER := fun (h : ¬ RecOk r) => (by rw [decide_eq_false h]; rfl : errOf (decide (RecOk r)) = 1)
  have hET := fun (h : RecOk r ↔ KindOk r) => (⟨fun k => by rw [decide_eq_true (h.2 k)]; rfl, fun k => by rw [decide_eq_false (fun z => k (h.1 z))]; rfl⟩ : (KindOk r → errOf (decide (RecOk r)) = 0) ∧ (¬ KindOk r → errOf (decide (RecOk r)) = 1))
  obtain ⟨E, hE⟩ : ∃ E, errOf (decide (RecOk r)) = E := ⟨_, rfl⟩
  rw [hE] at hER hET ⊢
  clear hE
  generalize RecOk r = RO at *
  generalize KindOk r = KO at *
  obtain ⟨k, s, t, v, tier, c, st, q, dl⟩ := r
  simp only at *
  have Hkc := Lib.hid hkc; have HET := Lib.hid hET; have HER := Lib.hid hER
  clear hkc hET hER
  go_enter Try.func47, Try.ntmps47
  go_wp2_with fail
  have hcells : ∀ wq, Gr (w.alloc (.cells #[.int .i64 k, .string s, .int .i64 t, .int .i64 v, .int .i64 tier, .int .i64 c, .int .i64 st, .int .i64 q, d] 33)) wq → wq.cell? ⟨w.heap.size, 0, none⟩ = some (.int .i64 k) ∧ wq.cell? ⟨w.heap.size, 1, none⟩ = some (.string s) ∧ wq.cell? ⟨w.heap.size, 2, none⟩ = some (.int .i64 t) ∧ wq.cell? ⟨w.heap.size, 3, none⟩ = some (.int .i64 v) ∧ wq.cell? ⟨w.heap.size, 4, none⟩ = some (.int .i64 tier) ∧ wq.cell? ⟨w.heap.size, 5, none⟩ = some (.int .i64 c) ∧ wq.cell? ⟨w.heap.size, 6, none⟩ = some (.int .i64 st) ∧ wq.cell? ⟨w.heap.size, 7, none⟩ = some (.int .i64 q) ∧ wq.cell? ⟨w.heap.size, 8, none⟩ = some d := fun wq hg => by
    refine ⟨keepc hg ?_, keepc hg ?_, keepc hg ?_, keepc hg ?_, keepc hg ?_, keepc hg ?_, keepc hg ?_, keepc hg ?_, keepc hg ?_⟩ <;> exact cell_of_row _ w.heap.size _ _ _ _ (heap_alloc_new w _)
  have hg0 : Gr w (w.alloc (.cells #[.int .i64 k, .string s, .int .i64 t, .int .i64 v, .int .i64 tier, .int .i64 c, .int .i64 st, .int .i64 q, d] 33)) := by (repeat (first | exact Gr.rfl' | refine Gr.al ?_ _ | refine Gr.dr ?_ | refine Gr.drN ?_ | refine Gr.sc ?_ (by simp <;> omega) _ | refine Gr.tr ?_ (by assumption)))
  generalize w.alloc (.cells #[.int .i64 k, .string s, .int .i64 t, .int .i64 v, .int .i64 tier, .int .i64 c, .int .i64 st, .int .i64 q, d] 33) = W0 at *
  generalize w.heap.size = B at *
  have Hc0 := Lib.hid hcells; have Hg00 := Lib.hid hg0
  clear hcells hg0
  have hcl := fun W => rtime_calls t W
  have hck := fun W => rcheck_calls c st q W
  have hrt := Hrt0.out
  have hat := Hat0.out
  rcases hcs with ⟨h1, hR⟩ | ⟨h1, h2, hR⟩ | ⟨h1, h2, h3, hR⟩ | ⟨h1, h2, h3, h4, hR⟩ | ⟨h1, h2, h3, h4, hR⟩
  case' inr.inr.inr.inr =>
    have hq := hwr (of_decide_eq_true h3)
    have hT := HET.out hR
    have HT := Lib.hid hT
    clear hT
    rw [h1] at hcl; rw [h3, show errOf true = 0 from rfl] at hck; rw [h2] at hrt
  case' inr.inr.inr.inl =>
    have hq := hwr (of_decide_eq_true h3)
    have hT := HER.out hR
    subst hT
    rw [h1] at hcl; rw [h3, show errOf true = 0 from rfl] at hck; rw [h2] at hrt
  case' inr.inr.inl =>
    have hT := HER.out hR
    subst hT
    rw [h1] at hcl; rw [h3, show errOf false = 1 from rfl] at hck; rw [h2] at hrt
  case' inr.inl =>
    have hT := HER.out hR
    subst hT
    rw [h1] at hcl; rw [h2] at hrt
  case' inl =>
    have hT := HER.out hR
    subst hT
    rw [h1] at hcl
  all_goals
    have Hcl := Lib.hid hcl; have Hck := Lib.hid hck; have Hrt := Lib.hid hrt; have Hat := Lib.hid hat
    clear hcl hck hrt hat hwr h1 hR
    (try clear h2)
    (try clear h3)
    have c2 := (Hc0.out W0 Gr.rfl').2.2.1; have c8 := (Hc0.out W0 Gr.rfl').2.2.2.2.2.2.2.2
    go_wp2_with fail
    refine (Hcl.out _).mono ?_
    rintro e w1 ⟨rfl, rfl⟩
    go_wp2_with fail
    refine (Hrt.out _ Hg00.out).mono ?_
    rintro e W2 ⟨rfl, hb2⟩
    have Hg0 := Lib.hid (Hg00.out.tr hb2)
    have Hc := Lib.hid (fun wq (h : Gr W2 wq) => Hc0.out wq (hb2.tr h))
    clear hb2 c2 c8
    have cw := fun g : GrW W2 => Hc.out g.w g.h
    have cw0 := fun g : GrW W2 => (cw g).1; have cw1 := fun g : GrW W2 => (cw g).2.1; have cw2 := fun g : GrW W2 => (cw g).2.2.1; have cw3 := fun g : GrW W2 => (cw g).2.2.2.1; have cw4 := fun g : GrW W2 => (cw g).2.2.2.2.1
    have cw5 := fun g : GrW W2 => (cw g).2.2.2.2.2.1; have cw6 := fun g : GrW W2 => (cw g).2.2.2.2.2.2.1; have cw7 := fun g : GrW W2 => (cw g).2.2.2.2.2.2.2.1; have cw8 := fun g : GrW W2 => (cw g).2.2.2.2.2.2.2.2
    clear cw
    go_upto_region 3 with fail
    (refine region_gr (by kernel_rfl) (by kernel_rfl) ?_; (repeat (go_big_quiet_step ((first | (go_at_call 60; refine (Hck.out _).mono ?_; rename_i g9; rintro e w2 ⟨rfl, hb⟩; exact ⟨rfl, ⟨w2, g9.h.tr hb⟩, rfl⟩) | (go_at_call 19; rename_i g9; refine (Hat.out _ (Hg0.out.tr g9.h)).mono ?_; rintro e w2 ⟨rfl, hb⟩; exact ⟨rfl, ⟨w2, g9.h.tr hb⟩, rfl⟩))))); refine wpQuiet_nil ?_; intro wq hw9; obtain ⟨g9, e9⟩ := hw9; have hwq := g9.h; rw [← e9] at hwq; clear e9 g9)
    obtain ⟨c0, c1, c2, c3, c4, c5, c6, c7, c8⟩ := Hc.out wq hwq
    have HG := Lib.hid (Hg0.out.tr hwq)
    clear cw0 cw1 cw2 cw3 cw4 cw5 cw6 cw7 cw8 hwq
    first
      | (have hx := HT.out; clear hx)
      | (go_wp2_with fail
         go_ret
         exact ⟨rfl, HG.out⟩)
  have Hnm := Lib.hid (fun W => rname_calls s W)
  clear Hcl Hck Hrt Hat Hrt0 Hat0 Hc Hc0
  go_wp2_with fail
  refine (Hnm.out _).mono ?_
  rintro e w9 ⟨rfl, rfl⟩
  rcases Hkc.out with ⟨rfl, hn, ht, hK⟩ | ⟨rfl, hn, ht, hK⟩ | ⟨rfl, hn, hK⟩ | ⟨rfl, hn, hK⟩ | ⟨rfl, hn, hv, hK⟩ | ⟨rfl, hn, hv, ht, hK⟩ | ⟨rfl, hn, hv, ht, ht2, hK⟩ | ⟨rfl, hn, hv, ht, ht2, hK⟩ | ⟨hk1, hk2, hK⟩
  all_goals
    first
      | (have he := HT.out.1 hK; clear hK HT Hkc HER; subst he)
      | (have he := HT.out.2 hK; clear hK HT Hkc HER; subst he)
    (try (rw [hn]; clear hn))
    go_wp2_with fail
    go_ret
    exact ⟨rfl, HG.out⟩
end Go.Proofs.Ytnneebdcaefgoaa

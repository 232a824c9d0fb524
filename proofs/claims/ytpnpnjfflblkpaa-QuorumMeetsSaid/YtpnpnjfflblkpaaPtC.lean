/- Points: which is newer; places; lists of points that are the same; points that may be. -/
import Derived.Test.YtpnpnjfflblkpaaPtB
namespace Go.Proofs.Ytpnpnjfflblkpaa
open Go.RowKit Go.Sort

theorem new_cases (a b : Pt) : ((a.s.toList == b.s.toList) = false ∧ ¬ newT a b) ∨ ((a.s.toList == b.s.toList) = true ∧ (a.t == b.t) = false ∧ ¬ newT a b)
    ∨ ((a.s.toList == b.s.toList) = true ∧ (a.t == b.t) = true ∧ decide (lessT b a) = decide (newT a b)) := by
  rw [eq_sb]
  unfold newT
  by_cases h : a.s = b.s
  · by_cases ht : a.t = b.t
    · exact .inr (.inr ⟨decide_eq_true h, beq_iff_eq.2 ht, decide_eq_decide.2 ⟨fun z => ⟨h, ht, z⟩, fun z => z.2.2⟩⟩)
    · exact .inr (.inl ⟨decide_eq_true h, beq_false_of_ne ht, fun z => ht z.2.1⟩)
  · exact .inl ⟨decide_eq_false h, fun z => h z.1⟩
theorem rnewer_calls (a b : Pt) (w : World) : Calls Try.prog 45 #[ptV a, ptV b] w fun e w' => e = .returned (.bool (decide (newT a b))) ∧ Gr w w' := by
  rcases new_cases a b with ⟨h1, hr⟩ | ⟨h1, h2, hr⟩ | ⟨h1, h2, hr⟩
  all_goals
    (first | rw [decide_eq_false hr] | rw [← hr])
    clear hr
    go_enter Try.func45, Try.ntmps45
    go_wp2_with fail
    refine (rless_calls b a _).mono ?_
    rintro e w1 ⟨rfl, hgw⟩
    have hg := hgw.gr
    clear hgw
    obtain ⟨hc, hf⟩ := bcell hg
    have hz := hg.size
    (try simp at hz)
    have z0 : w.heap.size < w1.heap.size := by omega
    have z1 : w.heap.size + 1 < w1.heap.size := by omega
    go_wp2_with fail
    go_ret
    refine ⟨rfl, ?_⟩
    first | exact Gr.tr (Gr.al (Gr.al Gr.rfl' _) _) hg | exact Gr.tr (Gr.al (Gr.al Gr.rfl' _) _) (Gr.tr hg Gr.rfl')
theorem newer_calls (a b : Pt) (w : World) : Calls Try.prog 62 #[ptV a, ptV b] w fun e w' => e = .returned (.bool (decide (newT a b))) ∧ Gr w w' := by
  rcases new_cases a b with ⟨h1, hr⟩ | ⟨h1, h2, hr⟩ | ⟨h1, h2, hr⟩
  rotate_right
  · rw [← hr]
    clear hr
    go_enter Try.func62, Try.ntmps62
    go_wp2_with fail
    refine (less_calls b a _).mono ?_
    rintro e w1 ⟨rfl, hgw⟩
    have hg := hgw.gr
    clear hgw
    go_wp2_with fail
    go_ret
    exact ⟨rfl, Gr.tr (Gr.al (Gr.al Gr.rfl' _) _) hg⟩
  all_goals
    rw [decide_eq_false hr]
    clear hr
    go_enter Try.func62, Try.ntmps62
    go_wp2_with fail
    go_ret
    exact ⟨rfl, by (repeat (first | exact Gr.rfl' | refine Gr.al ?_ _ | refine Gr.dr ?_ | refine Gr.drN ?_ | refine Gr.sc ?_ (by simp <;> omega) _ | refine Gr.tr ?_ (by assumption)))⟩
def cmpB (a b : Pt) : Int := if bef a b then -1 else if bef b a then 1 else 0
theorem bef_irr (a : Pt) : ¬ bef a a := fun z => z.elim (sb_irr _) (fun z => by have := z.2; omega)
theorem bef_asymm {a b : Pt} (h : bef a b) : ¬ bef b a := by
  unfold bef at *
  rcases h with h | ⟨h1, h2⟩
  · rintro (z | ⟨z, _⟩)
    · exact List.lt_asymm h z
    · rw [z] at h; exact sb_irr _ h
  · rintro (z | ⟨_, z⟩)
    · rw [h1] at z; exact sb_irr _ z
    · omega
theorem bef_trans {a b c : Pt} (h1 : bef a b) (h2 : bef b c) : bef a c := by
  unfold bef at *
  rcases h1 with h1 | ⟨h1, k1⟩
  · rcases h2 with h2 | ⟨h2, _⟩
    · exact .inl (List.lt_trans h1 h2)
    · exact .inl (by rw [← h2]; exact h1)
  · rcases h2 with h2 | ⟨h2, k2⟩
    · exact .inl (by rw [h1]; exact h2)
    · exact .inr ⟨h1.trans h2, by omega⟩
theorem bef_tri (a b : Pt) : bef a b ∨ (a.s = b.s ∧ a.t = b.t) ∨ bef b a := by
  unfold bef
  rcases sb_tri a.s b.s with h | h | h
  · exact .inl (.inl h)
  · by_cases h1 : a.t < b.t
    · exact .inl (.inr ⟨h, h1⟩)
    · by_cases h2 : b.t < a.t
      · exact .inr (.inr (.inr ⟨h.symm, h2⟩))
      · exact .inr (.inl ⟨h, by omega⟩)
  · exact .inr (.inr (.inl h))
theorem place_calls (a b : Pt) (w : World) : Calls Try.prog 61 #[ptV a, ptV b] w fun e w' => e = .returned (.int .i64 (cmpB a b)) ∧ Gw w w' := by
  unfold cmpB
  have H1 := Lib.hid (fun W => before_calls a b W); have H2 := Lib.hid (fun W => before_calls b a W)
  by_cases h : bef a b
  · rw [if_pos h]
    rw [decide_eq_true h] at H1
    clear h
    go_enter Try.func61, Try.ntmps61
    go_wp2_with fail
    refine (H1.out _).mono ?_
    rintro e w1 ⟨rfl, hgw⟩
    go_wp2_with fail
    go_ret
    exact ⟨rfl, Gw.tr (Gw.al (Gw.al Gw.rfl' _) _) hgw⟩
  · rw [if_neg h]
    rw [decide_eq_false h] at H1
    clear h
    by_cases h : bef b a
    all_goals
      (first | rw [if_pos h] | rw [if_neg h])
      (first | rw [decide_eq_true h] at H2 | rw [decide_eq_false h] at H2)
      clear h
      go_enter Try.func61, Try.ntmps61
      go_wp2_with fail
      refine (H1.out _).mono ?_
      rintro e w1 ⟨rfl, hgw⟩
      have hg := hgw.gr
      obtain ⟨hc, hf⟩ := bcell hg
      have hz := hg.size
      (try simp at hz)
      have z0 : w.heap.size < w1.heap.size := by omega
      have z1 : w.heap.size + 1 < w1.heap.size := by omega
      have B0 : w1.heap[w.heap.size]? = some (.cells (ptC a).toArray 26 (0, 0)) := hg.blk ((Gr.al Gr.rfl' _).blk (heap_alloc_new w _))
      have B1 : w1.heap[w.heap.size + 1]? = some (.cells (ptC b).toArray 26 (0, 0)) := hg.blk (by have := heap_alloc_new (w.alloc (.cells (ptC a).toArray 26)) (.cells (ptC b).toArray 26); simpa using this)
      go_wp2_with fail
      refine (H2.out _).mono ?_
      rintro e w2 ⟨rfl, hg2⟩
      go_wp2_with fail
      go_ret
      exact ⟨rfl, (Gw.tr (Gw.al (Gw.al Gw.rfl' _) _) hgw).tr hg2⟩
end Go.Proofs.Ytpnpnjfflblkpaa

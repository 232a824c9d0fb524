/- Points that may be; lists of points that are the same. -/
import Derived.Test.YtpnpnjfflblkpaaPtC
namespace Go.Proofs.Ytpnpnjfflblkpaa
open Go.RowKit Go.Sort

def PtOk (p : Pt) : Prop := SerOk p.s ∧ (0 ≤ p.t ∧ p.t ≤ topN) ∧ StampOk p.c p.st p.q
instance (p : Pt) : Decidable (PtOk p) := by unfold PtOk; exact inferInstance
theorem ok_cases (p : Pt) : (decide (SerOk p.s) = false ∧ ¬ PtOk p) ∨ (decide (SerOk p.s) = true ∧ decide (0 ≤ p.t ∧ p.t ≤ topN) = false ∧ ¬ PtOk p)
    ∨ (decide (SerOk p.s) = true ∧ decide (0 ≤ p.t ∧ p.t ≤ topN) = true ∧ decide (StampOk p.c p.st p.q) = decide (PtOk p)) := by
  unfold PtOk
  by_cases h1 : SerOk p.s
  · by_cases h2 : 0 ≤ p.t ∧ p.t ≤ topN
    · exact .inr (.inr ⟨decide_eq_true h1, decide_eq_true h2, decide_eq_decide.2 ⟨fun z => ⟨h1, h2, z⟩, fun z => z.2.2⟩⟩)
    · exact .inr (.inl ⟨decide_eq_true h1, decide_eq_false h2, fun z => h2 z.2.1⟩)
  · exact .inl ⟨decide_eq_false h1, fun z => h1 z.1⟩
theorem rcheckp_calls (p : Pt) (w : World) : Calls Try.prog 10 #[ptV p] w fun e w' => e = .returned (.int .i64 (errOf (decide (PtOk p)))) ∧ Gr w w' := by
  have Hn := Lib.hid (fun W => rname_calls p.s W); have Ht := Lib.hid (fun W => rtime_calls p.t W); have Hs := Lib.hid (fun W => rcheck_calls p.c p.st p.q W)
  rcases ok_cases p with ⟨h1, hr⟩ | ⟨h1, h2, hr⟩ | ⟨h1, h2, hr⟩
  · rw [h1] at Hn
    rw [decide_eq_false hr]
    clear hr h1
    go_enter Try.func10, Try.ntmps10
    go_wp2_with fail
    refine (Hn.out _).mono ?_
    rintro e w1 ⟨rfl, rfl⟩
    go_wp2_with fail
    refine (Ht.out _).mono ?_
    rintro e w1 ⟨rfl, rfl⟩
    go_wp2_with fail
    go_ret
    exact ⟨rfl, by (repeat (first | exact Gr.rfl' | refine Gr.al ?_ _ | refine Gr.dr ?_ | refine Gr.drN ?_ | refine Gr.sc ?_ (by simp <;> omega) _ | refine Gr.tr ?_ (by assumption)))⟩
  · rw [h1] at Hn
    rw [h2] at Ht
    rw [decide_eq_false hr]
    clear hr h1 h2
    go_enter Try.func10, Try.ntmps10
    go_wp2_with fail
    refine (Hn.out _).mono ?_
    rintro e w1 ⟨rfl, rfl⟩
    go_wp2_with fail
    refine (Ht.out _).mono ?_
    rintro e w1 ⟨rfl, rfl⟩
    go_wp2_with fail
    go_ret
    exact ⟨rfl, by (repeat (first | exact Gr.rfl' | refine Gr.al ?_ _ | refine Gr.dr ?_ | refine Gr.drN ?_ | refine Gr.sc ?_ (by simp <;> omega) _ | refine Gr.tr ?_ (by assumption)))⟩
  · rw [h1] at Hn
    rw [h2] at Ht
    rw [← hr]
    clear hr h1 h2
    by_cases h : StampOk p.c p.st p.q
    all_goals
      (first | rw [decide_eq_true h] at Hs ⊢ | rw [decide_eq_false h] at Hs ⊢)
      clear h
      go_enter Try.func10, Try.ntmps10
      go_wp2_with fail
      refine (Hn.out _).mono ?_
      rintro e w1 ⟨rfl, rfl⟩
      go_wp2_with fail
      refine (Ht.out _).mono ?_
      rintro e w1 ⟨rfl, rfl⟩
      go_wp2_with fail
      refine (Hs.out _).mono ?_
      rintro e w1 ⟨rfl, hg⟩
      unfold errOf
      go_wp2_with fail
      go_ret
      exact ⟨rfl, Gr.tr (Gr.al Gr.rfl' _) hg⟩
end Go.Proofs.Ytpnpnjfflblkpaa

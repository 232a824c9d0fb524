import Derived.Test.YtafdddakkenlaaaWya
namespace Go.Proofs.Ytafdddakkenlaaa
open Go.RowKit Go.Sort
attribute [local go_sem ↓] field26_0 field26_1

/-- The reference's two ends. -/
def rInF (a k : Int) : Int := if 0 < a % wWidth k then a - a % wWidth k + wWidth k else a
def rInT (b k : Int) : Int := if b < 1099511627777 then b - b % wWidth k else b
theorem rIn_eq {a b k : Int} (h : wMay (a, b) k = true) : wInner (a, b) k = if rInT b k ≤ rInF a k then (a, a) else (rInF a k, rInT b k) := by
  obtain ⟨b1, b2, b3, b4⟩ := wMay_t h
  have hne : wWidth k ≠ 0 := by omega
  have ha := mod_bd b1 b4
  have hb := mod_bd (a := b) (by omega) b4
  have la := Int.emod_lt_of_pos a b4
  have hT : wInT (a, b) k = rInT b k := by
    by_cases e : b = 1099511627777
    · have l1 : wInT (a, b) k = b := by unfold wInT wEdge; simp [e]
      have r1 : rInT b k = b := by unfold rInT; rw [if_neg (by omega)]
      rw [l1, r1]
    · have r1 : rInT b k = b - b % wWidth k := by unfold rInT; rw [if_pos (by omega)]
      by_cases e2 : b % wWidth k = 0
      · have l1 : wInT (a, b) k = b := by unfold wInT wEdge; simp [e2]
        rw [l1, r1]; omega
      · have l1 : wInT (a, b) k = wStart b k := by unfold wInT wEdge; simp [e, e2]
        rw [l1, r1, start_alt (by omega) (by omega) hne]
  have hTb : rInT b k ≤ 1099511627777 := by unfold rInT; split <;> omega
  have hi : wInner (a, b) k = if rInT b k ≤ wInF (a, b) k then (a, a) else (wInF (a, b) k, rInT b k) := by
    unfold wInner; rw [h, hT]; simp
  rw [hi]
  by_cases e : a = 1099511627777
  · have h1 : wInF (a, b) k = a := by unfold wInF wEdge; simp [e]
    have h2 : a ≤ rInF a k := by unfold rInF; split <;> omega
    rw [h1, if_pos (by omega), if_pos (by omega)]
  · by_cases e2 : a % wWidth k = 0
    · have h1 : wInF (a, b) k = a := by unfold wInF wEdge; simp [e2]
      have h2 : rInF a k = a := by unfold rInF; rw [if_neg (by omega)]
      rw [h1, h2]
    · have hs := start_alt (t := a) (k := k) (by omega) (by omega) hne
      have h1 : wInF (a, b) k = mn (a - a % wWidth k + wWidth k) 1099511627777 := by
        unfold wInF wEdge; simp only; rw [if_neg (by simp [e, e2])]; unfold wOf; rw [hs, if_neg (by omega)]
      have h2 : rInF a k = a - a % wWidth k + wWidth k := by unfold rInF; rw [if_pos (by omega)]
      rw [h1, h2, mn_eq]
      by_cases e3 : a - a % wWidth k + wWidth k ≤ 1099511627777
      · rw [Int.min_eq_left e3]
      · rw [Int.min_eq_right (by omega), if_pos (by omega), if_pos (by omega)]

set_option maxHeartbeats 2000000 in
theorem rinner_calls (a b k : Int) (w : World) :
    Calls Try.prog 31 #[.agg #[.int .i64 a, .int .i64 b], .int .i64 k] w fun e w' => e = .returned (.agg #[.int .i64 (wInner (a, b) k).1, .int .i64 (wInner (a, b) k).2]) ∧ Gr w w' := by
  cases h1 : wMay (a, b) k
  · have hr : wInner (a, b) k = (0, 0) := by simp [wInner, h1]
    rw [hr]; clear hr
    go_enter Try.func31, Try.ntmps31
    go_wp2_with (first | (go_at_call 46; refine (rok_calls _ _ _ _).mono ?_; rintro e w1 ⟨rfl, hb⟩; obtain ⟨hc, hf⟩ := bcell hb; have hz := hb.size; (try simp at hz); have z0 : w.heap.size < w1.heap.size := (by omega); have z1 : w.heap.size + 1 < w1.heap.size := (by omega)))
    exact bodyPost_ret (v := .agg #[.int .i64 0, .int .i64 0]) (by simp [results, Try.results31, go_sem, *]) rfl ⟨rfl, by (repeat (first | exact Gr.rfl' | refine Gr.al ?_ _ | refine Gr.dr ?_ | refine Gr.drN ?_ | refine Gr.sc ?_ (by simp <;> omega) _ | refine Gr.tr ?_ (by assumption)))⟩
  · have hr := rIn_eq h1
    obtain ⟨b1, b2, b3, b4⟩ := wMay_t h1
    have hne : wWidth k ≠ 0 := by omega
    have b5 : 0 ≤ b := by omega
    have ha := mod_bd b1 b4
    have hb := mod_bd b5 b4
    have hwb := wWidth_bd k
    have ta : a.tmod (wWidth k) = a % wWidth k := Int.tmod_eq_emod_of_nonneg b1
    have tb : b.tmod (wWidth k) = b % wWidth k := Int.tmod_eq_emod_of_nonneg b5
    obtain ⟨r, hr2⟩ : ∃ r, wInner (a, b) k = r := ⟨_, rfl⟩
    rw [hr2]
    rw [hr] at hr2
    obtain ⟨r1, r2⟩ := r
    simp only
    clear hr
    have hF : 0 < a % wWidth k ∧ rInF a k = a - a % wWidth k + wWidth k ∨ ¬ 0 < a % wWidth k ∧ a = rInF a k := by
      unfold rInF; by_cases h : 0 < a % wWidth k
      · exact .inl ⟨h, if_pos h⟩
      · exact .inr ⟨h, (if_neg h).symm⟩
    have hT : b < 1099511627777 ∧ rInT b k = b - b % wWidth k ∨ ¬ b < 1099511627777 ∧ b = rInT b k := by
      unfold rInT; by_cases h : b < 1099511627777
      · exact .inl ⟨h, if_pos h⟩
      · exact .inr ⟨h, (if_neg h).symm⟩
    generalize rInF a k = f at *
    generalize rInT b k = g at *
    by_cases hfg : g ≤ f
    · rw [if_pos hfg] at hr2
      obtain ⟨rfl, rfl⟩ := Prod.mk.inj hr2
      clear hr2
      rcases hF with ⟨hF, rfl⟩ | ⟨hF, rfl⟩ <;> rcases hT with ⟨hT, rfl⟩ | ⟨hT, rfl⟩
      all_goals
        go_enter Try.func31, Try.ntmps31
        go_wp2_with (first | (go_at_call 46; refine (rok_calls _ _ _ _).mono ?_; rintro e w1 ⟨rfl, hb⟩; obtain ⟨hc, hf⟩ := bcell hb; have hz := hb.size; (try simp at hz); have z0 : w.heap.size < w1.heap.size := (by omega); have z1 : w.heap.size + 1 < w1.heap.size := (by omega)) | (go_at_call 12; refine (rwidth_calls _ _).mono ?_; rintro e w' ⟨rfl, rfl⟩))
        exact bodyPost_ret (v := .agg #[.int .i64 a, .int .i64 a]) (by simp [results, Try.results31, go_sem, *]) rfl ⟨rfl, by (repeat (first | exact Gr.rfl' | refine Gr.al ?_ _ | refine Gr.dr ?_ | refine Gr.drN ?_ | refine Gr.sc ?_ (by simp <;> omega) _ | refine Gr.tr ?_ (by assumption)))⟩
    · rw [if_neg hfg] at hr2
      obtain ⟨rfl, rfl⟩ := Prod.mk.inj hr2
      clear hr2
      rcases hF with ⟨hF, rfl⟩ | ⟨hF, rfl⟩ <;> rcases hT with ⟨hT, rfl⟩ | ⟨hT, rfl⟩
      all_goals
        go_enter Try.func31, Try.ntmps31
        go_wp2_with (first | (go_at_call 46; refine (rok_calls _ _ _ _).mono ?_; rintro e w1 ⟨rfl, hb⟩; obtain ⟨hc, hf⟩ := bcell hb; have hz := hb.size; (try simp at hz); have z0 : w.heap.size < w1.heap.size := (by omega); have z1 : w.heap.size + 1 < w1.heap.size := (by omega)) | (go_at_call 12; refine (rwidth_calls _ _).mono ?_; rintro e w' ⟨rfl, rfl⟩))
        first | (exact bodyPost_ret (v := .agg #[.int .i64 (a - a % wWidth k + wWidth k), .int .i64 (b - b % wWidth k)]) (by simp [results, Try.results31, go_sem, *]) rfl ⟨rfl, by (repeat (first | exact Gr.rfl' | refine Gr.al ?_ _ | refine Gr.dr ?_ | refine Gr.drN ?_ | refine Gr.sc ?_ (by simp <;> omega) _ | refine Gr.tr ?_ (by assumption)))⟩) | (exact bodyPost_ret (v := .agg #[.int .i64 (a - a % wWidth k + wWidth k), .int .i64 b]) (by simp [results, Try.results31, go_sem, *]) rfl ⟨rfl, by (repeat (first | exact Gr.rfl' | refine Gr.al ?_ _ | refine Gr.dr ?_ | refine Gr.drN ?_ | refine Gr.sc ?_ (by simp <;> omega) _ | refine Gr.tr ?_ (by assumption)))⟩) | (exact bodyPost_ret (v := .agg #[.int .i64 a, .int .i64 (b - b % wWidth k)]) (by simp [results, Try.results31, go_sem, *]) rfl ⟨rfl, by (repeat (first | exact Gr.rfl' | refine Gr.al ?_ _ | refine Gr.dr ?_ | refine Gr.drN ?_ | refine Gr.sc ?_ (by simp <;> omega) _ | refine Gr.tr ?_ (by assumption)))⟩) | (exact bodyPost_ret (v := .agg #[.int .i64 a, .int .i64 b]) (by simp [results, Try.results31, go_sem, *]) rfl ⟨rfl, by (repeat (first | exact Gr.rfl' | refine Gr.al ?_ _ | refine Gr.dr ?_ | refine Gr.drN ?_ | refine Gr.sc ?_ (by simp <;> omega) _ | refine Gr.tr ?_ (by assumption)))⟩)
end Go.Proofs.Ytafdddakkenlaaa

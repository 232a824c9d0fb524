import Derived.Test.YtafdddakkenlaaaWinX
namespace Go.Proofs.Ytafdddakkenlaaa
open Go.RowKit Go.Sort
attribute [local go_sem] max2_mx min2_mn max_two' min_two'
attribute [local go_sem ↓] field26_0 field26_1

theorem rcount_alt {a b k : Int} (h : (wCover (a, b) k).1 ≠ (wCover (a, b) k).2) : ((wCover (a, b) k).2 - (wCover (a, b) k).1 + wWidth k - 1) / wWidth k = wCount (a, b) k := by
  have hw := wCover_w h
  unfold wCount; rw [if_neg h]
  have hd : ∃ q : Int, (wCover (a, b) k).1 = q * wWidth k := by
    unfold wCover
    split
    · exact ⟨0, by simp⟩
    · rename_i h5
      have hm : wMay (a, b) k = true := by cases hh : wMay (a, b) k <;> simp_all
      obtain ⟨b1, b2, b3, b4⟩ := wMay_t hm
      have hs : wStart a k = a / wWidth k * wWidth k := by unfold wStart; rw [if_neg (by have : a ≠ 1099511627777 := fun e => h5 (.inr e); omega)]
      split <;> exact ⟨_, hs⟩
  obtain ⟨q, hq⟩ := hd
  rw [hq, show (wCover (a, b) k).2 - q * wWidth k + wWidth k - 1 = ((wCover (a, b) k).2 - 1) + (1 - q) * wWidth k by rw [Int.sub_mul]; omega, Int.add_mul_ediv_right _ _ (by omega), Int.mul_ediv_cancel _ (by omega)]
  omega

set_option maxHeartbeats 1000000 in
theorem rcount_calls (a b k : Int) (w : World) :
    Calls Try.prog 33 #[.agg #[.int .i64 a, .int .i64 b], .int .i64 k] w fun e w' => e = .returned (.int .i64 (wCount (a, b) k)) ∧ Gr w w' := by
  have hb := wCover_bd (a, b) k
  have hw := wWidth_bd k
  have hcal := rcover_calls a b k
  by_cases h1 : (wCover (a, b) k).1 = (wCover (a, b) k).2
  · have Hr := Lib.hid (show 0 = wCount (a, b) k by unfold wCount; rw [if_pos h1])
    have h1b : ((wCover (a, b) k).1 == (wCover (a, b) k).2) = true := by simp [h1]
    clear h1
    have Hcal := Lib.hid hcal; clear hcal
    go_enter Try.func33, Try.ntmps33
    go_wp2_with (first | (go_at_call 12; refine (rwidth_calls _ _).mono ?_; rintro e w' ⟨rfl, rfl⟩) | (go_at_call 29; refine (Hcal.out _).mono ?_; rintro e w1 ⟨rfl, hb⟩; obtain ⟨hc, hf⟩ := bcell hb; have hz := hb.size; (try simp at hz); have z0 : w.heap.size < w1.heap.size := (by omega)))
    go_ret; exact ⟨ret_i rfl Hr.out, by (repeat (first | exact Gr.rfl' | refine Gr.al ?_ _ | refine Gr.dr ?_ | refine Gr.drN ?_ | refine Gr.sc ?_ (by simp <;> omega) _ | refine Gr.tr ?_ (by assumption)))⟩
  · have h0 := wCover_w h1
    have hl := wCover_lt h1
    have Hr := Lib.hid (rcount_alt h1)
    have h1b : ((wCover (a, b) k).1 == (wCover (a, b) k).2) = false := by simp [h1]
    clear h1
    have Hcal := Lib.hid hcal; clear hcal
    generalize wCount (a, b) k = z at *
    generalize wCover (a, b) k = s at *
    obtain ⟨p, q⟩ := s
    simp only at hb hl h1b
    have w1 : IntKind.i64.wrap (q - p) = q - p := IntWalk.i64_in _ (by omega)
    have w2 : IntKind.i64.wrap (q - p + wWidth k) = q - p + wWidth k := IntWalk.i64_in _ (by omega)
    have w3 : IntKind.i64.wrap (q - p + wWidth k - 1) = q - p + wWidth k - 1 := IntWalk.i64_in _ (by omega)
    have h5 : 0 ≤ q - p + wWidth k - 1 := by omega
    have h6 : (q - p + wWidth k - 1) / wWidth k ≤ q - p + wWidth k - 1 := Int.ediv_le_self _ (by omega)
    have h7 : 0 ≤ (q - p + wWidth k - 1) / wWidth k := Int.ediv_nonneg (by omega) (by omega)
    go_enter Try.func33, Try.ntmps33
    go_wp2_with (first | (go_at_call 12; refine (rwidth_calls _ _).mono ?_; rintro e w' ⟨rfl, rfl⟩) | (go_at_call 29; refine (Hcal.out _).mono ?_; rintro e w1 ⟨rfl, hb⟩; obtain ⟨hc, hf⟩ := bcell hb; have hz := hb.size; (try simp at hz); have z0 : w.heap.size < w1.heap.size := (by omega)))
    go_ret; exact ⟨ret_i rfl Hr.out, by (repeat (first | exact Gr.rfl' | refine Gr.al ?_ _ | refine Gr.dr ?_ | refine Gr.drN ?_ | refine Gr.sc ?_ (by simp <;> omega) _ | refine Gr.tr ?_ (by assumption)))⟩

set_option maxHeartbeats 1000000 in
theorem rboth_calls (a b c d : Int) (w : World) :
    Calls Try.prog 25 #[.agg #[.int .i64 a, .int .i64 b], .agg #[.int .i64 c, .int .i64 d]] w fun e w' => e = .returned (.agg #[.int .i64 (wBoth (a, b) (c, d)).1, .int .i64 (wBoth (a, b) (c, d)).2]) ∧ Gr w w' := by
  have hr : wBoth (a, b) (c, d) = if wCheck (a, b) = 0 ∧ wCheck (c, d) = 0 ∧ mx a c < mn b d then (mx a c, mn b d) else (0, 0) := rfl
  rw [hr]; clear hr
  obtain ⟨r, hr⟩ : ∃ r : Int × Int, (if wCheck (a, b) = 0 ∧ wCheck (c, d) = 0 ∧ mx a c < mn b d then (mx a c, mn b d) else (0, 0)) = r := ⟨_, rfl⟩
  rw [hr]
  obtain ⟨r1, r2⟩ := r
  go_enter Try.func25, Try.ntmps25
  go_wp2_with fail
  refine (is_calls a b _).mono ?_
  rintro e w1 ⟨rfl, hb⟩
  have cA : w1.cell? ⟨w.heap.size, 0, none⟩ = some (.int .i64 a) := keepc hb (by simp [go_sem])
  have cB : w1.cell? ⟨w.heap.size, 1, none⟩ = some (.int .i64 b) := keepc hb (by simp [go_sem])
  have cX : w1.cell? ⟨w.heap.size + 1, 0, none⟩ = some (.int .i64 c) := keepc hb (by simp [go_sem])
  have cY : w1.cell? ⟨w.heap.size + 1, 1, none⟩ = some (.int .i64 d) := keepc hb (by simp [go_sem])
  have cC : w1.cell? ⟨w.heap.size + 1 + 1, 0, none⟩ = some (cv w1 (w.heap.size + 1 + 1) 0) := cv_of (by rw [keepc hb (v := .int .i64 0) (by simp [go_sem])]; rfl)
  have cD : w1.cell? ⟨w.heap.size + 1 + 1, 1, none⟩ = some (cv w1 (w.heap.size + 1 + 1) 1) := cv_of (by rw [keepc hb (v := .int .i64 0) (by simp [go_sem])]; rfl)
  have fC : w1.frozen? ⟨w.heap.size + 1 + 1, 0, none⟩ = false := keepf hb (v := .int .i64 0) (by simp [go_sem]) (by simp [go_sem])
  have fD : w1.frozen? ⟨w.heap.size + 1 + 1, 1, none⟩ = false := keepf hb (v := .int .i64 0) (by simp [go_sem]) (by simp [go_sem])
  have hG : Gr w w1 := by (repeat (first | exact Gr.rfl' | refine Gr.al ?_ _ | refine Gr.dr ?_ | refine Gr.drN ?_ | refine Gr.sc ?_ (by simp <;> omega) _ | refine Gr.tr ?_ (by assumption)))
  clear hb
  go_wp2_with fail
  refine (is_calls c d _).mono ?_
  rintro e w2 ⟨rfl, hb⟩
  replace fC := keepf hb cC fC
  replace fD := keepf hb cD fD
  replace cC := cv_gr hb cC
  replace cD := cv_gr hb cD
  replace hG := hG.tr hb
  replace cA := keepc hb cA; replace cB := keepc hb cB; replace cX := keepc hb cX; replace cY := keepc hb cY
  clear hb
  have hz : w.heap.size + 1 + 1 < w2.heap.size := World.block_lt_of_cell? _ _ cC
  clear w1
  by_cases h1 : wCheck (a, b) = 0
  · by_cases h2 : wCheck (c, d) = 0
    · have h1b : decide (wCheck (a, b) = 0) = true := by simp [h1]
      have h2b : decide (wCheck (c, d) = 0) = true := by simp [h2]
      have cA2 := fun x => keepc (Gr.al Gr.rfl' x) cA
      have cB2 := fun x => keepc (Gr.al Gr.rfl' x) cB
      have cX2 := fun x => keepc (Gr.al Gr.rfl' x) cX
      have cY2 := fun x => keepc (Gr.al Gr.rfl' x) cY
      have fC2 := fun x => keepf (Gr.al Gr.rfl' x) cC fC
      have fD2 := fun x => keepf (Gr.al Gr.rfl' x) cD fD
      have cC2 := fun x => keepc (Gr.al Gr.rfl' x) cC
      have cD2 := fun x => keepc (Gr.al Gr.rfl' x) cD
      by_cases e1 : a < c <;> by_cases e2 : d < b
      · have q1 : mx a c = c := by unfold mx; rw [if_pos e1]
        have q2 : mn b d = d := by unfold mn; rw [if_pos e2]
        by_cases h3 : c < d
        · rw [if_pos ⟨h1, h2, by rw [q1, q2]; exact h3⟩, q1, q2] at hr; obtain ⟨rfl, rfl⟩ := Prod.mk.inj hr; clear hr
          clear h1 h2 q1 q2
          go_wp2_with fail
          exact bodyPost_ret (v := .agg #[.int .i64 c, .int .i64 d]) (by simp [results, Try.results25, go_sem, *]) rfl ⟨rfl, by (repeat (first | exact Gr.rfl' | refine Gr.al ?_ _ | refine Gr.dr ?_ | refine Gr.drN ?_ | refine Gr.sc ?_ (by simp <;> omega) _ | refine Gr.tr ?_ (by assumption)))⟩
        · rw [if_neg (fun h => h3 (by rw [← q1, ← q2]; exact h.2.2))] at hr; obtain ⟨rfl, rfl⟩ := Prod.mk.inj hr; clear hr
          clear h1 h2 q1 q2
          go_wp2_with fail
          exact bodyPost_ret (v := .agg #[.int .i64 0, .int .i64 0]) (by simp [results, Try.results25, go_sem, *]) rfl ⟨rfl, by (repeat (first | exact Gr.rfl' | refine Gr.al ?_ _ | refine Gr.dr ?_ | refine Gr.drN ?_ | refine Gr.sc ?_ (by simp <;> omega) _ | refine Gr.tr ?_ (by assumption)))⟩
      · have q1 : mx a c = c := by unfold mx; rw [if_pos e1]
        have q2 : mn b d = b := by unfold mn; rw [if_neg e2]
        by_cases h3 : c < b
        · rw [if_pos ⟨h1, h2, by rw [q1, q2]; exact h3⟩, q1, q2] at hr; obtain ⟨rfl, rfl⟩ := Prod.mk.inj hr; clear hr
          clear h1 h2 q1 q2
          go_wp2_with fail
          exact bodyPost_ret (v := .agg #[.int .i64 c, .int .i64 b]) (by simp [results, Try.results25, go_sem, *]) rfl ⟨rfl, by (repeat (first | exact Gr.rfl' | refine Gr.al ?_ _ | refine Gr.dr ?_ | refine Gr.drN ?_ | refine Gr.sc ?_ (by simp <;> omega) _ | refine Gr.tr ?_ (by assumption)))⟩
        · rw [if_neg (fun h => h3 (by rw [← q1, ← q2]; exact h.2.2))] at hr; obtain ⟨rfl, rfl⟩ := Prod.mk.inj hr; clear hr
          clear h1 h2 q1 q2
          go_wp2_with fail
          exact bodyPost_ret (v := .agg #[.int .i64 0, .int .i64 0]) (by simp [results, Try.results25, go_sem, *]) rfl ⟨rfl, by (repeat (first | exact Gr.rfl' | refine Gr.al ?_ _ | refine Gr.dr ?_ | refine Gr.drN ?_ | refine Gr.sc ?_ (by simp <;> omega) _ | refine Gr.tr ?_ (by assumption)))⟩
      · have q1 : mx a c = a := by unfold mx; rw [if_neg e1]
        have q2 : mn b d = d := by unfold mn; rw [if_pos e2]
        by_cases h3 : a < d
        · rw [if_pos ⟨h1, h2, by rw [q1, q2]; exact h3⟩, q1, q2] at hr; obtain ⟨rfl, rfl⟩ := Prod.mk.inj hr; clear hr
          clear h1 h2 q1 q2
          go_wp2_with fail
          exact bodyPost_ret (v := .agg #[.int .i64 a, .int .i64 d]) (by simp [results, Try.results25, go_sem, *]) rfl ⟨rfl, by (repeat (first | exact Gr.rfl' | refine Gr.al ?_ _ | refine Gr.dr ?_ | refine Gr.drN ?_ | refine Gr.sc ?_ (by simp <;> omega) _ | refine Gr.tr ?_ (by assumption)))⟩
        · rw [if_neg (fun h => h3 (by rw [← q1, ← q2]; exact h.2.2))] at hr; obtain ⟨rfl, rfl⟩ := Prod.mk.inj hr; clear hr
          clear h1 h2 q1 q2
          go_wp2_with fail
          exact bodyPost_ret (v := .agg #[.int .i64 0, .int .i64 0]) (by simp [results, Try.results25, go_sem, *]) rfl ⟨rfl, by (repeat (first | exact Gr.rfl' | refine Gr.al ?_ _ | refine Gr.dr ?_ | refine Gr.drN ?_ | refine Gr.sc ?_ (by simp <;> omega) _ | refine Gr.tr ?_ (by assumption)))⟩
      · have q1 : mx a c = a := by unfold mx; rw [if_neg e1]
        have q2 : mn b d = b := by unfold mn; rw [if_neg e2]
        by_cases h3 : a < b
        · rw [if_pos ⟨h1, h2, by rw [q1, q2]; exact h3⟩, q1, q2] at hr; obtain ⟨rfl, rfl⟩ := Prod.mk.inj hr; clear hr
          clear h1 h2 q1 q2
          go_wp2_with fail
          exact bodyPost_ret (v := .agg #[.int .i64 a, .int .i64 b]) (by simp [results, Try.results25, go_sem, *]) rfl ⟨rfl, by (repeat (first | exact Gr.rfl' | refine Gr.al ?_ _ | refine Gr.dr ?_ | refine Gr.drN ?_ | refine Gr.sc ?_ (by simp <;> omega) _ | refine Gr.tr ?_ (by assumption)))⟩
        · rw [if_neg (fun h => h3 (by rw [← q1, ← q2]; exact h.2.2))] at hr; obtain ⟨rfl, rfl⟩ := Prod.mk.inj hr; clear hr
          clear h1 h2 q1 q2
          go_wp2_with fail
          exact bodyPost_ret (v := .agg #[.int .i64 0, .int .i64 0]) (by simp [results, Try.results25, go_sem, *]) rfl ⟨rfl, by (repeat (first | exact Gr.rfl' | refine Gr.al ?_ _ | refine Gr.dr ?_ | refine Gr.drN ?_ | refine Gr.sc ?_ (by simp <;> omega) _ | refine Gr.tr ?_ (by assumption)))⟩
    · rw [if_neg (fun h => h2 h.2.1)] at hr; obtain ⟨rfl, rfl⟩ := Prod.mk.inj hr; clear hr
      have h1b : decide (wCheck (a, b) = 0) = true := by simp [h1]
      have h2b : decide (wCheck (c, d) = 0) = false := by simp [h2]
      clear h1 h2
      go_wp2_with fail
      exact bodyPost_ret (v := .agg #[.int .i64 0, .int .i64 0]) (by simp [results, Try.results25, go_sem, *]) rfl ⟨rfl, by (repeat (first | exact Gr.rfl' | refine Gr.al ?_ _ | refine Gr.dr ?_ | refine Gr.drN ?_ | refine Gr.sc ?_ (by simp <;> omega) _ | refine Gr.tr ?_ (by assumption)))⟩
  · rw [if_neg (fun h => h1 h.1)] at hr; obtain ⟨rfl, rfl⟩ := Prod.mk.inj hr; clear hr
    have h1b : decide (wCheck (a, b) = 0) = false := by simp [h1]
    clear h1
    go_wp2_with fail
    exact bodyPost_ret (v := .agg #[.int .i64 0, .int .i64 0]) (by simp [results, Try.results25, go_sem, *]) rfl ⟨rfl, by (repeat (first | exact Gr.rfl' | refine Gr.al ?_ _ | refine Gr.dr ?_ | refine Gr.drN ?_ | refine Gr.sc ?_ (by simp <;> omega) _ | refine Gr.tr ?_ (by assumption)))⟩
end Go.Proofs.Ytafdddakkenlaaa

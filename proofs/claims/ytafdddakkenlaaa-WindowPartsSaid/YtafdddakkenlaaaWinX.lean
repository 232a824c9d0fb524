import Derived.Test.YtafdddakkenlaaaWinU
namespace Go.Proofs.Ytafdddakkenlaaa
open Go.RowKit Go.Sort
attribute [local go_sem] max2_mx min2_mn max_two' min_two'
attribute [local go_sem ↓] field26_0 field26_1

set_option maxHeartbeats 400000 in
theorem rok_calls (a b k : Int) (w : World) :
    Calls Try.prog 46 #[.agg #[.int .i64 a, .int .i64 b], .int .i64 k] w fun e w' => e = .returned (.bool (wMay (a, b) k)) ∧ Gr w w' := by
  by_cases h1 : wCheck (a, b) = 0
  · have Hr := Lib.hid (show decide (0 < wWidth k) = wMay (a, b) k by simp [wMay, h1])
    have h1b : decide (wCheck (a, b) = 0) = true := by simp [h1]
    clear h1
    go_enter Try.func46, Try.ntmps46
    go_wp2_with (first | (go_at_call 24; refine (is_calls _ _ _).mono ?_; rintro e w1 ⟨rfl, hb⟩; obtain ⟨hc, hf⟩ := bcell hb; have hz := hb.size; (try simp at hz); have z0 : w.heap.size < w1.heap.size := (by omega)) | (go_at_call 12; refine (rwidth_calls _ _).mono ?_; rintro e w' ⟨rfl, rfl⟩))
    go_ret; exact ⟨ret_b rfl Hr.out, by (repeat (first | exact Gr.rfl' | refine Gr.al ?_ _ | refine Gr.dr ?_ | refine Gr.drN ?_ | refine Gr.sc ?_ (by simp <;> omega) _ | refine Gr.tr ?_ (by assumption)))⟩
  · have Hr := Lib.hid (show false = wMay (a, b) k by simp [wMay, h1])
    have h1b : decide (wCheck (a, b) = 0) = false := by simp [h1]
    clear h1
    go_enter Try.func46, Try.ntmps46
    go_wp2_with (first | (go_at_call 24; refine (is_calls _ _ _).mono ?_; rintro e w1 ⟨rfl, hb⟩; obtain ⟨hc, hf⟩ := bcell hb; have hz := hb.size; (try simp at hz); have z0 : w.heap.size < w1.heap.size := (by omega)) | (go_at_call 12; refine (rwidth_calls _ _).mono ?_; rintro e w' ⟨rfl, rfl⟩))
    go_ret; exact ⟨ret_b rfl Hr.out, by (repeat (first | exact Gr.rfl' | refine Gr.al ?_ _ | refine Gr.dr ?_ | refine Gr.drN ?_ | refine Gr.sc ?_ (by simp <;> omega) _ | refine Gr.tr ?_ (by assumption)))⟩

set_option maxHeartbeats 1000000 in
theorem raligned_calls (a b k : Int) (w : World) :
    Calls Try.prog 27 #[.agg #[.int .i64 a, .int .i64 b], .int .i64 k] w fun e w' => e = .returned (.bool (wAligned (a, b) k)) ∧ Gr w w' := by
  cases h1 : wMay (a, b) k
  · have Hr := Lib.hid (show false = wAligned (a, b) k by simp [wAligned, h1])
    go_enter Try.func27, Try.ntmps27
    go_wp2_with (first | (go_at_call 46; refine (rok_calls _ _ _ _).mono ?_; rintro e w1 ⟨rfl, hb⟩; obtain ⟨hc, hf⟩ := bcell hb; have hz := hb.size; (try simp at hz); have z0 : w.heap.size < w1.heap.size := (by omega)))
    go_ret; exact ⟨ret_b rfl Hr.out, by (repeat (first | exact Gr.rfl' | refine Gr.al ?_ _ | refine Gr.dr ?_ | refine Gr.drN ?_ | refine Gr.sc ?_ (by simp <;> omega) _ | refine Gr.tr ?_ (by assumption)))⟩
  · obtain ⟨b1, b2, b3, b4⟩ := wMay_t h1
    have b5 : 0 ≤ b := by omega
    have hne : wWidth k ≠ 0 := by omega
    have hr : ((a % wWidth k == 0 || a == 1099511627777) && (b % wWidth k == 0 || b == 1099511627777)) = wAligned (a, b) k := by
      rw [wAligned, h1, Bool.true_and, wEdge, wEdge, Bool.or_comm, Bool.or_comm (b % wWidth k == 0)]
      rfl
    cases e1 : (a % wWidth k == 0) <;> cases e2 : (a == 1099511627777) <;> cases e3 : (b % wWidth k == 0) <;> cases e4 : (b == 1099511627777)
    all_goals
      rw [e1, e2, e3, e4] at hr
      have Hr := Lib.hid hr; clear hr
      go_enter Try.func27, Try.ntmps27
      go_wp2_with (first | (go_at_call 46; refine (rok_calls _ _ _ _).mono ?_; rintro e w1 ⟨rfl, hb⟩; obtain ⟨hc, hf⟩ := bcell hb; have hz := hb.size; (try simp at hz); have z0 : w.heap.size < w1.heap.size := (by omega)) | (go_at_call 12; refine (rwidth_calls _ _).mono ?_; rintro e w' ⟨rfl, rfl⟩))
      go_ret
      exact ⟨ret_b rfl (by rw [← Hr.out]; rfl), by (repeat (first | exact Gr.rfl' | refine Gr.al ?_ _ | refine Gr.dr ?_ | refine Gr.drN ?_ | refine Gr.sc ?_ (by simp <;> omega) _ | refine Gr.tr ?_ (by assumption)))⟩

theorem mod_bd {a w : Int} (h0 : 0 ≤ a) (hw : 0 < w) : 0 ≤ a % w ∧ a % w ≤ a := by
  refine ⟨Int.emod_nonneg _ (by omega), ?_⟩
  have := Int.mul_ediv_add_emod a w
  have : 0 ≤ w * (a / w) := Int.mul_nonneg (by omega) (Int.ediv_nonneg (by omega) (by omega))
  omega

set_option maxHeartbeats 2000000 in
theorem rcover_calls (a b k : Int) (w : World) :
    Calls Try.prog 29 #[.agg #[.int .i64 a, .int .i64 b], .int .i64 k] w fun e w' => e = .returned (.agg #[.int .i64 (wCover (a, b) k).1, .int .i64 (wCover (a, b) k).2]) ∧ Gr w w' := by
  have hr : wCover (a, b) k = if wMay (a, b) k = false ∨ a = 1099511627777 then (0, 0) else if a = b then (wStart a k, wStart a k) else (wStart a k, (wOf (b - 1) k).2) := rfl
  rw [hr]; clear hr
  cases h1 : wMay (a, b) k
  · rw [if_pos (.inl rfl)]
    go_enter Try.func29, Try.ntmps29
    go_wp2_with (first | (go_at_call 46; refine (rok_calls _ _ _ _).mono ?_; rintro e w1 ⟨rfl, hb⟩; obtain ⟨hc, hf⟩ := bcell hb; have hz := hb.size; (try simp at hz); have z0 : w.heap.size < w1.heap.size := (by omega); have z1 : w.heap.size + 1 < w1.heap.size := (by omega)))
    exact bodyPost_ret (v := .agg #[.int .i64 0, .int .i64 0]) (by simp [results, Try.results29, go_sem, *]) rfl ⟨rfl, by (repeat (first | exact Gr.rfl' | refine Gr.al ?_ _ | refine Gr.dr ?_ | refine Gr.drN ?_ | refine Gr.sc ?_ (by simp <;> omega) _ | refine Gr.tr ?_ (by assumption)))⟩
  · obtain ⟨b1, b2, b3, b4⟩ := wMay_t h1
    have b5 : 0 ≤ b := by omega
    have hne : wWidth k ≠ 0 := by omega
    have hm := mod_bd b1 b4
    by_cases h3 : a = b
    · have h3b : (a == b) = true := by simp [h3]
      by_cases h2 : a = 1099511627777
      · rw [if_pos (.inr h2)]
        have h2b : (a == 1099511627777) = true := by simp [h2]
        clear h2 h3 hm
        go_enter Try.func29, Try.ntmps29
        go_wp2_with (first | (go_at_call 46; refine (rok_calls _ _ _ _).mono ?_; rintro e w1 ⟨rfl, hb⟩; obtain ⟨hc, hf⟩ := bcell hb; have hz := hb.size; (try simp at hz); have z0 : w.heap.size < w1.heap.size := (by omega); have z1 : w.heap.size + 1 < w1.heap.size := (by omega)) | (go_at_call 12; refine (rwidth_calls _ _).mono ?_; rintro e w' ⟨rfl, rfl⟩))
        exact bodyPost_ret (v := .agg #[.int .i64 0, .int .i64 0]) (by simp [results, Try.results29, go_sem, *]) rfl ⟨rfl, by (repeat (first | exact Gr.rfl' | refine Gr.al ?_ _ | refine Gr.dr ?_ | refine Gr.drN ?_ | refine Gr.sc ?_ (by simp <;> omega) _ | refine Gr.tr ?_ (by assumption)))⟩
      · rw [if_neg (by simp [h2]), if_pos h3]
        have h2b : (a == 1099511627777) = false := by simp [h2]
        rw [start_alt (by omega) (by omega) hne]
        have hw1 : IntKind.i64.wrap (a - a.tmod (wWidth k)) = a - a % wWidth k := by rw [Int.tmod_eq_emod_of_nonneg b1]; exact IntWalk.i64_in _ (by omega)
        clear h2 h3
        go_enter Try.func29, Try.ntmps29
        go_wp2_with (first | (go_at_call 46; refine (rok_calls _ _ _ _).mono ?_; rintro e w1 ⟨rfl, hb⟩; obtain ⟨hc, hf⟩ := bcell hb; have hz := hb.size; (try simp at hz); have z0 : w.heap.size < w1.heap.size := (by omega); have z1 : w.heap.size + 1 < w1.heap.size := (by omega)) | (go_at_call 12; refine (rwidth_calls _ _).mono ?_; rintro e w' ⟨rfl, rfl⟩))
        have cA : w1.cell? ⟨w.heap.size, 0, none⟩ = some (.int .i64 a) := by rw [hc _ _ (by simp <;> omega)]; simp
        have cC := cv_of (w := w1) (b := w.heap.size + 1) (o := 0) (by rw [hc _ _ (by simp <;> omega)]; simp)
        have cD := cv_of (w := w1) (b := w.heap.size + 1) (o := 1) (by rw [hc _ _ (by simp <;> omega)]; simp)
        have fC : w1.frozen? ⟨w.heap.size + 1, 0, none⟩ = false := by rw [hf _ _ (by simp <;> omega)]; simp
        have fD : w1.frozen? ⟨w.heap.size + 1, 1, none⟩ = false := by rw [hf _ _ (by simp <;> omega)]; simp
        clear hc hf
        have q := set2 (w := w1) (.int .i64 (a - a % wWidth k)) (.int .i64 (a - a % wWidth k)) cC cD
        go_region_held3 (fun w' => w'.cell? ⟨w.heap.size, 0, none⟩ = some (.int .i64 a) ∧ w'.cell? ⟨w.heap.size + 1, 0, none⟩ = some (cv w' (w.heap.size + 1) 0) ∧ w'.cell? ⟨w.heap.size + 1, 1, none⟩ = some (cv w' (w.heap.size + 1) 1) ∧ w'.frozen? ⟨w.heap.size + 1, 0, none⟩ = false ∧ w'.frozen? ⟨w.heap.size + 1, 1, none⟩ = false) ((with_reducible (repeat (first | assumption | refine And.intro ?_ ?_ | (rw [World.cell?_drew, World.cell?_setCell_other _ _ _ _ (by simp), World.cell?_setCell_other _ _ _ _ (by simp)]; assumption) | (rw [World.frozen?_drew, World.frozen?_setCell, World.frozen?_setCell]; assumption) | refine cv_dr ?_ | refine cv_sc _ _ ?_ | (rw [World.cell?_drew]; assumption) | (rw [World.frozen?_drew]; assumption) | (rw [World.frozen?_setCell]) | (refine cv_gr hb ?_; first | assumption | (refine cv_dr ?_; assumption)) | (refine keepc hb ?_; first | assumption | (rw [World.cell?_drew]; assumption)) | (refine keepf' hb ?_ ?_ <;> first | assumption | (refine cv_dr ?_; assumption) | (rw [World.frozen?_drew]; assumption)) | (rw [World.cell?_setCell_other _ _ _ _ (by simp)]))))) (fail)
        go_wp2
        exact bodyPost_ret (v := .agg #[.int .i64 (a - a % wWidth k), .int .i64 (a - a % wWidth k)]) (by simp [results, Try.results29, go_sem, q]) rfl ⟨rfl, by (repeat (first | exact Gr.rfl' | refine Gr.al ?_ _ | refine Gr.dr ?_ | refine Gr.drN ?_ | refine Gr.sc ?_ (by simp <;> omega) _ | refine Gr.tr ?_ (by assumption)))⟩
    · have h2 : a ≠ 1099511627777 := by omega
      rw [if_neg (by simp [h2]), if_neg h3]
      have h3b : (a == b) = false := by simp [h3]
      have hs0 := start_alt (t := b - 1) (k := k) (by omega) (by omega) hne
      have hm2 := mod_bd (a := b - 1) (by omega) b4
      have hof : (wOf (b - 1) k).2 = mn (b - 1 - (b - 1) % wWidth k + wWidth k) 1099511627777 := by
        unfold wOf; rw [if_neg (by omega), hs0]
      rw [start_alt (by omega) (by omega) hne, hof]
      clear hof
      have hwb := wWidth_bd k
      have hw1 : IntKind.i64.wrap (a - a.tmod (wWidth k)) = a - a % wWidth k := by rw [Int.tmod_eq_emod_of_nonneg b1]; exact IntWalk.i64_in _ (by omega)
      have hw2 : IntKind.i64.wrap (b - 1 - (b - 1).tmod (wWidth k)) = b - 1 - (b - 1) % wWidth k := by rw [Int.tmod_eq_emod_of_nonneg (by omega)]; exact IntWalk.i64_in _ (by omega)
      have hw3 : IntKind.i64.wrap (b - 1 - (b - 1) % wWidth k + wWidth k) = b - 1 - (b - 1) % wWidth k + wWidth k := IntWalk.i64_in _ (by omega)
      have b6 : 0 ≤ b - 1 := by omega
      have b7 : a < b := by omega
      clear hs0 h3
      go_enter Try.func29, Try.ntmps29
      go_wp2_with (first | (go_at_call 46; refine (rok_calls _ _ _ _).mono ?_; rintro e w1 ⟨rfl, hb⟩; obtain ⟨hc, hf⟩ := bcell hb; have hz := hb.size; (try simp at hz); have z0 : w.heap.size < w1.heap.size := (by omega); have z1 : w.heap.size + 1 < w1.heap.size := (by omega)) | (go_at_call 12; refine (rwidth_calls _ _).mono ?_; rintro e w' ⟨rfl, rfl⟩))
      have cA : w1.cell? ⟨w.heap.size, 0, none⟩ = some (.int .i64 a) := by rw [hc _ _ (by simp <;> omega)]; simp
      have cC := cv_of (w := w1) (b := w.heap.size + 1) (o := 0) (by rw [hc _ _ (by simp <;> omega)]; simp)
      have cD := cv_of (w := w1) (b := w.heap.size + 1) (o := 1) (by rw [hc _ _ (by simp <;> omega)]; simp)
      have fC : w1.frozen? ⟨w.heap.size + 1, 0, none⟩ = false := by rw [hf _ _ (by simp <;> omega)]; simp
      have fD : w1.frozen? ⟨w.heap.size + 1, 1, none⟩ = false := by rw [hf _ _ (by simp <;> omega)]; simp
      clear hc hf
      have q := set2 (w := w1) (.int .i64 (a - a % wWidth k)) (.int .i64 (mn (b - 1 - (b - 1) % wWidth k + wWidth k) 1099511627777)) cC cD
      go_region_held3 (fun w' => w'.cell? ⟨w.heap.size, 0, none⟩ = some (.int .i64 a) ∧ w'.cell? ⟨w.heap.size + 1, 0, none⟩ = some (cv w' (w.heap.size + 1) 0) ∧ w'.cell? ⟨w.heap.size + 1, 1, none⟩ = some (cv w' (w.heap.size + 1) 1) ∧ w'.frozen? ⟨w.heap.size + 1, 0, none⟩ = false ∧ w'.frozen? ⟨w.heap.size + 1, 1, none⟩ = false) ((with_reducible (repeat (first | assumption | refine And.intro ?_ ?_ | (rw [World.cell?_drew, World.cell?_setCell_other _ _ _ _ (by simp), World.cell?_setCell_other _ _ _ _ (by simp)]; assumption) | (rw [World.frozen?_drew, World.frozen?_setCell, World.frozen?_setCell]; assumption) | refine cv_dr ?_ | refine cv_sc _ _ ?_ | (rw [World.cell?_drew]; assumption) | (rw [World.frozen?_drew]; assumption) | (rw [World.frozen?_setCell]) | (refine cv_gr hb ?_; first | assumption | (refine cv_dr ?_; assumption)) | (refine keepc hb ?_; first | assumption | (rw [World.cell?_drew]; assumption)) | (refine keepf' hb ?_ ?_ <;> first | assumption | (refine cv_dr ?_; assumption) | (rw [World.frozen?_drew]; assumption)) | (rw [World.cell?_setCell_other _ _ _ _ (by simp)]))))) (first | (go_at_call 42; refine (rcut_calls _ _).mono ?_; rintro e w' ⟨rfl, rfl⟩))
      go_wp2
      exact bodyPost_ret (v := .agg #[.int .i64 (a - a % wWidth k), .int .i64 (mn (b - 1 - (b - 1) % wWidth k + wWidth k) 1099511627777)]) (by simp [results, Try.results29, go_sem, q]) rfl ⟨rfl, by (repeat (first | exact Gr.rfl' | refine Gr.al ?_ _ | refine Gr.dr ?_ | refine Gr.drN ?_ | refine Gr.sc ?_ (by simp <;> omega) _ | refine Gr.tr ?_ (by assumption)))⟩
end Go.Proofs.Ytafdddakkenlaaa

import Derived.Test.YtafdddakkenlaaaWinQ
namespace Go.Proofs.Ytafdddakkenlaaa
open Go.RowKit Go.Sort
attribute [local go_sem ↓] field26_0 field26_1

set_option maxHeartbeats 400000 in
theorem rwidth_calls (t : Int) (w : World) :
    Calls Try.prog 12 #[.int .i64 t] w fun e w' => e = .returned (.int .i64 (wWidth t)) ∧ w = w' := by
  go_enter Try.func12, Try.ntmps12
  go_wp2
  all_goals
    go_ret
    exact ⟨by simp_all [wWidth], rfl⟩

theorem start_alt {t k : Int} (h1 : ¬ t < 0) (h2 : ¬ 1099511627777 ≤ t) (h3 : ¬ wWidth k = 0) : wStart t k = t - t % wWidth k := by
  unfold wStart; rw [if_neg (by omega)]
  have := Int.mul_ediv_add_emod t (wWidth k)
  rw [Int.mul_comm] at this; omega

set_option maxHeartbeats 400000 in
theorem rstart_calls (t k : Int) (w : World) :
    Calls Try.prog 14 #[.int .i64 t, .int .i64 k] w fun e w' => e = .returned (.int .i64 (wStart t k)) ∧ w = w' := by
  have hw := wWidth_bd k
  by_cases h1 : t < 0
  · have Hr := Lib.hid (show -1 = wStart t k by unfold wStart; rw [if_pos (by omega)])
    go_enter Try.func14, Try.ntmps14
    go_wp2_with (go_at_call 12; refine (rwidth_calls _ _).mono ?_; rintro e w' ⟨rfl, rfl⟩)
    go_ret
    exact ⟨ret_i rfl Hr.out, rfl⟩
  by_cases h2 : 1099511627777 ≤ t
  · have Hr := Lib.hid (show -1 = wStart t k by unfold wStart; rw [if_pos (by omega)])
    go_enter Try.func14, Try.ntmps14
    go_wp2_with (go_at_call 12; refine (rwidth_calls _ _).mono ?_; rintro e w' ⟨rfl, rfl⟩)
    go_ret
    exact ⟨ret_i rfl Hr.out, rfl⟩
  by_cases h3 : wWidth k = 0
  · have Hr := Lib.hid (show -1 = wStart t k by unfold wStart; rw [if_pos (by omega)])
    have h3b : (wWidth k == 0) = true := by simp [h3]
    clear h3
    go_enter Try.func14, Try.ntmps14
    go_wp2_with (go_at_call 12; refine (rwidth_calls _ _).mono ?_; rintro e w' ⟨rfl, rfl⟩)
    go_ret
    exact ⟨ret_i rfl Hr.out, rfl⟩
  · have h3b : (wWidth k == 0) = false := by simp [h3]
    have hp : 1 ≤ wWidth k := by omega
    have Hr := Lib.hid (start_alt h1 h2 h3).symm
    have hm1 : 0 ≤ t % wWidth k := Int.emod_nonneg _ h3
    have hm2 : t % wWidth k ≤ t := by have := Int.mul_ediv_add_emod t (wWidth k); have : 0 ≤ wWidth k * (t / wWidth k) := Int.mul_nonneg (by omega) (Int.ediv_nonneg (by omega) (by omega)); omega
    clear h3
    go_enter Try.func14, Try.ntmps14
    go_wp2_with (go_at_call 12; refine (rwidth_calls _ _).mono ?_; rintro e w' ⟨rfl, rfl⟩)
    go_ret
    exact ⟨ret_i rfl Hr.out, rfl⟩

set_option maxHeartbeats 400000 in
theorem rcut_calls (n : Int) (w : World) :
    Calls Try.prog 42 #[.int .i64 n] w fun e w' => e = .returned (.int .i64 (mn n 1099511627777)) ∧ w = w' := by
  by_cases h : 1099511627777 < n
  · have Hr := Lib.hid (show 1099511627777 = mn n 1099511627777 by rw [mn_eq]; omega)
    go_enter Try.func42, Try.ntmps42
    go_wp2
    go_ret
    exact ⟨ret_i rfl Hr.out, rfl⟩
  · have Hr := Lib.hid (show n = mn n 1099511627777 by rw [mn_eq]; omega)
    go_enter Try.func42, Try.ntmps42
    go_wp2
    go_ret
    exact ⟨ret_i rfl Hr.out, rfl⟩

set_option maxHeartbeats 400000 in
theorem rof_calls (t k : Int) (w : World) :
    Calls Try.prog 16 #[.int .i64 t, .int .i64 k] w fun e w' => e = .returned (.agg #[.int .i64 (wOf t k).1, .int .i64 (wOf t k).2]) ∧ Gr w w' := by
  have hs := wStart_bd t k
  have hw := wWidth_bd k
  by_cases h1 : wStart t k < 0
  · have hr : wOf t k = (0, 0) := by unfold wOf; rw [if_pos h1]
    rw [hr]; clear hr
    go_enter Try.func16, Try.ntmps16
    go_wp2_with (first | (go_at_call 14; refine (rstart_calls _ _ _).mono ?_; rintro e w' ⟨rfl, rfl⟩) | (go_at_call 12; refine (rwidth_calls _ _).mono ?_; rintro e w' ⟨rfl, rfl⟩))
    exact bodyPost_ret (v := .agg #[.int .i64 0, .int .i64 0]) (by simp [results, Try.results16, go_sem, *]) rfl ⟨rfl, by (repeat (first | exact Gr.rfl' | refine Gr.al ?_ _ | refine Gr.dr ?_ | refine Gr.drN ?_ | refine Gr.sc ?_ (by simp <;> omega) _ | refine Gr.tr ?_ (by assumption)))⟩
  · have hr : wOf t k = (wStart t k, mn (wStart t k + wWidth k) 1099511627777) := by unfold wOf; rw [if_neg h1]
    rw [hr]; clear hr
    go_enter Try.func16, Try.ntmps16
    go_wp2_with (first | (go_at_call 14; refine (rstart_calls _ _ _).mono ?_; rintro e w' ⟨rfl, rfl⟩) | (go_at_call 12; refine (rwidth_calls _ _).mono ?_; rintro e w' ⟨rfl, rfl⟩) | (go_at_call 42; refine (rcut_calls _ _).mono ?_; rintro e w' ⟨rfl, rfl⟩))
    exact bodyPost_ret (v := .agg #[.int .i64 (wStart t k), .int .i64 (mn (wStart t k + wWidth k) 1099511627777)]) (by simp [results, Try.results16, go_sem, *]) rfl ⟨rfl, by (repeat (first | exact Gr.rfl' | refine Gr.al ?_ _ | refine Gr.dr ?_ | refine Gr.drN ?_ | refine Gr.sc ?_ (by simp <;> omega) _ | refine Gr.tr ?_ (by assumption)))⟩

set_option maxHeartbeats 1000000 in
theorem times_calls (t k : Int) (w : World) : Calls Try.prog 3 #[.int .i64 t, .int .i64 k] w fun e w' => e = .returned (.bool true) ∧ Gr w w' := by
  go_enter Try.func3, Try.ntmps3
  go_wp2_with (first | (go_at_call 10; refine (awake_calls _).mono ?_; rintro e w1 ⟨rfl, hb⟩) | (go_at_call 14; refine (rstart_calls _ _ _).mono ?_; rintro e w' ⟨rfl, rfl⟩) | (go_at_call 12; refine (rwidth_calls _ _).mono ?_; rintro e w' ⟨rfl, rfl⟩) | (go_at_call 13; refine (start_calls _ _ _).mono ?_; rintro e w' ⟨rfl, rfl⟩) | (go_at_call 11; refine (width_calls _ _).mono ?_; rintro e w' ⟨rfl, rfl⟩) | (go_at_call 16; refine (rof_calls _ _ _).mono ?_; rintro e w2 ⟨rfl, hb2⟩) | (go_at_call 15; refine (of_calls _ _ _).mono ?_; rintro e w3 ⟨rfl, hb3⟩))
  go_ret; exact ⟨ret_b rfl rfl, by (repeat (first | exact Gr.rfl' | refine Gr.al ?_ _ | refine Gr.dr ?_ | refine Gr.drN ?_ | refine Gr.sc ?_ (by simp <;> omega) _ | refine Gr.tr ?_ (by assumption)))⟩

set_option maxRecDepth 100000 in
set_option maxHeartbeats 2000000 in
theorem nil_calls (t : Int) (w : World) : Calls Try.prog 8 #[.int .i64 t] w fun e w' => e = .returned (.bool true) ∧ Gr w w' := by
  go_enter Try.func8, Try.ntmps8
  go_wp2_with fail
  refine (awake_calls _).mono ?_
  rintro e w1 ⟨rfl, hb1⟩
  have hset1 : isSet w1 w.heap.size [] := isSet.gr (isSet.gr ⟨none, 0, 0, heap_alloc_new w _, World.ownsRow_nil _ _ _ _⟩ (Gr.al Gr.rfl' _)) hb1
  have k0 : w1.cell? ⟨w.heap.size + 1, 0, none⟩ = some (.int .i64 1) := keepc hb1 (by simp)
  have k1 : w1.cell? ⟨w.heap.size + 1, 1, none⟩ = some (.int .i64 3) := keepc hb1 (by simp)
  have hG1 : Gr w w1 := by (repeat (first | exact Gr.rfl' | refine Gr.al ?_ _ | refine Gr.dr ?_ | refine Gr.drN ?_ | refine Gr.sc ?_ (by simp <;> omega) _ | refine Gr.tr ?_ (by assumption)))
  clear hb1
  have Hset1 := Lib.hid hset1; clear hset1
  go_wp2_with fail
  refine (add_nil).mono ?_
  rintro e w2 ⟨rfl, hb2⟩
  have Hset2 := Lib.hid (Hset1.out.gr hb2)
  replace k0 := keepc hb2 k0
  replace k1 := keepc hb2 k1
  replace hG1 := hG1.tr hb2
  clear Hset1 hb2
  go_wp2_with fail
  refine (take_nil).mono ?_
  rintro e w3 ⟨rfl, hb3⟩
  have Hset3 := Lib.hid (Hset2.out.gr hb3)
  replace k0 := keepc hb3 k0
  replace k1 := keepc hb3 k1
  replace hG1 := hG1.tr hb3
  clear Hset2 hb3
  go_wp2_with fail
  refine (has_nil).mono ?_
  rintro e w4 ⟨rfl, hb4⟩
  have Hset4 := Lib.hid (Hset3.out.gr hb4)
  replace k0 := keepc hb4 k0
  replace k1 := keepc hb4 k1
  replace hG1 := hG1.tr hb4
  clear Hset3 hb4
  go_wp2_with fail
  refine (spans_nil).mono ?_
  rintro e w4' ⟨rfl, rfl⟩
  go_wp2_with fail
  refine (size_nil).mono ?_
  rintro e w4' ⟨rfl, rfl⟩
  go_wp2_with fail
  refine (add_n Hset4.out ⟨by simp, by simp⟩ (by unfold okP; simp)).mono ?_
  rintro e w5 ⟨l2, rfl, hset5, hn5, hm5, hg5⟩
  have hG5 : Gr w w5 := gr_gb hG1 hg5 (fun k hk => by cases hk; exact Nat.le_refl _)
  have hl2 : l2 = [(1, 3)] := by
    refine norm_ext hn5 ⟨by simp, by intro x hx; simp at hx; subst hx; unfold okP; simp⟩ (fun t => ?_)
    rw [hm5 t]
    simp only [memS_cons]
    have := memS_nil t
    simp only [this, or_false, false_or]
  subst hl2
  have e1 : decide (szS [] < szS [(1, 3)]) = true := by decide
  rw [e1]
  have Hset5 := Lib.hid hset5
  clear hset5 hn5 hm5 e1 hG1 Hset4 hg5
  go_wp2_with fail
  refine (size_set Hset5.out (by unfold okS; simp)).mono ?_
  rintro e w6 ⟨rfl, hb6⟩
  have e2 : szS [(1, 3)] = 2 := by decide
  rw [e2]
  have Hset6 := Lib.hid (Hset5.out.gr hb6)
  replace hG5 := hG5.tr hb6
  clear hb6 e2 Hset5
  go_wp2_with fail
  refine (has_set Hset6.out (by decide)).mono ?_
  rintro e w7 ⟨rfl, hb7⟩
  have e3 : List.any [((1 : Int), (3 : Int))] (hasB 1) = true := by decide
  rw [e3]
  have Hset7 := Lib.hid (Hset6.out.gr hb7)
  replace hG5 := hG5.tr hb7
  clear hb7 e3 Hset6
  go_wp2_with fail
  refine (has_set Hset7.out (by decide)).mono ?_
  rintro e w8 ⟨rfl, hb8⟩
  have e4 : List.any [((1 : Int), (3 : Int))] (hasB 3) = false := by decide
  rw [e4]
  clear e4
  go_wp2_with fail
  go_ret
  exact ⟨rfl, hG5.tr hb8⟩
end Go.Proofs.Ytafdddakkenlaaa

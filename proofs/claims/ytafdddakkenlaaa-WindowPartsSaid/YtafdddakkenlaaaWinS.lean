import Derived.Test.YtafdddakkenlaaaWinR
namespace Go.Proofs.Ytafdddakkenlaaa
open Go.RowKit Go.Sort
attribute [local go_sem ↓] field26_0 field26_1

def spF (f : Int) : Int := if f.tmod 400 < 0 then -(f.tmod 400) else f.tmod 400
def spOf (f n : Int) : Sp := (spF f, spF f + n.tmod 60)
theorem tmod_bd (f : Int) (m : Int) (hm : 0 < m) : -m < f.tmod m ∧ f.tmod m < m := by
  have h := Int.natAbs_tmod f m
  have h1 : (f.tmod m).natAbs < m.natAbs := by
    rw [h]; exact Nat.mod_lt _ (by omega)
  omega
theorem spF_bd (f : Int) : 0 ≤ spF f ∧ spF f < 400 := by
  have := tmod_bd f 400 (by omega)
  unfold spF; split <;> omega

set_option maxHeartbeats 1000000 in
theorem span_calls (k f n : Int) (w : World) :
    Calls Try.prog 17 #[.agg #[.int .i64 k, .int .i64 f, .int .i64 n]] w fun e w' => e = .returned (.agg #[.int .i64 (spOf f n).1, .int .i64 (spOf f n).2]) ∧ Gr w w' := by
  have h1 := tmod_bd f 400 (by omega)
  have h2 := tmod_bd n 60 (by omega)
  have h3 := spF_bd f
  by_cases h : f.tmod 400 < 0
  · have hr : spOf f n = (-(f.tmod 400), -(f.tmod 400) + n.tmod 60) := by unfold spOf spF; rw [if_pos h]
    rw [hr]; clear hr
    go_enter Try.func17, Try.ntmps17
    go_wp2
    exact bodyPost_ret (v := .agg #[.int .i64 (-(f.tmod 400)), .int .i64 (-(f.tmod 400) + n.tmod 60)]) (by simp [results, Try.results17, go_sem, *]) rfl ⟨rfl, by (repeat (first | exact Gr.rfl' | refine Gr.al ?_ _ | refine Gr.dr ?_ | refine Gr.drN ?_ | refine Gr.sc ?_ (by simp <;> omega) _ | refine Gr.tr ?_ (by assumption)))⟩
  · have hr : spOf f n = (f.tmod 400, f.tmod 400 + n.tmod 60) := by unfold spOf spF; rw [if_neg h]
    rw [hr]; clear hr
    go_enter Try.func17, Try.ntmps17
    go_wp2
    exact bodyPost_ret (v := .agg #[.int .i64 (f.tmod 400), .int .i64 (f.tmod 400 + n.tmod 60)]) (by simp [results, Try.results17, go_sem, *]) rfl ⟨rfl, by (repeat (first | exact Gr.rfl' | refine Gr.al ?_ _ | refine Gr.dr ?_ | refine Gr.drN ?_ | refine Gr.sc ?_ (by simp <;> omega) _ | refine Gr.tr ?_ (by assumption)))⟩

theorem both_iff {x y : Sp} (hx : wCheck x = 0) (hy : wCheck y = 0) (t : Int) :
    (decide (t ≥ x.1) && decide (t < x.2) && decide (t ≥ y.1) && decide (t < y.2)) = (decide (t ≥ (wBoth x y).1) && decide (t < (wBoth x y).2)) := by
  obtain ⟨a, b⟩ := x
  obtain ⟨c, d⟩ := y
  have h1 := wCheck_0.1 hx
  have h2 := wCheck_0.1 hy
  rw [Bool.eq_iff_iff]
  simp only [Bool.and_eq_true, decide_eq_true_eq, wBoth, hx, hy, true_and, mx_eq, mn_eq]
  split <;> simp <;> omega
theorem both_comm (x y : Sp) : wBoth x y = wBoth y x := by
  simp only [wBoth, mx_eq, mn_eq]
  rw [Int.max_comm, Int.min_comm]
  by_cases h1 : wCheck x = 0 <;> by_cases h2 : wCheck y = 0 <;> simp [h1, h2]

set_option maxRecDepth 100000 in
set_option maxHeartbeats 2000000 in
theorem meets_law (ka fa na kb fb nb : Int) (w : World) :
    Calls Try.prog 4 #[.agg #[.int .i64 ka, .int .i64 fa, .int .i64 na], .agg #[.int .i64 kb, .int .i64 fb, .int .i64 nb]] w fun e w' => e = .returned (.bool true) ∧ Gr w w' := by
  have hsa := span_calls ka fa na
  have hsb := span_calls kb fb nb
  generalize hx : spOf fa na = x at hsa
  generalize hy : spOf fb nb = y at hsb
  obtain ⟨a, b⟩ := x
  obtain ⟨c, d⟩ := y
  clear hx hy
  simp only at hsa hsb
  have Hsa := Lib.hid hsa
  have Hsb := Lib.hid hsb
  clear hsa hsb
  go_enter Try.func4, Try.ntmps4
  go_wp2_with fail
  refine (awake_calls _).mono ?_
  rintro e w1 ⟨rfl, hb⟩
  have a0 : w1.cell? ⟨w.heap.size, 0, none⟩ = some (.int .i64 ka) := keepc hb (by simp)
  have a1 : w1.cell? ⟨w.heap.size, 1, none⟩ = some (.int .i64 fa) := keepc hb (by simp)
  have a2 : w1.cell? ⟨w.heap.size, 2, none⟩ = some (.int .i64 na) := keepc hb (by simp)
  have b0 : w1.cell? ⟨w.heap.size + 1, 0, none⟩ = some (.int .i64 kb) := keepc hb (by simp)
  have b1 : w1.cell? ⟨w.heap.size + 1, 1, none⟩ = some (.int .i64 fb) := keepc hb (by simp)
  have b2 : w1.cell? ⟨w.heap.size + 1, 2, none⟩ = some (.int .i64 nb) := keepc hb (by simp)
  have hG : Gr w w1 := by (repeat (first | exact Gr.rfl' | refine Gr.al ?_ _ | refine Gr.dr ?_ | refine Gr.drN ?_ | refine Gr.sc ?_ (by simp <;> omega) _ | refine Gr.tr ?_ (by assumption)))
  clear hb
  go_wp2_with fail
  refine (Hsa.out _).mono ?_
  rintro e w2 ⟨rfl, hb⟩
  replace b0 := keepc hb b0; replace b1 := keepc hb b1; replace b2 := keepc hb b2
  replace hG := hG.tr hb
  clear hb a0 a1 a2
  replace b0 := fun x => keepc (Gr.al Gr.rfl' x) b0
  replace b1 := fun x => keepc (Gr.al Gr.rfl' x) b1
  replace b2 := fun x => keepc (Gr.al Gr.rfl' x) b2
  go_wp2_with fail
  refine (Hsb.out _).mono ?_
  rintro e w3 ⟨rfl, hb⟩
  have x0 : w3.cell? ⟨w2.heap.size, 0, none⟩ = some (.int .i64 a) := keepc hb (by simp)
  have x1 : w3.cell? ⟨w2.heap.size, 1, none⟩ = some (.int .i64 b) := keepc hb (by simp)
  replace hG := (hG.al _).tr hb
  have n1 := World.new_ne w3 _ x0
  simp only at n1
  clear hb b0 b1 b2
  replace x0 := fun x => keepc (Gr.al Gr.rfl' x) x0
  replace x1 := fun x => keepc (Gr.al Gr.rfl' x) x1
  go_wp2_with fail
  refine (check_calls _ _ _).mono ?_
  rintro e w4 ⟨rfl, hb⟩
  have y0 : w4.cell? ⟨w3.heap.size, 0, none⟩ = some (.int .i64 c) := keepc hb (by simp)
  have y1 : w4.cell? ⟨w3.heap.size, 1, none⟩ = some (.int .i64 d) := keepc hb (by simp)
  replace x0 := keepc hb (x0 _)
  replace x1 := keepc hb (x1 _)
  replace hG := (hG.al _).tr hb
  clear hb
  by_cases hcx : wCheck (a, b) = 0
  case neg =>
    have hc1 : (wCheck (a, b) != 0) = true := by simp [hcx]
    clear hcx
    go_wp2_with fail
    go_ret; exact ⟨ret_b rfl rfl, by (repeat (first | exact Gr.rfl' | refine Gr.al ?_ _ | refine Gr.dr ?_ | refine Gr.drN ?_ | refine Gr.sc ?_ (by simp <;> omega) _ | refine Gr.tr ?_ (by assumption)))⟩
  have hc1 : (wCheck (a, b) != 0) = false := by simp [hcx]
  have Hcx := Lib.hid hcx; clear hcx
  go_wp2_with fail
  refine (check_calls _ _ _).mono ?_
  rintro e w5 ⟨rfl, hb⟩
  replace x0 := keepc hb x0; replace x1 := keepc hb x1; replace y0 := keepc hb y0; replace y1 := keepc hb y1
  replace hG := hG.tr hb
  clear hb
  by_cases hcy : wCheck (c, d) = 0
  case neg =>
    have hc2 : (wCheck (c, d) != 0) = true := by simp [hcy]
    clear hcy
    go_wp2_with fail
    go_ret; exact ⟨ret_b rfl rfl, by (repeat (first | exact Gr.rfl' | refine Gr.al ?_ _ | refine Gr.dr ?_ | refine Gr.drN ?_ | refine Gr.sc ?_ (by simp <;> omega) _ | refine Gr.tr ?_ (by assumption)))⟩
  have hc2 : (wCheck (c, d) != 0) = false := by simp [hcy]
  have Hcy := Lib.hid hcy; clear hcy
  have hcal := both_calls a b c d
  have hiff := both_iff Hcx.out Hcy.out
  have hcomm := both_comm (a, b) (c, d)
  have hm1 : wMeets (a, b) (c, d) = decide ((wBoth (a, b) (c, d)).1 < (wBoth (a, b) (c, d)).2) := rfl
  have hm2 : wMeets (c, d) (a, b) = decide ((wBoth (c, d) (a, b)).1 < (wBoth (c, d) (a, b)).2) := rfl
  have hcal2 := both_calls c d a b
  rw [← hcomm] at hm2 hcal2
  generalize hpq : wBoth (a, b) (c, d) = pq at *
  obtain ⟨p, q⟩ := pq
  simp only at hiff hcal hcal2 hm1 hm2
  have Hcal := Lib.hid hcal; clear hcal
  have Hcal2 := Lib.hid hcal2; clear hcal2
  have Hiff := Lib.hid hiff; clear hiff
  have Hm1 := Lib.hid hm1; clear hm1
  have Hm2 := Lib.hid hm2; clear hm2
  clear hpq hcomm
  go_wp2_with fail
  refine (Hcal.out _).mono ?_
  rintro e w6 ⟨rfl, hb⟩
  replace x0 := keepc hb x0; replace x1 := keepc hb x1; replace y0 := keepc hb y0; replace y1 := keepc hb y1
  replace hG := hG.tr hb
  clear hb
  have z0 : (w6.alloc (.cells #[.int .i64 p, .int .i64 q] 26)).cell? ⟨w6.heap.size, 0, none⟩ = some (.int .i64 p) := by simp
  have z1 : (w6.alloc (.cells #[.int .i64 p, .int .i64 q] 26)).cell? ⟨w6.heap.size, 1, none⟩ = some (.int .i64 q) := by simp
  replace x0 := keepc (Gr.al Gr.rfl' (.cells #[.int .i64 p, .int .i64 q] 26)) x0
  replace x1 := keepc (Gr.al Gr.rfl' (.cells #[.int .i64 p, .int .i64 q] 26)) x1
  replace y0 := keepc (Gr.al Gr.rfl' (.cells #[.int .i64 p, .int .i64 q] 26)) y0
  replace y1 := keepc (Gr.al Gr.rfl' (.cells #[.int .i64 p, .int .i64 q] 26)) y1
  replace hG := hG.al (.cells #[.int .i64 p, .int .i64 q] 26)
  go_wp2_with fail
  generalize w6.alloc (.cells #[.int .i64 p, .int .i64 q] 26) = W at *
  go_loop [9] (fun v => ∃ t : Int, v = .int .i64 t ∧ 0 ≤ t ∧ t ≤ 520) (fun v => (520 - intOf v).toNat)
  case atStart => exact ⟨0, rfl, by omega, by omega⟩
  case round =>
    obtain ⟨t, rfl, ht0, ht1⟩ := hrel
    by_cases hlt : t < 520
    · have hif : (a ≤ t ∧ t < b ∧ c ≤ t ∧ t < d) ↔ (p ≤ t ∧ t < q) := by
        have := Hiff.out t
        rw [Bool.eq_iff_iff] at this
        simp only [Bool.and_eq_true, decide_eq_true_eq, ge_iff_le, and_assoc] at this
        exact this
      by_cases h1 : a ≤ t <;> by_cases h2 : t < b <;> by_cases h3 : c ≤ t <;> by_cases h4 : t < d <;> by_cases h5 : p ≤ t <;> by_cases h6 : t < q
--[[
      all_goals first
        | (exfalso; omega)
        | (clear hif; go_wp2; go_round; (case rel => exact ⟨t + 1, rfl, by omega, by omega⟩); (case measure => simp [intOf]; omega))
--]]
    · go_wp2_with fail
      have m1 := Hm1.out
      have m2 := Hm2.out
      clear Hsa Hsb Hcal Hiff Hm1 Hm2
      go_region_held3 (fun w' => w'.cell? ⟨w2.heap.size, 0, none⟩ = some (.int .i64 a) ∧ w'.cell? ⟨w2.heap.size, 1, none⟩ = some (.int .i64 b) ∧ w'.cell? ⟨w3.heap.size, 0, none⟩ = some (.int .i64 c) ∧ w'.cell? ⟨w3.heap.size, 1, none⟩ = some (.int .i64 d) ∧ w'.cell? ⟨w6.heap.size, 0, none⟩ = some (.int .i64 p) ∧ w'.cell? ⟨w6.heap.size, 1, none⟩ = some (.int .i64 q))
        (first | (go_keep; done) | (refine ⟨keepc hb ?_, keepc hb ?_, keepc hb ?_, keepc hb ?_, keepc hb ?_, keepc hb ?_⟩ <;> (simp [*]; done)))
        (first | (go_at_call 19; refine (Hcal2.out _).mono ?_; rintro e w7 ⟨rfl, hb⟩) | (go_at_call 20; refine (meets_calls _ _ _ _ _).mono ?_; rintro e w7 ⟨rfl, hb⟩))
      go_wp2
      go_ret; exact ⟨ret_b rfl rfl, by (repeat (first | exact Gr.rfl' | refine Gr.al ?_ _ | refine Gr.dr ?_ | refine Gr.drN ?_ | refine Gr.sc ?_ (by simp <;> omega) _ | refine Gr.tr ?_ (by assumption)))⟩
end Go.Proofs.Ytafdddakkenlaaa

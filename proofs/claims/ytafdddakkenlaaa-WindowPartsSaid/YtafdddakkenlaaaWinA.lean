import Derived.Test.YtafdddakkenlaaaProg
import Derived.Test.YtafdddakkenlaaaUt
import Derived.WalkLawsBesides
import Derived.KernelRfl
import Derived.BigQuiet
import Derived.Deep.QuietTactic
import Derived.Deep.RegionHeld3
namespace Go.Proofs.Ytafdddakkenlaaa
open Go.RowKit
attribute [local go_sem] max2_mx min2_mn max_two' min_two'

def wWidth (t : Int) : Int := if t = 0 then 1 else if t = 1 then 10 else if t = 2 then 60 else if t = 3 then 3600 else 0
def wStart (t k : Int) : Int := if t < 0 ∨ t ≥ 1099511627777 ∨ wWidth k = 0 then -1 else t / wWidth k * wWidth k
def wOf (t k : Int) : Int × Int := if wStart t k < 0 then (0, 0) else (wStart t k, mn (wStart t k + wWidth k) 1099511627777)

theorem wWidth_cases (t : Int) : wWidth t = 0 ∨ wWidth t = 1 ∨ wWidth t = 10 ∨ wWidth t = 60 ∨ wWidth t = 3600 := by
  unfold wWidth; repeat' split
  all_goals simp
theorem wWidth_bd (t : Int) : 0 ≤ wWidth t ∧ wWidth t ≤ 3600 := by have := wWidth_cases t; omega
theorem wStart_bd (t k : Int) : -1 ≤ wStart t k ∧ wStart t k ≤ 1099511627776 := by
  unfold wStart
  split
  · omega
  · have hd : t / wWidth k * wWidth k ≤ t := Int.ediv_mul_le _ (by omega)
    have hb := wWidth_bd k
    have hd0 : 0 ≤ t / wWidth k * wWidth k := Int.mul_nonneg (Int.ediv_nonneg (by omega) (by omega)) (by omega)
    omega

set_option maxHeartbeats 400000 in
theorem width_calls (t : Int) (w : World) :
    Calls Try.prog 11 #[.int .i64 t] w fun e w' => e = .returned (.int .i64 (wWidth t)) ∧ w = w' := by
  go_enter Try.func11, Try.ntmps11
  go_wp2
  all_goals
    go_ret
    exact ⟨by simp_all [wWidth], rfl⟩

set_option maxHeartbeats 400000 in
theorem start_calls (t k : Int) (w : World) :
    Calls Try.prog 13 #[.int .i64 t, .int .i64 k] w fun e w' => e = .returned (.int .i64 (wStart t k)) ∧ w = w' := by
  have hw := wWidth_cases k
  by_cases h1 : t < 0
  · have hr : wStart t k = -1 := by unfold wStart; rw [if_pos (by omega)]
    go_enter Try.func13, Try.ntmps13
    go_wp2_with (go_at_call 11; refine (width_calls _ _).mono ?_; rintro e w' ⟨rfl, rfl⟩)
    go_ret
    exact ⟨ret_i rfl hr.symm, rfl⟩
  by_cases h2 : 1099511627777 ≤ t
  · have hr : wStart t k = -1 := by unfold wStart; rw [if_pos (by omega)]
    go_enter Try.func13, Try.ntmps13
    go_wp2_with (go_at_call 11; refine (width_calls _ _).mono ?_; rintro e w' ⟨rfl, rfl⟩)
    go_ret
    exact ⟨ret_i rfl hr.symm, rfl⟩
  by_cases h3 : wWidth k = 0
  · have hr : wStart t k = -1 := by unfold wStart; rw [if_pos (by omega)]
    have h3b : (wWidth k == 0) = true := by simp [h3]
    have H3 := Lib.hid h3; clear h3
    have Hr := Lib.hid hr; clear hr
    go_enter Try.func13, Try.ntmps13
    go_wp2_with (go_at_call 11; refine (width_calls _ _).mono ?_; rintro e w' ⟨rfl, rfl⟩)
    go_ret
    exact ⟨ret_i rfl Hr.out.symm, rfl⟩
  · have h3b : (wWidth k == 0) = false := by simp [h3]
    have hp : 1 ≤ wWidth k := by omega
    have hp2 : wWidth k ≤ 3600 := by omega
    have hr : wStart t k = t / wWidth k * wWidth k := by unfold wStart; rw [if_neg (by omega)]
    have hd : t / wWidth k * wWidth k ≤ t := Int.ediv_mul_le _ (by omega)
    have hd0 : 0 ≤ t / wWidth k * wWidth k := Int.mul_nonneg (Int.ediv_nonneg (by omega) (by omega)) (by omega)
    have hd1 : 0 ≤ t / wWidth k := Int.ediv_nonneg (by omega) (by omega)
    have hd2 : t / wWidth k ≤ t := Int.ediv_le_self _ (by omega)
    clear hw
    have Hr := Lib.hid hr; clear hr
    go_enter Try.func13, Try.ntmps13
    go_wp2_with (go_at_call 11; refine (width_calls _ _).mono ?_; rintro e w' ⟨rfl, rfl⟩)
    go_ret
    exact ⟨ret_i rfl Hr.out.symm, rfl⟩

theorem wOf_bd (t k : Int) : 0 ≤ (wOf t k).1 ∧ (wOf t k).1 ≤ (wOf t k).2 ∧ (wOf t k).2 ≤ 1099511627777 := by
  have := wStart_bd t k
  have := wWidth_bd k
  unfold wOf; split
  · simp
  · simp [mn_eq]; omega

set_option maxHeartbeats 400000 in
theorem of_calls (t k : Int) (w : World) :
    Calls Try.prog 15 #[.int .i64 t, .int .i64 k] w fun e w' => e = .returned (.agg #[.int .i64 (wOf t k).1, .int .i64 (wOf t k).2]) ∧ Gr w w' := by
  have hs := wStart_bd t k
  have hw := wWidth_bd k
  by_cases h1 : wStart t k < 0
  · have hr : wOf t k = (0, 0) := by unfold wOf; rw [if_pos h1]
    rw [hr]; clear hr
    go_enter Try.func15, Try.ntmps15
    go_wp2_with (first | (go_at_call 13; refine (start_calls _ _ _).mono ?_; rintro e w' ⟨rfl, rfl⟩) | (go_at_call 11; refine (width_calls _ _).mono ?_; rintro e w' ⟨rfl, rfl⟩))
    exact bodyPost_ret (v := .agg #[.int .i64 0, .int .i64 0]) (by simp [results, Try.results15, go_sem]) rfl ⟨rfl, Gr.rfl'.al _⟩
  · have hr : wOf t k = (wStart t k, mn (wStart t k + wWidth k) 1099511627777) := by unfold wOf; rw [if_neg h1]
    rw [hr]; clear hr
    go_enter Try.func15, Try.ntmps15
    go_wp2_with (first | (go_at_call 13; refine (start_calls _ _ _).mono ?_; rintro e w' ⟨rfl, rfl⟩) | (go_at_call 11; refine (width_calls _ _).mono ?_; rintro e w' ⟨rfl, rfl⟩))
    exact bodyPost_ret (v := .agg #[.int .i64 (wStart t k), .int .i64 (mn (wStart t k + wWidth k) 1099511627777)]) (by simp [results, Try.results15, go_sem, *]) rfl ⟨rfl, by (repeat (first | exact Gr.rfl' | refine Gr.al ?_ _ | refine Gr.dr ?_ | refine Gr.drN ?_ | refine Gr.sc ?_ (by simp <;> omega) _ | refine Gr.tr ?_ (by assumption)))⟩

def wCheck (s : Int × Int) : Int := if s.1 < 0 ∨ s.2 < s.1 ∨ s.2 > 1099511627777 then 1 else 0
theorem wCheck_0 {a b : Int} : wCheck (a, b) = 0 ↔ 0 ≤ a ∧ a ≤ b ∧ b ≤ 1099511627777 := by
  unfold wCheck; split <;> simp <;> omega

set_option maxHeartbeats 400000 in
theorem check_calls (a b : Int) (w : World) :
    Calls Try.prog 18 #[.agg #[.int .i64 a, .int .i64 b]] w fun e w' => e = .returned (.int .i64 (wCheck (a, b))) ∧ Gr w w' := by
  have hr : wCheck (a, b) = if a < 0 ∨ b < a ∨ b > 1099511627777 then 1 else 0 := rfl
  rw [hr]; clear hr
  by_cases h1 : a < 0
  · rw [if_pos (by omega)]
    go_enter Try.func18, Try.ntmps18
    go_wp2
    go_ret
    exact ⟨rfl, Gr.rfl'.al _⟩
  by_cases h2 : b < a
  · rw [if_pos (by omega)]
    go_enter Try.func18, Try.ntmps18
    go_wp2
    go_ret
    exact ⟨rfl, Gr.rfl'.al _⟩
  by_cases h3 : 1099511627777 < b
  · rw [if_pos (by omega)]
    go_enter Try.func18, Try.ntmps18
    go_wp2
    go_ret
    exact ⟨rfl, Gr.rfl'.al _⟩
  · rw [if_neg (by omega)]
    go_enter Try.func18, Try.ntmps18
    go_wp2
    go_ret
    exact ⟨rfl, Gr.rfl'.al _⟩

def wBoth (a b : Int × Int) : Int × Int := if wCheck a = 0 ∧ wCheck b = 0 ∧ mx a.1 b.1 < mn a.2 b.2 then (mx a.1 b.1, mn a.2 b.2) else (0, 0)

set_option maxHeartbeats 1000000 in
theorem both_calls (a b c d : Int) (w : World) :
    Calls Try.prog 19 #[.agg #[.int .i64 a, .int .i64 b], .agg #[.int .i64 c, .int .i64 d]] w fun e w' => e = .returned (.agg #[.int .i64 (wBoth (a, b) (c, d)).1, .int .i64 (wBoth (a, b) (c, d)).2]) ∧ Gr w w' := by
  have hr : wBoth (a, b) (c, d) = if wCheck (a, b) = 0 ∧ wCheck (c, d) = 0 ∧ mx a c < mn b d then (mx a c, mn b d) else (0, 0) := rfl
  rw [hr]; clear hr
  by_cases h1 : wCheck (a, b) = 0
  · by_cases h2 : wCheck (c, d) = 0
    · by_cases h3 : mx a c < mn b d
      · rw [if_pos ⟨h1, h2, h3⟩]
        have h1b : (wCheck (a, b) != 0) = false := by simp [h1]
        have h2b : (wCheck (c, d) != 0) = false := by simp [h2]
        clear h1 h2
        go_enter Try.func19, Try.ntmps19
        go_wp2_with (go_at_call 18; refine (check_calls _ _ _).mono ?_; rintro e w1 ⟨rfl, hb⟩; obtain ⟨hc, hf⟩ := bcell hb; have hz := hb.size; (try simp at hz); have z0 : w.heap.size < w1.heap.size := (by omega); have z1 : w.heap.size + 1 < w1.heap.size := (by omega); have z2 : w.heap.size + 1 + 1 < w1.heap.size := (by omega); have z3 : w.heap.size + 1 + 1 + 1 < w1.heap.size := (by omega))
        exact bodyPost_ret (v := .agg #[.int .i64 (mx a c), .int .i64 (mn b d)]) (by simp [results, Try.results19, go_sem, *]) rfl ⟨rfl, by (repeat (first | exact Gr.rfl' | refine Gr.al ?_ _ | refine Gr.dr ?_ | refine Gr.drN ?_ | refine Gr.sc ?_ (by simp <;> omega) _ | refine Gr.tr ?_ (by assumption)))⟩
      · rw [if_neg (fun h => h3 h.2.2)]
        have h1b : (wCheck (a, b) != 0) = false := by simp [h1]
        have h2b : (wCheck (c, d) != 0) = false := by simp [h2]
        clear h1 h2
        go_enter Try.func19, Try.ntmps19
        go_wp2_with (go_at_call 18; refine (check_calls _ _ _).mono ?_; rintro e w1 ⟨rfl, hb⟩; obtain ⟨hc, hf⟩ := bcell hb; have hz := hb.size; (try simp at hz); have z0 : w.heap.size < w1.heap.size := (by omega); have z1 : w.heap.size + 1 < w1.heap.size := (by omega); have z2 : w.heap.size + 1 + 1 < w1.heap.size := (by omega); have z3 : w.heap.size + 1 + 1 + 1 < w1.heap.size := (by omega))
        exact bodyPost_ret (v := .agg #[.int .i64 0, .int .i64 0]) (by simp [results, Try.results19, go_sem, *]) rfl ⟨rfl, by (repeat (first | exact Gr.rfl' | refine Gr.al ?_ _ | refine Gr.dr ?_ | refine Gr.drN ?_ | refine Gr.sc ?_ (by simp <;> omega) _ | refine Gr.tr ?_ (by assumption)))⟩
    · rw [if_neg (fun h => h2 h.2.1)]
      have h1b : (wCheck (a, b) != 0) = false := by simp [h1]
      have h2b : (wCheck (c, d) != 0) = true := by simp [h2]
      clear h1 h2
      go_enter Try.func19, Try.ntmps19
      go_wp2_with (go_at_call 18; refine (check_calls _ _ _).mono ?_; rintro e w1 ⟨rfl, hb⟩; obtain ⟨hc, hf⟩ := bcell hb; have hz := hb.size; (try simp at hz); have z0 : w.heap.size < w1.heap.size := (by omega); have z1 : w.heap.size + 1 < w1.heap.size := (by omega); have z2 : w.heap.size + 1 + 1 < w1.heap.size := (by omega); have z3 : w.heap.size + 1 + 1 + 1 < w1.heap.size := (by omega))
      exact bodyPost_ret (v := .agg #[.int .i64 0, .int .i64 0]) (by simp [results, Try.results19, go_sem, *]) rfl ⟨rfl, by (repeat (first | exact Gr.rfl' | refine Gr.al ?_ _ | refine Gr.dr ?_ | refine Gr.drN ?_ | refine Gr.sc ?_ (by simp <;> omega) _ | refine Gr.tr ?_ (by assumption)))⟩
  · rw [if_neg (fun h => h1 h.1)]
    have h1b : (wCheck (a, b) != 0) = true := by simp [h1]
    clear h1
    go_enter Try.func19, Try.ntmps19
    go_wp2_with (go_at_call 18; refine (check_calls _ _ _).mono ?_; rintro e w1 ⟨rfl, hb⟩; obtain ⟨hc, hf⟩ := bcell hb; have hz := hb.size; (try simp at hz); have z0 : w.heap.size < w1.heap.size := (by omega); have z1 : w.heap.size + 1 < w1.heap.size := (by omega); have z2 : w.heap.size + 1 + 1 < w1.heap.size := (by omega); have z3 : w.heap.size + 1 + 1 + 1 < w1.heap.size := (by omega))
    exact bodyPost_ret (v := .agg #[.int .i64 0, .int .i64 0]) (by simp [results, Try.results19, go_sem, *]) rfl ⟨rfl, by (repeat (first | exact Gr.rfl' | refine Gr.al ?_ _ | refine Gr.dr ?_ | refine Gr.drN ?_ | refine Gr.sc ?_ (by simp <;> omega) _ | refine Gr.tr ?_ (by assumption)))⟩
end Go.Proofs.Ytafdddakkenlaaa

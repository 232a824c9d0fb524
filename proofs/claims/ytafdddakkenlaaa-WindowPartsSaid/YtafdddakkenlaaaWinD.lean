import Derived.Test.YtafdddakkenlaaaWinC
namespace Go.Proofs.Ytafdddakkenlaaa
open Go.RowKit
attribute [local go_sem] max2_mx min2_mn max_two' min_two'
attribute [local go_sem ↓] field26_0 field26_1

def wInF (s : Int × Int) (k : Int) : Int := if wEdge s.1 k then s.1 else (wOf s.1 k).2
def wInT (s : Int × Int) (k : Int) : Int := if wEdge s.2 k then s.2 else wStart s.2 k
def wInner (s : Int × Int) (k : Int) : Int × Int :=
  if wMay s k = false then (0, 0) else if wInT s k ≤ wInF s k then (s.1, s.1) else (wInF s k, wInT s k)

theorem edge_of {t k : Int} (h0 : 0 ≤ t) (h1 : t ≤ 1099511627777) (hk : 0 < wWidth k) (he : wEdge t k = false) : wEdge (wOf t k).2 k = true := by
  have hne : t ≠ 1099511627777 := by intro e; simp [wEdge, e] at he
  have hs : wStart t k = t / wWidth k * wWidth k := by unfold wStart; rw [if_neg (by omega)]
  have h2 : 0 ≤ t / wWidth k * wWidth k := Int.mul_nonneg (Int.ediv_nonneg (by omega) (by omega)) (by omega)
  have ho : (wOf t k).2 = min (t / wWidth k * wWidth k + wWidth k) 1099511627777 := by unfold wOf; rw [hs, if_neg (by omega), mn_eq]
  rw [ho]
  by_cases h3 : t / wWidth k * wWidth k + wWidth k ≤ 1099511627777
  · rw [Int.min_eq_left h3]; simp [wEdge]
  · rw [Int.min_eq_right (by omega)]; simp [wEdge]

set_option maxHeartbeats 1000000 in
theorem inner_calls (a b k : Int) (w : World) :
    Calls Try.prog 30 #[.agg #[.int .i64 a, .int .i64 b], .int .i64 k] w fun e w' => e = .returned (.agg #[.int .i64 (wInner (a, b) k).1, .int .i64 (wInner (a, b) k).2]) ∧ Gr w w' := by
  cases h1 : wMay (a, b) k
  · have hr : wInner (a, b) k = (0, 0) := by simp [wInner, h1]
    rw [hr]; clear hr
    go_enter Try.func30, Try.ntmps30
    go_wp2_with (first | (go_at_call 44; refine (may_calls _ _ _ _).mono ?_; rintro e w1 ⟨rfl, hb⟩; obtain ⟨hc, hf⟩ := bcell hb; have hz := hb.size; (try simp at hz); have z0 : w.heap.size < w1.heap.size := (by omega); have z1 : w.heap.size + 1 < w1.heap.size := (by omega)))
    exact bodyPost_ret (v := .agg #[.int .i64 0, .int .i64 0]) (by simp [results, Try.results30, go_sem, *]) rfl ⟨rfl, by (repeat (first | exact Gr.rfl' | refine Gr.al ?_ _ | refine Gr.dr ?_ | refine Gr.drN ?_ | refine Gr.sc ?_ (by simp <;> omega) _ | refine Gr.tr ?_ (by assumption)))⟩
  · obtain ⟨b1, b2, b3, b4⟩ := wMay_t h1
    have hr : wInner (a, b) k = if wInT (a, b) k ≤ wInF (a, b) k then (a, a) else (wInF (a, b) k, wInT (a, b) k) := by simp [wInner, h1]
    have Hr := Lib.hid hr; clear hr
    have hob := wOf_bd a k
    go_enter Try.func30, Try.ntmps30
    go_wp2_with (first | (go_at_call 44; refine (may_calls _ _ _ _).mono ?_; rintro e w1 ⟨rfl, hb⟩; obtain ⟨hc, hf⟩ := bcell hb; have hz := hb.size; (try simp at hz); have z0 : w.heap.size < w1.heap.size := (by omega); have z1 : w.heap.size + 1 < w1.heap.size := (by omega)))
    go_quiet (fail)
    have cA : (w1.drewN nq).cell? ⟨w.heap.size, 0, none⟩ = some (.int .i64 a) := by rw [World.cell?_drewN, hc _ _ (by simp <;> omega)]; simp
    have cB : (w1.drewN nq).cell? ⟨w.heap.size, 1, none⟩ = some (.int .i64 b) := by rw [World.cell?_drewN, hc _ _ (by simp <;> omega)]; simp
    have cC := cv_of (w := w1.drewN nq) (b := w.heap.size + 1) (o := 0) (by rw [World.cell?_drewN, hc _ _ (by simp <;> omega)]; simp)
    have cD := cv_of (w := w1.drewN nq) (b := w.heap.size + 1) (o := 1) (by rw [World.cell?_drewN, hc _ _ (by simp <;> omega)]; simp)
    have fC : (w1.drewN nq).frozen? ⟨w.heap.size + 1, 0, none⟩ = false := by rw [World.frozen?_drewN, hf _ _ (by simp <;> omega)]; simp
    have fD : (w1.drewN nq).frozen? ⟨w.heap.size + 1, 1, none⟩ = false := by rw [World.frozen?_drewN, hf _ _ (by simp <;> omega)]; simp
    have hG : Gr w (w1.drewN nq) := by refine Gr.drN ?_; (repeat (first | exact Gr.rfl' | refine Gr.al ?_ _ | refine Gr.dr ?_ | refine Gr.drN ?_ | refine Gr.sc ?_ (by simp <;> omega) _ | refine Gr.tr ?_ (by assumption)))
    clear hc hf hb hz z0 z1
    generalize w1.drewN nq = W1 at *
    clear w1
    go_wp2_with fail
    go_loopw [5] (fun v wr => ∃ x : Int, v = .int .i64 x ∧ 0 ≤ x ∧ (x = a ∨ (x = (wOf a k).2 ∧ wEdge a k = false)) ∧ Gr W1 wr) (fun v wr => if wEdge (intOf v) k then 0 else 1)
    case atStart => exact ⟨a, rfl, b1, .inl rfl, Gr.rfl'⟩
    case round =>
      obtain ⟨x, rfl, hx0, hx, hgr⟩ := hrel
      have cA' := keepc hgr cA
      have cC' := cv_gr hgr cC
      have cD' := cv_gr hgr cD
      have fC' := keepf hgr cC fC
      have fD' := keepf hgr cD fD
      clear cA cB cC cD fC fD
      cases he : wEdge x k
      · have hxa : x = a := by
          rcases hx with h | ⟨h, h2⟩
          · exact h
          · rw [h, edge_of b1 (by omega) b4 h2] at he; cases he
        subst hxa
        go_wp2_with (first | (go_at_call 45; refine (edge_calls _ _ _ (by assumption) (by assumption)).mono ?_; rintro e w' ⟨rfl, rfl⟩) | (go_at_call 15; refine (of_calls _ _ _).mono ?_; rintro e w1 ⟨rfl, hb⟩; obtain ⟨hc, hf⟩ := bcell hb; have hz := hb.size; (try simp at hz)))
        go_roundw
        case rel => exact ⟨_, rfl, by omega, .inr ⟨rfl, he⟩, by (repeat (first | exact Gr.rfl' | refine Gr.al ?_ _ | refine Gr.dr ?_ | refine Gr.drN ?_ | refine Gr.sc ?_ (by simp <;> omega) _ | refine Gr.tr ?_ (by assumption)))⟩
        case measure => simp [intOf, edge_of hx0 (by omega) b4 he, he]
      · have hin : x = wInF (a, b) k := by
          rcases hx with h | ⟨h, h2⟩
          · rw [h] at he; simp [wInF, he, h]
          · simp [wInF, h2, h]
        have Hin := Lib.hid hin; clear hin
        cases he2 : wEdge b k
        · have ht : wStart b k = wInT (a, b) k := by simp [wInT, he2]
          have Ht := Lib.hid ht; clear ht
          by_cases hle : wStart b k ≤ x
          · have HE := Lib.hid (show wInner (a, b) k = (a, a) by rw [Hr.out, ← Ht.out, ← Hin.out, if_pos hle])
            clear hx
            go_wp2_with (first | (go_at_call 45; refine (edge_calls _ _ _ (by omega) (by assumption)).mono ?_; rintro e w' ⟨rfl, rfl⟩) | (go_at_call 13; refine (start_calls _ _ _).mono ?_; rintro e w' ⟨rfl, rfl⟩))
            exact bodyPost_ret (v := .agg #[.int .i64 a, .int .i64 a]) (by simp [results, Try.results30, go_sem, set2 _ _ cC' cD']) rfl ⟨by rw [HE.out], by (repeat (first | exact Gr.rfl' | refine Gr.al ?_ _ | refine Gr.dr ?_ | refine Gr.drN ?_ | refine Gr.sc ?_ (by simp <;> omega) _ | refine Gr.tr ?_ (by assumption)))⟩
          · have HE := Lib.hid (show wInner (a, b) k = (x, (wStart b k)) by rw [Hr.out, ← Ht.out, ← Hin.out, if_neg hle])
            clear hx
            go_wp2_with (first | (go_at_call 45; refine (edge_calls _ _ _ (by omega) (by assumption)).mono ?_; rintro e w' ⟨rfl, rfl⟩) | (go_at_call 13; refine (start_calls _ _ _).mono ?_; rintro e w' ⟨rfl, rfl⟩))
            exact bodyPost_ret (v := .agg #[.int .i64 x, .int .i64 (wStart b k)]) (by simp [results, Try.results30, go_sem, set2 _ _ cC' cD']) rfl ⟨by rw [HE.out], by (repeat (first | exact Gr.rfl' | refine Gr.al ?_ _ | refine Gr.dr ?_ | refine Gr.drN ?_ | refine Gr.sc ?_ (by simp <;> omega) _ | refine Gr.tr ?_ (by assumption)))⟩
        · have ht : b = wInT (a, b) k := by simp [wInT, he2]
          have Ht := Lib.hid ht; clear ht
          by_cases hle : b ≤ x
          · have HE := Lib.hid (show wInner (a, b) k = (a, a) by rw [Hr.out, ← Ht.out, ← Hin.out, if_pos hle])
            clear hx
            go_wp2_with (first | (go_at_call 45; refine (edge_calls _ _ _ (by omega) (by assumption)).mono ?_; rintro e w' ⟨rfl, rfl⟩) | (go_at_call 13; refine (start_calls _ _ _).mono ?_; rintro e w' ⟨rfl, rfl⟩))
            exact bodyPost_ret (v := .agg #[.int .i64 a, .int .i64 a]) (by simp [results, Try.results30, go_sem, set2 _ _ cC' cD']) rfl ⟨by rw [HE.out], by (repeat (first | exact Gr.rfl' | refine Gr.al ?_ _ | refine Gr.dr ?_ | refine Gr.drN ?_ | refine Gr.sc ?_ (by simp <;> omega) _ | refine Gr.tr ?_ (by assumption)))⟩
          · have HE := Lib.hid (show wInner (a, b) k = (x, b) by rw [Hr.out, ← Ht.out, ← Hin.out, if_neg hle])
            clear hx
            go_wp2_with (first | (go_at_call 45; refine (edge_calls _ _ _ (by omega) (by assumption)).mono ?_; rintro e w' ⟨rfl, rfl⟩) | (go_at_call 13; refine (start_calls _ _ _).mono ?_; rintro e w' ⟨rfl, rfl⟩))
            exact bodyPost_ret (v := .agg #[.int .i64 x, .int .i64 b]) (by simp [results, Try.results30, go_sem, set2 _ _ cC' cD']) rfl ⟨by rw [HE.out], by (repeat (first | exact Gr.rfl' | refine Gr.al ?_ _ | refine Gr.dr ?_ | refine Gr.drN ?_ | refine Gr.sc ?_ (by simp <;> omega) _ | refine Gr.tr ?_ (by assumption)))⟩
end Go.Proofs.Ytafdddakkenlaaa

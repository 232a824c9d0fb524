import Derived.Test.YtafdddakkenlaaaWinA
namespace Go.Proofs.Ytafdddakkenlaaa
open Go.RowKit
attribute [local go_sem] max2_mx min2_mn max_two' min_two'

def wMay (s : Int × Int) (k : Int) : Bool := decide (wCheck s = 0) && decide (0 < wWidth k)
set_option maxHeartbeats 400000 in
theorem may_calls (a b k : Int) (w : World) :
    Calls Try.prog 44 #[.agg #[.int .i64 a, .int .i64 b], .int .i64 k] w fun e w' => e = .returned (.bool (wMay (a, b) k)) ∧ Gr w w' := by
  by_cases h1 : wCheck (a, b) = 0
  · have hr : decide (0 < wWidth k) = wMay (a, b) k := by simp [wMay, h1]
    have Hr := Lib.hid hr; clear hr
    have h1b : (wCheck (a, b) == 0) = true := by simp [h1]
    clear h1
    go_enter Try.func44, Try.ntmps44
    go_wp2_with (first | (go_at_call 18; refine (check_calls _ _ _).mono ?_; rintro e w1 ⟨rfl, hb⟩; obtain ⟨hc, hf⟩ := bcell hb; have hz := hb.size; (try simp at hz); have z0 : w.heap.size < w1.heap.size := (by omega)) | (go_at_call 11; refine (width_calls _ _).mono ?_; rintro e w' ⟨rfl, rfl⟩))
    go_ret; exact ⟨ret_b rfl Hr.out, by (repeat (first | exact Gr.rfl' | refine Gr.al ?_ _ | refine Gr.dr ?_ | refine Gr.drN ?_ | refine Gr.sc ?_ (by simp <;> omega) _ | refine Gr.tr ?_ (by assumption)))⟩
  · have hr : false = wMay (a, b) k := by simp [wMay, h1]
    have Hr := Lib.hid hr; clear hr
    have h1b : (wCheck (a, b) == 0) = false := by simp [h1]
    clear h1
    go_enter Try.func44, Try.ntmps44
    go_wp2_with (first | (go_at_call 18; refine (check_calls _ _ _).mono ?_; rintro e w1 ⟨rfl, hb⟩; obtain ⟨hc, hf⟩ := bcell hb; have hz := hb.size; (try simp at hz); have z0 : w.heap.size < w1.heap.size := (by omega)) | (go_at_call 11; refine (width_calls _ _).mono ?_; rintro e w' ⟨rfl, rfl⟩))
    go_ret; exact ⟨ret_b rfl Hr.out, by (repeat (first | exact Gr.rfl' | refine Gr.al ?_ _ | refine Gr.dr ?_ | refine Gr.drN ?_ | refine Gr.sc ?_ (by simp <;> omega) _ | refine Gr.tr ?_ (by assumption)))⟩

def wEdge (t k : Int) : Bool := decide (t = 1099511627777) || decide (t % wWidth k = 0)
set_option maxHeartbeats 400000 in
theorem edge_calls (t k : Int) (w : World) (h0 : 0 ≤ t) (hk : 0 < wWidth k) :
    Calls Try.prog 45 #[.int .i64 t, .int .i64 k] w fun e w' => e = .returned (.bool (wEdge t k)) ∧ w = w' := by
  have hw := wWidth_bd k
  by_cases h1 : t = 1099511627777
  · have hr : true = wEdge t k := by simp [wEdge, h1]
    have Hr := Lib.hid hr; clear hr
    have h1b : (t == 1099511627777) = true := by simp [h1]
    clear h1
    go_enter Try.func45, Try.ntmps45
    go_wp2_with (go_at_call 11; refine (width_calls _ _).mono ?_; rintro e w' ⟨rfl, rfl⟩)
    go_ret
    exact ⟨ret_b rfl Hr.out, rfl⟩
  · have hr : (t % wWidth k == 0) = wEdge t k := by rw [Bool.eq_iff_iff]; simp [wEdge, h1]
    have Hr := Lib.hid hr; clear hr
    have h1b : (t == 1099511627777) = false := by simp [h1]
    clear h1
    have h3 : 0 ≤ t % wWidth k := Int.emod_nonneg _ (by omega)
    go_enter Try.func45, Try.ntmps45
    go_wp2_with (go_at_call 11; refine (width_calls _ _).mono ?_; rintro e w' ⟨rfl, rfl⟩)
    go_ret
    exact ⟨ret_b rfl Hr.out, rfl⟩

def wAligned (s : Int × Int) (k : Int) : Bool := wMay s k && (wEdge s.1 k && wEdge s.2 k)
theorem wMay_t {a b k : Int} (h : wMay (a, b) k = true) : 0 ≤ a ∧ a ≤ b ∧ b ≤ 1099511627777 ∧ 0 < wWidth k := by
  simp [wMay] at h; have := wCheck_0.1 h.1; omega
set_option maxHeartbeats 400000 in
theorem aligned_calls (a b k : Int) (w : World) :
    Calls Try.prog 26 #[.agg #[.int .i64 a, .int .i64 b], .int .i64 k] w fun e w' => e = .returned (.bool (wAligned (a, b) k)) ∧ Gr w w' := by
  cases h1 : wMay (a, b) k
  · have Hr := Lib.hid (show false = wAligned (a, b) k by simp [wAligned, h1])
    go_enter Try.func26, Try.ntmps26
    go_wp2_with (first | (go_at_call 44; refine (may_calls _ _ _ _).mono ?_; rintro e w1 ⟨rfl, hb⟩; obtain ⟨hc, hf⟩ := bcell hb; have hz := hb.size; (try simp at hz); have z0 : w.heap.size < w1.heap.size := (by omega)))
    go_ret; exact ⟨ret_b rfl Hr.out, by (repeat (first | exact Gr.rfl' | refine Gr.al ?_ _ | refine Gr.dr ?_ | refine Gr.drN ?_ | refine Gr.sc ?_ (by simp <;> omega) _ | refine Gr.tr ?_ (by assumption)))⟩
  · obtain ⟨b1, b2, b3, b4⟩ := wMay_t h1
    have b5 : 0 ≤ b := by omega
    have Hr := Lib.hid (show (wEdge a k && wEdge b k) = wAligned (a, b) k by simp [wAligned, h1])
    cases h2 : wEdge a k
    all_goals
      go_enter Try.func26, Try.ntmps26
      go_wp2_with (first | (go_at_call 44; refine (may_calls _ _ _ _).mono ?_; rintro e w1 ⟨rfl, hb⟩; obtain ⟨hc, hf⟩ := bcell hb; have hz := hb.size; (try simp at hz); have z0 : w.heap.size < w1.heap.size := (by omega)) | (go_at_call 45; refine (edge_calls _ _ _ (by assumption) (by assumption)).mono ?_; rintro e w' ⟨rfl, rfl⟩))
      go_ret
      exact ⟨ret_b rfl (by rw [← Hr.out, h2]; simp), by (repeat (first | exact Gr.rfl' | refine Gr.al ?_ _ | refine Gr.dr ?_ | refine Gr.drN ?_ | refine Gr.sc ?_ (by simp <;> omega) _ | refine Gr.tr ?_ (by assumption)))⟩
end Go.Proofs.Ytafdddakkenlaaa

import Derived.Test.YtafdddakkenlaaaWinD
namespace Go.Proofs.Ytafdddakkenlaaa
open Go.RowKit
attribute [local go_sem] max2_mx min2_mn max_two' min_two'
attribute [local go_sem ↓] field26_0 field26_1

theorem wCover_bd (s : Int × Int) (k : Int) : 0 ≤ (wCover s k).1 ∧ (wCover s k).1 ≤ 1099511627777 ∧ 0 ≤ (wCover s k).2 ∧ (wCover s k).2 ≤ 1099511627777 := by
  obtain ⟨a, b⟩ := s
  have h1 := wStart_bd a k
  have h2 := wOf_bd (b - 1) k
  unfold wCover
  split
  · simp
  · rename_i h
    have hm : wMay (a, b) k = true := by cases hh : wMay (a, b) k <;> simp_all
    obtain ⟨b1, b2, b3, b4⟩ := wMay_t hm
    have hne : a ≠ 1099511627777 := fun e => h (.inr e)
    have hs : 0 ≤ wStart a k := by
      unfold wStart; rw [if_neg (by omega)]
      exact Int.mul_nonneg (Int.ediv_nonneg (by omega) (by omega)) (by omega)
    split <;> simp <;> omega
theorem wCover_w {s : Int × Int} {k : Int} (h : (wCover s k).1 ≠ (wCover s k).2) : 0 < wWidth k := by
  obtain ⟨a, b⟩ := s
  cases hm : wMay (a, b) k
  · simp [wCover, hm] at h
  · exact (wMay_t hm).2.2.2
theorem wCover_lt {s : Int × Int} {k : Int} (h : (wCover s k).1 ≠ (wCover s k).2) : (wCover s k).1 < (wCover s k).2 := by
  obtain ⟨a, b⟩ := s
  cases hm : wMay (a, b) k
  · simp [wCover, hm] at h
  · obtain ⟨b1, b2, b3, b4⟩ := wMay_t hm
    by_cases h2 : a = 1099511627777
    · simp [wCover, h2] at h
    · by_cases h3 : a = b
      · subst h3; exfalso; apply h; unfold wCover; split
        · rfl
        · simp
      · have e : wCover (a, b) k = (wStart a k, (wOf (b - 1) k).2) := by simp [wCover, hm, h2, h3]
        rw [e]
        have hs : wStart a k = a / wWidth k * wWidth k := by unfold wStart; rw [if_neg (by omega)]
        have hs2 : wStart (b - 1) k = (b - 1) / wWidth k * wWidth k := by unfold wStart; rw [if_neg (by omega)]
        have hd : a / wWidth k * wWidth k ≤ a := Int.ediv_mul_le _ (by omega)
        have hd2 := Int.lt_ediv_add_one_mul_self (b - 1) b4
        rw [Int.add_mul] at hd2
        have hp : 0 ≤ (b - 1) / wWidth k * wWidth k := Int.mul_nonneg (Int.ediv_nonneg (by omega) (by omega)) (by omega)
        have ho : (wOf (b - 1) k).2 = min ((b - 1) / wWidth k * wWidth k + wWidth k) 1099511627777 := by unfold wOf; rw [hs2, if_neg (by omega), mn_eq]
        simp only [hs, ho]
        omega

def wCount (s : Int × Int) (k : Int) : Int := if (wCover s k).1 = (wCover s k).2 then 0 else ((wCover s k).2 - 1) / wWidth k - (wCover s k).1 / wWidth k + 1

set_option maxHeartbeats 1000000 in
theorem count_calls (a b k : Int) (w : World) :
    Calls Try.prog 32 #[.agg #[.int .i64 a, .int .i64 b], .int .i64 k] w fun e w' => e = .returned (.int .i64 (wCount (a, b) k)) ∧ Gr w w' := by
  have hb := wCover_bd (a, b) k
  have hw := wWidth_bd k
  have hcal := cover_calls a b k
  by_cases h1 : (wCover (a, b) k).1 = (wCover (a, b) k).2
  · have Hr := Lib.hid (show 0 = wCount (a, b) k by unfold wCount; rw [if_pos h1])
    have h1b : ((wCover (a, b) k).1 == (wCover (a, b) k).2) = true := by simp [h1]
    clear h1
    have Hcal := Lib.hid hcal; clear hcal
    go_enter Try.func32, Try.ntmps32
    go_wp2_with (first | (go_at_call 11; refine (width_calls _ _).mono ?_; rintro e w' ⟨rfl, rfl⟩) | (go_at_call 28; refine (Hcal.out _).mono ?_; rintro e w1 ⟨rfl, hb⟩; obtain ⟨hc, hf⟩ := bcell hb; have hz := hb.size; (try simp at hz); have z0 : w.heap.size < w1.heap.size := (by omega)))
    go_ret; exact ⟨ret_i rfl Hr.out, by (repeat (first | exact Gr.rfl' | refine Gr.al ?_ _ | refine Gr.dr ?_ | refine Gr.drN ?_ | refine Gr.sc ?_ (by simp <;> omega) _ | refine Gr.tr ?_ (by assumption)))⟩
  · have h0 := wCover_w h1
    have hl := wCover_lt h1
    have q1 : 0 ≤ ((wCover (a, b) k).2 - 1) / wWidth k := Int.ediv_nonneg (by omega) (by omega)
    have q2 : ((wCover (a, b) k).2 - 1) / wWidth k ≤ (wCover (a, b) k).2 - 1 := Int.ediv_le_self _ (by omega)
    have q3 : 0 ≤ (wCover (a, b) k).1 / wWidth k := Int.ediv_nonneg (by omega) (by omega)
    have q4 : (wCover (a, b) k).1 / wWidth k ≤ (wCover (a, b) k).1 := Int.ediv_le_self _ (by omega)
    have Hr := Lib.hid (show ((wCover (a, b) k).2 - 1) / wWidth k - (wCover (a, b) k).1 / wWidth k + 1 = wCount (a, b) k by unfold wCount; rw [if_neg h1])
    have h1b : ((wCover (a, b) k).1 == (wCover (a, b) k).2) = false := by simp [h1]
    clear h1
    have Hcal := Lib.hid hcal; clear hcal
    go_enter Try.func32, Try.ntmps32
    go_wp2_with (first | (go_at_call 11; refine (width_calls _ _).mono ?_; rintro e w' ⟨rfl, rfl⟩) | (go_at_call 28; refine (Hcal.out _).mono ?_; rintro e w1 ⟨rfl, hb⟩; obtain ⟨hc, hf⟩ := bcell hb; have hz := hb.size; (try simp at hz); have z0 : w.heap.size < w1.heap.size := (by omega)))
    go_quiet (fail)
    go_wp2
    go_ret; exact ⟨ret_i rfl Hr.out, by (repeat (first | exact Gr.rfl' | refine Gr.al ?_ _ | refine Gr.dr ?_ | refine Gr.drN ?_ | refine Gr.sc ?_ (by simp <;> omega) _ | refine Gr.tr ?_ (by assumption)))⟩
end Go.Proofs.Ytafdddakkenlaaa

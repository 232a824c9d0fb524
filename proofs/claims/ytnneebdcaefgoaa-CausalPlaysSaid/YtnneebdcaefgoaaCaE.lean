/- Package mark: Check, Equal, Right, At, Join, Covers, With. -/
import Derived.Test.YtnneebdcaefgoaaCaD
namespace Go.Proofs.Ytnneebdcaefgoaa
open Go.RowKit
attribute [local go_sem] max2_mx min2_mn max_two' min_two'

theorem within_calls (n : Int) (w : World) : Calls Try.prog 62 #[.int .i64 n] w fun e w' => e = .returned (.bool (decide (1 ≤ n ∧ n ≤ topN))) ∧ w = w' := by
  have hcs : (¬ 1 ≤ n ∧ decide (1 ≤ n ∧ n ≤ topN) = false) ∨ (1 ≤ n ∧ ¬ n ≤ 1099511627776 ∧ decide (1 ≤ n ∧ n ≤ topN) = false) ∨ (1 ≤ n ∧ n ≤ 1099511627776 ∧ decide (1 ≤ n ∧ n ≤ topN) = true) := by
    unfold topN; by_cases h1 : 1 ≤ n <;> by_cases h2 : n ≤ 1099511627776 <;> simp [h1, h2]
  rcases hcs with ⟨h1, hr⟩ | ⟨h1, h2, hr⟩ | ⟨h1, h2, hr⟩
  all_goals
    rw [hr]
    clear hr
    go_enter Try.func62, Try.ntmps62
    go_wp2_with fail
    go_ret
    exact ⟨rfl, rfl⟩
set_option maxHeartbeats 1000000 in
theorem check_calls (c s q : Int) (w : World) :
    Calls Try.prog 51 #[.agg #[.int .i64 c, .int .i64 s, .int .i64 q]] w fun e w' => e = .returned (.int .i64 (errOf (decide (StampOk c s q)))) ∧ Gr w w' := by
  have hcs : (¬ (1 ≤ c ∧ c ≤ topN) ∧ ¬ StampOk c s q) ∨ ((1 ≤ c ∧ c ≤ topN) ∧ ¬ (1 ≤ q ∧ q ≤ topN) ∧ ¬ StampOk c s q) ∨ ((1 ≤ c ∧ c ≤ topN) ∧ (1 ≤ q ∧ q ≤ topN) ∧ s < 0 ∧ ¬ StampOk c s q) ∨ ((1 ≤ c ∧ c ≤ topN) ∧ (1 ≤ q ∧ q ≤ topN) ∧ ¬ s < 0 ∧ 8 ≤ s ∧ ¬ StampOk c s q) ∨ ((1 ≤ c ∧ c ≤ topN) ∧ (1 ≤ q ∧ q ≤ topN) ∧ ¬ s < 0 ∧ ¬ 8 ≤ s ∧ StampOk c s q) := by
    unfold StampOk topN; omega
  have hwc := fun W => within_calls c W
  have hwq := fun W => within_calls q W
  rcases hcs with ⟨h1, hs⟩ | ⟨h1, h2, hs⟩ | ⟨h1, h2, h5, hs⟩ | ⟨h1, h2, h5, h6, hs⟩ | ⟨h1, h2, h5, h6, hs⟩
  all_goals
    have he : errOf (decide (StampOk c s q)) = errOf (decide (StampOk c s q)) := rfl
    (first | (rw [decide_eq_false hs] at he ⊢) | (rw [decide_eq_true hs] at he ⊢))
    (first | (rw [decide_eq_false h1] at hwc) | (rw [decide_eq_true h1] at hwc))
    (try (first | (rw [decide_eq_false h2] at hwq) | (rw [decide_eq_true h2] at hwq)))
    have Hwc := Lib.hid hwc; have Hwq := Lib.hid hwq
    clear he hs h1 hwc hwq
    (try clear h2)
    go_enter Try.func51, Try.ntmps51
    go_wp2_with fail
    refine (Hwc.out _).mono ?_
    rintro e w1 ⟨rfl, rfl⟩
    go_wp2_with fail
    first
      | (go_ret
         exact ⟨rfl, by (repeat (first | exact Gr.rfl' | refine Gr.al ?_ _ | refine Gr.dr ?_ | refine Gr.drN ?_ | refine Gr.sc ?_ (by simp <;> omega) _ | refine Gr.tr ?_ (by assumption)))⟩)
      | (refine (Hwq.out _).mono ?_
         rintro e w1 ⟨rfl, rfl⟩
         go_wp2_with fail
         go_ret
         exact ⟨rfl, by (repeat (first | exact Gr.rfl' | refine Gr.al ?_ _ | refine Gr.dr ?_ | refine Gr.drN ?_ | refine Gr.sc ?_ (by simp <;> omega) _ | refine Gr.tr ?_ (by assumption)))⟩)
set_option maxHeartbeats 1000000 in
theorem equal_calls (v1 v2 : Value) (l1 l2 : List Int) (w : World) (h1 : rdRow w 1 v1 l1.length (encI l1)) (h2 : rdRow w 1 v2 l2.length (encI l2)) (hk : l1.length ≤ 1000000) :
    Calls Try.prog 63 #[v1, v2] w fun e w' => e = .returned (.bool (decide (l1 = l2))) ∧ Gr w w' := by
  obtain ⟨a1, cap1, rfl, hcap1, hrd1⟩ := rd_at h1
  obtain ⟨a2, cap2, rfl, hcap2, hrd2⟩ := rd_at h2
  obtain ⟨r, hr⟩ : ∃ r, decide (l1 = l2) = r := ⟨_, rfl⟩
  rw [hr]
  have Hr := Lib.hid hr; clear hr h1 h2
  go_enter Try.func63, Try.ntmps63
  by_cases hll : l1.length = l2.length
  · have hll' : ((l1.length : Int) == (l2.length : Int)) = true := by simp [hll]
    go_wp2_with fail
    go_loopw [5, 13] (fun _ i wr => ∃ k : Nat, k ≤ l1.length ∧ i = .int .i64 k ∧ l1.take k = l2.take k ∧ Gr w wr) (fun _ i _ => l1.length - (intOf i).toNat)
    case atStart => exact ⟨0, Nat.zero_le _, rfl, by simp, Gr.rfl'⟩
    case round =>
      obtain ⟨k, hkl, rfl, hpre, hg⟩ := hrel
      by_cases hlt : k < l1.length
      · have hlt2 : k < l2.length := by omega
        obtain ⟨b1, o1, rfl, hc1⟩ := hrd1 (by omega)
        obtain ⟨b2, o2, rfl, hc2⟩ := hrd2 (by omega)
        have c0 := keepc hg (hc1 k hlt)
        have d0 := keepc hg (hc2 k hlt2)
        have Ht1 := Lib.hid (List.take_succ_eq_append_getElem hlt)
        have Ht2 := Lib.hid (List.take_succ_eq_append_getElem hlt2)
        have Hd := Lib.hid (show l1[k] ≠ l2[k] → l1 ≠ l2 from fun h e => h (by simp [e]))
        have Hp := Lib.hid hpre
        clear hc1 hc2 hrd1 hrd2 hpre
        generalize l1[k] = x at *
        generalize l2[k] = y at *
        have g1 : (0 : Int) ≤ (k : Int) := by omega
        have g2 : (k : Int) < (l1.length : Int) := by omega
        have g3 : (k : Int) < (l2.length : Int) := by omega
        by_cases he : x = y
        · have he' : (x == y) = true := by simp [he]
          subst he
          go_wp2_with fail
          go_quiet (fail)
          go_wp2_with fail
          go_roundw
          case rel => exact ⟨k + 1, by omega, by go_num, by rw [Ht1.out, Ht2.out, Hp.out], by (repeat (first | exact Gr.rfl' | refine Gr.al ?_ _ | refine Gr.dr ?_ | refine Gr.drN ?_ | refine Gr.sc ?_ (by simp <;> omega) _ | refine Gr.tr ?_ (by assumption)))⟩
          case measure => simp [intOf]; omega
        · have he' : (x == y) = false := by simp [he]
          have Hne := Lib.hid he
          clear he
          go_wp2_with fail
          go_quiet (fail)
          go_wp2_with fail
          go_ret
          exact ⟨ret_b rfl (by rw [← Hr.out]; simp [Hd.out Hne.out]), by (repeat (first | exact Gr.rfl' | refine Gr.al ?_ _ | refine Gr.dr ?_ | refine Gr.drN ?_ | refine Gr.sc ?_ (by simp <;> omega) _ | refine Gr.tr ?_ (by assumption)))⟩
      · obtain rfl : k = l1.length := by omega
        have Hp := Lib.hid hpre
        clear hrd1 hrd2 hpre
        go_wp2_with fail
        go_ret
        have := Hp.out
        rw [List.take_length, List.take_of_length_le (by omega)] at this
        exact ⟨ret_b rfl (by rw [← Hr.out]; simp [this]), hg⟩
  · have hll' : ((l1.length : Int) == (l2.length : Int)) = false := by simp; omega
    have Hne := Lib.hid (show l1 ≠ l2 from fun e => hll (by rw [e]))
    clear hrd1 hrd2 hll
    go_wp2_with fail
    go_ret
    exact ⟨ret_b rfl (by rw [← Hr.out]; simp [Hne.out]), Gr.rfl'⟩
end Go.Proofs.Ytnneebdcaefgoaa

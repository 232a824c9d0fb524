/- Lists of numbers at quorum: Index, Contains, In, Same, Clone, few. -/
import Derived.Test.YtijgbfhjimlklaaGn
namespace Go.Proofs.Ytijgbfhjimlklaa
open Go.RowKit

set_option maxHeartbeats 1000000 in
theorem index_calls (v : Value) (l : List Int) (n : Int) (w : World) (hv : rdRow w 1 v l.length (encI l)) (hk : l.length ≤ 1000000) :
    Calls Try.prog 45 #[v, .int .i64 n] w fun e w' => (∃ i : Int, e = .returned (.int .i64 i) ∧ (0 ≤ i ↔ n ∈ l)) ∧ w = w' := by
  obtain ⟨a, cap, rfl, hcap, hrd⟩ := rd_at hv
  go_enter Try.func45, Try.ntmps45
  go_wp2_with fail
  go_loopw [8] (fun i wr => ∃ k : Nat, k ≤ l.length ∧ i = .int .i64 k ∧ n ∉ l.take k ∧ w = wr) (fun i _ => l.length - (intOf i).toNat)
  case atStart => exact ⟨0, Nat.zero_le _, rfl, by simp, rfl⟩
  case round =>
    obtain ⟨k, hk1, rfl, hnot, rfl⟩ := hrel
    by_cases hlt : k < l.length
    · obtain ⟨b, o, rfl, hc⟩ := hrd (by omega)
      have c0 := hc k hlt
      have h1 : (k : Int) < l.length := by omega
      have Hm := Lib.hid (List.getElem_mem hlt)
      have Ht := Lib.hid (List.take_succ_eq_append_getElem hlt)
      have Hn := Lib.hid hnot
      clear hc hrd hv hnot
      generalize l[k] = x at *
      by_cases he : n = x
      · have he' : (n == x) = true := by simp [he]
        have Hne := Lib.hid he
        clear he
        go_wp2_with fail
        go_ret
        refine ⟨⟨k, rfl, ?_⟩, rfl⟩
        have := Hm.out
        rw [← Hne.out] at this
        exact ⟨fun _ => this, fun _ => by omega⟩
      · have he' : (n == x) = false := by simp [he]
        have Hne := Lib.hid he
        clear he
        go_wp2_with fail
        go_roundw
        case rel => exact ⟨k + 1, by omega, by go_num, by rw [Ht.out]; simp [Hn.out, Hne.out], trivial⟩
        case measure => simp [intOf]; omega
    · obtain rfl : k = l.length := by omega
      have Hn := Lib.hid hnot
      clear hrd hv hnot
      go_wp2_with fail
      go_ret
      refine ⟨⟨-1, rfl, ?_⟩, rfl⟩
      have := Hn.out
      rw [List.take_length] at this
      exact ⟨fun h => by omega, fun h => absurd h this⟩
theorem contains_calls (v : Value) (l : List Int) (n : Int) (w : World) (hv : rdRow w 1 v l.length (encI l)) (hk : l.length ≤ 1000000) :
    Calls Try.prog 31 #[v, .int .i64 n] w fun e w' => e = .returned (.bool (decide (n ∈ l))) ∧ w = w' := by
  have hcal := index_calls v l n w hv hk
  go_enter Try.func31, Try.ntmps31
  go_wp2_with fail
  refine hcal.mono ?_
  rintro e w1 ⟨⟨i, rfl, hi⟩, rfl⟩
  have hd : decide (0 ≤ i) = decide (n ∈ l) := decide_eq_decide.2 hi
  have Hd := Lib.hid hd
  clear hi hd hcal
  go_wp2_with fail
  go_ret
  exact ⟨ret_b rfl Hd.out, rfl⟩
set_option maxHeartbeats 1000000 in
theorem same_calls (v1 v2 : Value) (l1 l2 : List Int) (w : World) (h1 : rdRow w 1 v1 l1.length (encI l1)) (h2 : rdRow w 1 v2 l2.length (encI l2)) (hk : l1.length ≤ 1000000) :
    Calls Try.prog 28 #[v1, v2] w fun e w' => e = .returned (.bool (decide (l1 = l2))) ∧ Gr w w' := by
  obtain ⟨a1, cap1, rfl, hcap1, hrd1⟩ := rd_at h1
  obtain ⟨a2, cap2, rfl, hcap2, hrd2⟩ := rd_at h2
  obtain ⟨r, hr⟩ : ∃ r, decide (l1 = l2) = r := ⟨_, rfl⟩
  rw [hr]
  have Hr := Lib.hid hr; clear hr h1 h2
  go_enter Try.func28, Try.ntmps28
  by_cases hll : l1.length = l2.length
  · have hll' : ((l1.length : Int) == (l2.length : Int)) = true := by simp [hll]
    go_wp2_with fail
    go_loopw [5] (fun i wr => ∃ k : Nat, k ≤ l1.length ∧ i = .int .i64 k ∧ l1.take k = l2.take k ∧ Gr w wr) (fun i _ => l1.length - (intOf i).toNat)
    case atStart => exact ⟨0, Nat.zero_le _, rfl, by simp, Gr.rfl'⟩
    case round =>
      obtain ⟨k, hkl, rfl, hpre, hg⟩ := hrel
      by_cases hlt : k < l1.length
      · have hlt2 : k < l2.length := by omega
        obtain ⟨b1, o1, rfl, hc1⟩ := hrd1 (by omega)
        obtain ⟨b2, o2, rfl, hc2⟩ := hrd2 (by omega)
        have c0 := keepc hg (hc1 k hlt)
        have d0 := keepc hg (hc2 k hlt2)
        have Ht1 := Lib.hid (List.take_succ_eq_append_getElem hlt)
        have Ht2 := Lib.hid (List.take_succ_eq_append_getElem hlt2)
        have Hd := Lib.hid (show l1[k] ≠ l2[k] → l1 ≠ l2 from fun h e => h (by simp [e]))
        have Hp := Lib.hid hpre
        clear hc1 hc2 hrd1 hrd2 hpre
        generalize l1[k] = x at *
        generalize l2[k] = y at *
        have g1 : (0 : Int) ≤ (k : Int) := by omega
        have g2 : (k : Int) < (l1.length : Int) := by omega
        have g3 : (k : Int) < (l2.length : Int) := by omega
        go_wp2_with fail
        go_quiet (fail)
        by_cases he : x = y
        · have he' : (x == y) = true := by simp [he]
          subst he
          go_wp2_with fail
          go_roundw
          case rel => exact ⟨k + 1, by omega, by go_num, by rw [Ht1.out, Ht2.out, Hp.out], by (repeat (first | exact Gr.rfl' | refine Gr.al ?_ _ | refine Gr.dr ?_ | refine Gr.drN ?_ | refine Gr.sc ?_ (by simp <;> omega) _ | refine Gr.tr ?_ (by assumption)))⟩
          case measure => simp [intOf]; omega
        · have he' : (x == y) = false := by simp [he]
          have Hne := Lib.hid he
          clear he
          go_wp2_with fail
          go_ret
          exact ⟨ret_b rfl (by rw [← Hr.out]; simp [Hd.out Hne.out]), by (repeat (first | exact Gr.rfl' | refine Gr.al ?_ _ | refine Gr.dr ?_ | refine Gr.drN ?_ | refine Gr.sc ?_ (by simp <;> omega) _ | refine Gr.tr ?_ (by assumption)))⟩
      · obtain rfl : k = l1.length := by omega
        have Hp := Lib.hid hpre
        clear hrd1 hrd2 hpre
        go_wp2_with fail
        go_ret
        have := Hp.out
        rw [List.take_length, hll, List.take_length] at this
        exact ⟨ret_b rfl (by rw [← Hr.out]; simp [this]), hg⟩
  · have hll' : ((l1.length : Int) == (l2.length : Int)) = false := by rw [beq_eq_false_iff_ne]; omega
    have Hll := Lib.hid hll
    clear hll hrd1 hrd2
    go_wp2_with fail
    go_ret
    exact ⟨ret_b rfl (by rw [← Hr.out]; simp; intro e; exact Hll.out (by rw [e])), Gr.rfl'⟩
end Go.Proofs.Ytijgbfhjimlklaa

/- Lists of numbers at quorum: Index, Contains, In, Same, Clone, few. -/
import Derived.Test.YtpnpnjfflblkpaaGn
namespace Go.Proofs.Ytpnpnjfflblkpaa
open Go.RowKit

set_option maxHeartbeats 1000000 in
theorem index_calls (v : Value) (l : List Int) (n : Int) (w : World) (hv : rdRow w 1 v l.length (encI l)) (hk : l.length ≤ 1000000) :
    Calls Try.prog 57 #[v, .int .i64 n] w fun e w' => (∃ i : Int, e = .returned (.int .i64 i) ∧ (0 ≤ i ↔ n ∈ l)) ∧ w = w' := by
  obtain ⟨a, cap, rfl, hcap, hrd⟩ := rd_at hv
  go_enter Try.func57, Try.ntmps57
  go_wp2_with fail
  go_loopw [8] (fun i wr => ∃ k : Nat, k ≤ l.length ∧ i = .int .i64 k ∧ n ∉ l.take k ∧ w = wr) (fun i _ => l.length - (intOf i).toNat)
  case atStart => exact ⟨0, Nat.zero_le _, rfl, by simp, rfl⟩
  case round =>
    obtain ⟨k, hk1, rfl, hnot, rfl⟩ := hrel
    by_cases hlt : k < l.length
    · obtain ⟨b, o, rfl, hc⟩ := hrd (by omega)
      have c0 := hc k hlt
      have h1 : (k : Int) < l.length := by omega
      have Hm := Lib.hid (List.getElem_mem hlt)
      have Ht := Lib.hid (List.take_succ_eq_append_getElem hlt)
      have Hn := Lib.hid hnot
      clear hc hrd hv hnot
      generalize l[k] = x at *
      by_cases he : n = x
      · have he' : (n == x) = true := by simp [he]
        have Hne := Lib.hid he
        clear he
        go_wp2_with fail
        go_ret
        refine ⟨⟨k, rfl, ?_⟩, rfl⟩
        have := Hm.out
        rw [← Hne.out] at this
        exact ⟨fun _ => this, fun _ => by omega⟩
      · have he' : (n == x) = false := by simp [he]
        have Hne := Lib.hid he
        clear he
        go_wp2_with fail
        go_roundw
        case rel => exact ⟨k + 1, by omega, by go_num, by rw [Ht.out]; simp [Hn.out, Hne.out], trivial⟩
        case measure => simp [intOf]; omega
    · obtain rfl : k = l.length := by omega
      have Hn := Lib.hid hnot
      clear hrd hv hnot
      go_wp2_with fail
      go_ret
      refine ⟨⟨-1, rfl, ?_⟩, rfl⟩
      have := Hn.out
      rw [List.take_length] at this
      exact ⟨fun h => by omega, fun h => absurd h this⟩
theorem contains_calls (v : Value) (l : List Int) (n : Int) (w : World) (hv : rdRow w 1 v l.length (encI l)) (hk : l.length ≤ 1000000) :
    Calls Try.prog 43 #[v, .int .i64 n] w fun e w' => e = .returned (.bool (decide (n ∈ l))) ∧ w = w' := by
  have hcal := index_calls v l n w hv hk
  go_enter Try.func43, Try.ntmps43
  go_wp2_with fail
  refine hcal.mono ?_
  rintro e w1 ⟨⟨i, rfl, hi⟩, rfl⟩
  have hd : decide (0 ≤ i) = decide (n ∈ l) := decide_eq_decide.2 hi
  have Hd := Lib.hid hd
  clear hi hd hcal
  go_wp2_with fail
  go_ret
  exact ⟨ret_b rfl Hd.out, rfl⟩
set_option maxHeartbeats 1000000 in
theorem in_calls (v : Value) (l : List Int) (n : Int) (w : World) (hv : rdRow w 1 v l.length (encI l)) (hk : l.length ≤ 1000000) :
    Calls Try.prog 52 #[v, .int .i64 n] w fun e w' => e = .returned (.bool (decide (n ∈ l))) ∧ w = w' := by
  obtain ⟨a, cap, rfl, hcap, hrd⟩ := rd_at hv
  obtain ⟨r, hr⟩ : ∃ r, decide (n ∈ l) = r := ⟨_, rfl⟩
  rw [hr]
  have Hr := Lib.hid hr; clear hr
  go_enter Try.func52, Try.ntmps52
  go_wp2_with fail
  go_loopw [5] (fun i wr => ∃ k : Nat, k ≤ l.length ∧ i = .int .i64 k ∧ n ∉ l.take k ∧ w = wr) (fun i _ => l.length - (intOf i).toNat)
  case atStart => exact ⟨0, Nat.zero_le _, rfl, by simp, rfl⟩
  case round =>
    obtain ⟨k, hk1, rfl, hnot, rfl⟩ := hrel
    by_cases hlt : k < l.length
    · obtain ⟨b, o, rfl, hc⟩ := hrd (by omega)
      have c0 := hc k hlt
      have h1 : (k : Int) < l.length := by omega
      have Hm := Lib.hid (List.getElem_mem hlt)
      have Ht := Lib.hid (List.take_succ_eq_append_getElem hlt)
      have Hn := Lib.hid hnot
      clear hc hrd hv hnot
      generalize l[k] = x at *
      by_cases he : x = n
      · have he' : (x == n) = true := by simp [he]
        have Hne := Lib.hid he
        clear he
        go_wp2_with fail
        go_ret
        have := Hm.out
        rw [Hne.out] at this
        exact ⟨ret_b rfl (by rw [← Hr.out]; simp [this]), rfl⟩
      · have he' : (x == n) = false := by simp [he]
        have Hne := Lib.hid (show n ≠ x from fun e => he e.symm)
        clear he
        go_wp2_with fail
        go_roundw
        case rel => exact ⟨k + 1, by omega, by go_num, by rw [Ht.out]; simp [Hn.out, Hne.out], trivial⟩
        case measure => simp [intOf]; omega
    · obtain rfl : k = l.length := by omega
      have Hn := Lib.hid hnot
      clear hrd hv hnot
      go_wp2_with fail
      go_ret
      have := Hn.out
      rw [List.take_length] at this
      exact ⟨ret_b rfl (by rw [← Hr.out]; simp [this]), rfl⟩
set_option maxHeartbeats 1000000 in
theorem same_calls (v1 v2 : Value) (l1 l2 : List Int) (w : World) (h1 : rdRow w 1 v1 l1.length (encI l1)) (h2 : rdRow w 1 v2 l2.length (encI l2)) (hk : l1.length ≤ 1000000) :
    Calls Try.prog 26 #[v1, v2] w fun e w' => e = .returned (.bool (decide (l1 = l2))) ∧ Gr w w' := by
  obtain ⟨a1, cap1, rfl, hcap1, hrd1⟩ := rd_at h1
  obtain ⟨a2, cap2, rfl, hcap2, hrd2⟩ := rd_at h2
  obtain ⟨r, hr⟩ : ∃ r, decide (l1 = l2) = r := ⟨_, rfl⟩
  rw [hr]
  have Hr := Lib.hid hr; clear hr h1 h2
  go_enter Try.func26, Try.ntmps26
  by_cases hll : l1.length = l2.length
  · have hll' : ((l1.length : Int) == (l2.length : Int)) = true := by simp [hll]
    go_wp2_with fail
    go_loopw [5] (fun i wr => ∃ k : Nat, k ≤ l1.length ∧ i = .int .i64 k ∧ l1.take k = l2.take k ∧ Gr w wr) (fun i _ => l1.length - (intOf i).toNat)
    case atStart => exact ⟨0, Nat.zero_le _, rfl, by simp, Gr.rfl'⟩
    case round =>
      obtain ⟨k, hkl, rfl, hpre, hg⟩ := hrel
      by_cases hlt : k < l1.length
      · have hlt2 : k < l2.length := by omega
        obtain ⟨b1, o1, rfl, hc1⟩ := hrd1 (by omega)
        obtain ⟨b2, o2, rfl, hc2⟩ := hrd2 (by omega)
        have c0 := keepc hg (hc1 k hlt)
        have d0 := keepc hg (hc2 k hlt2)
        have Ht1 := Lib.hid (List.take_succ_eq_append_getElem hlt)
        have Ht2 := Lib.hid (List.take_succ_eq_append_getElem hlt2)
        have Hd := Lib.hid (show l1[k] ≠ l2[k] → l1 ≠ l2 from fun h e => h (by simp [e]))
        have Hp := Lib.hid hpre
        clear hc1 hc2 hrd1 hrd2 hpre
        generalize l1[k] = x at *
        generalize l2[k] = y at *
        have g1 : (0 : Int) ≤ (k : Int) := by omega
        have g2 : (k : Int) < (l1.length : Int) := by omega
        have g3 : (k : Int) < (l2.length : Int) := by omega
        go_wp2_with fail
        go_quiet (fail)
        by_cases he : x = y
        · have he' : (x == y) = true := by simp [he]
          subst he
          go_wp2_with fail
          go_roundw
          case rel => exact ⟨k + 1, by omega, by go_num, by rw [Ht1.out, Ht2.out, Hp.out], by (repeat (first | exact Gr.rfl' | refine Gr.al ?_ _ | refine Gr.dr ?_ | refine Gr.drN ?_ | refine Gr.sc ?_ (by simp <;> omega) _ | refine Gr.tr ?_ (by assumption)))⟩
          case measure => simp [intOf]; omega
        · have he' : (x == y) = false := by simp [he]
          have Hne := Lib.hid he
          clear he
          go_wp2_with fail
          go_ret
          exact ⟨ret_b rfl (by rw [← Hr.out]; simp [Hd.out Hne.out]), by (repeat (first | exact Gr.rfl' | refine Gr.al ?_ _ | refine Gr.dr ?_ | refine Gr.drN ?_ | refine Gr.sc ?_ (by simp <;> omega) _ | refine Gr.tr ?_ (by assumption)))⟩
      · obtain rfl : k = l1.length := by omega
        have Hp := Lib.hid hpre
        clear hrd1 hrd2 hpre
        go_wp2_with fail
        go_ret
        have := Hp.out
        rw [List.take_length, hll, List.take_length] at this
        exact ⟨ret_b rfl (by rw [← Hr.out]; simp [this]), hg⟩
  · have hll' : ((l1.length : Int) == (l2.length : Int)) = false := by rw [beq_eq_false_iff_ne]; omega
    have Hll := Lib.hid hll
    clear hll hrd1 hrd2
    go_wp2_with fail
    go_ret
    exact ⟨ret_b rfl (by rw [← Hr.out]; simp; intro e; exact Hll.out (by rw [e])), Gr.rfl'⟩
set_option maxHeartbeats 1000000 in
theorem clone_calls (v : Value) (l : List Int) (w : World) (hv : rdRow w 1 v l.length (encI l)) (hk : l.length ≤ 1000000) :
    Calls Try.prog 39 #[v] w fun e w' => ∃ v', e = .returned v' ∧ w'.ownsRow w.heap.size 3 1 v' l.length (encI l) ∧ Gr w w' := by
  obtain ⟨hel, a, cap, rfl, hcap, hrd⟩ := hv
  have hnil := fun W => Lib.run_eql_slice_nil (P := Try.prog) W 27 3 a l.length cap 0 0 Try.underlying27
  obtain ⟨i0, hi, hz0, hz1, hz2⟩ := info_parts infoInt
  cases a with
  | none =>
    have hl0 : l.length = 0 := by
      rcases Nat.eq_zero_or_pos l.length with h | h
      · exact h
      · obtain ⟨b, o, h2, _⟩ := hrd h; cases h2
    have hl : l = [] := List.length_eq_zero_iff.1 hl0
    subst hl
    simp only [List.length_nil, Option.isNone_none] at hnil
    clear hrd
    go_enter Try.func39, Try.ntmps39
    go_wp2_with fail
    go_ret
    exact ⟨_, rfl, World.ownsRow_nil _ _ _ _, Gr.rfl'⟩
  | some ad =>
    have hnews : ∀ j u, (encI l)[j]? = some u → w.cell? (ad.add j) = some u := by
      intro j u hu
      have hpos : 0 < l.length := by
        rcases Nat.eq_zero_or_pos l.length with h | h
        · rw [List.length_eq_zero_iff.1 h] at hu; simp at hu
        · exact h
      obtain ⟨b, o, h2, hc⟩ := hrd hpos
      cases h2
      rw [Addr.add_mid]; exact hc j u hu
    have Hnews := Lib.hid hnews
    clear hrd hnews
    go_enter Try.func39, Try.ntmps39
    go_wp2_with (at_builtin; refine wpList_append_own _ rfl _ _ 27 rfl w.heap.size 3 i0 _ 1 8 Try.underlying27 hi hz0 hz1 hz2 rfl (by decide) _ 0 [] rfl (World.ownsRow_made w #[] 0 (Nat.le_refl _) (by decide) (by rfl)) ad l.length cap (encI l) rfl hel (fun j u h => keepc (Gr.al Gr.rfl' _) (Hnews.out j u h)) (by intro u hu; obtain ⟨x, _, hx⟩ := List.mem_flatMap.1 hu; simp only [List.mem_cons, List.not_mem_nil, or_false] at hx; subst hx; rfl) (by unfold maxLen; omega) (by omega) (by simp) ?_; intro v2 w2 hown2 hgrow2 _)
    go_ret
    exact ⟨_, rfl, own_cast hown2 (by omega) (by simp), gr_gb (by (repeat (first | exact Gr.rfl' | refine Gr.al ?_ _ | refine Gr.dr ?_ | refine Gr.drN ?_ | refine Gr.sc ?_ (by simp <;> omega) _ | refine Gr.tr ?_ (by assumption)))) hgrow2 (fun k hk => by cases hk; exact Nat.le_refl _)⟩
set_option maxHeartbeats 1000000 in
theorem few_calls (v : Value) (l : List Int) (w : World) (hv : rdRow w 1 v l.length (encI l)) (hk : l.length ≤ maxLen) :
    Calls Try.prog 23 #[v] w fun e w' => ∃ v', e = .returned v' ∧ rdRow w 1 v' (l.take 12).length (encI (l.take 12)) ∧ w = w' := by
  have hv0 := hv
  obtain ⟨_, a, cap, rfl, hc, _⟩ := hv
  unfold maxLen at hk
  by_cases h : 12 < l.length
  · have h1 : (12 : Int) < l.length := by omega
    have h2 : (12 : Int) ≤ cap := by omega
    have H := Lib.hid (rd_take hv0 (Nat.le_of_lt h))
    clear hv0 h hc
    go_enter Try.func23, Try.ntmps23
    go_wp2_with fail
    go_ret
    exact ⟨_, rfl, H.out, rfl⟩
  · have h1 : ¬ (12 : Int) < l.length := by omega
    have e : l.take 12 = l := List.take_of_length_le (by omega)
    have H := Lib.hid hv0
    clear hv0 h hc
    rw [e]
    go_enter Try.func23, Try.ntmps23
    go_wp2_with fail
    go_ret
    exact ⟨_, rfl, H.out, rfl⟩
end Go.Proofs.Ytpnpnjfflblkpaa

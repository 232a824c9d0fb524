/- The reference's vectors: Plain, At, With, Covers, Right, Check. -/
import Derived.Test.YtnneebdcaefgoaaCaB
import Derived.Deep.DeepCutAuto
namespace Go.Proofs.Ytnneebdcaefgoaa
open Go.RowKit

theorem rd_new (w : World) (l : List Int) (T : TypeId) : rdRow (w.alloc (.cells (l.map (Value.int .i64)).toArray T)) 1 (.slice (some ⟨w.heap.size, 0, none⟩) l.length l.length) l.length (encI l) := by
  refine ⟨by simp [encI_map], some ⟨w.heap.size, 0, none⟩, l.length, rfl, Nat.le_refl _, fun _ => ⟨w.heap.size, 0, rfl, fun j u hu => ?_⟩⟩
  refine cells_at w.heap.size rfl j u ?_
  rw [encI_map] at hu; simpa using hu
theorem rplain_calls (v : Value) (l : List Int) (w : World) (hv : rdRow w 1 v l.length (encI l)) (hk : l.length ≤ 1000000) :
    Calls Try.prog 44 #[v] w fun e w' => ∃ v', e = .returned v' ∧ w'.ownsRow w.heap.size 3 1 v' (plainV l).length (encI (plainV l)) ∧ Gr w w' := by
  have hal := all_calls v l w hv hk
  go_enter Try.func44, Try.ntmps44
  go_wp2_with fail
  refine hal.mono ?_
  rintro e w1 ⟨rfl, hb⟩
  clear hal hv
  go_wp2_with fail
  refine (vector_calls (at8 l) (fun i _ => (at8_nn l i).1) w1).mono ?_
  rintro e w2 ⟨v2, rfl, ho, hb2⟩
  have Ho := Lib.hid ho
  clear ho
  go_wp2_with fail
  go_ret
  exact ⟨_, rfl, own_mono Ho.out hb.size, hb.tr hb2⟩
theorem eight {s : Int} (h : 0 ≤ s ∧ s < 8) : s = 0 ∨ s = 1 ∨ s = 2 ∨ s = 3 ∨ s = 4 ∨ s = 5 ∨ s = 6 ∨ s = 7 := by omega
theorem idx8 (f : Nat → Int) {s : Int} (h : 0 ≤ s ∧ s < 8) (W : World) : (Instr.index 70 (.agg #[.int .i64 (f 0), .int .i64 (f 1), .int .i64 (f 2), .int .i64 (f 3), .int .i64 (f 4), .int .i64 (f 5), .int .i64 (f 6), .int .i64 (f 7)]) (.int .i64 s)).run Try.prog W = .ok (.int .i64 (f s.toNat)) W := by
  rcases eight h with rfl | rfl | rfl | rfl | rfl | rfl | rfl | rfl
  all_goals simp [Instr.index, run_underlying Try.underlying70, asIntOf, go_sem]
set_option maxHeartbeats 1000000 in
theorem rat_calls (v : Value) (l : List Int) (s : Int) (w : World) (hv : rdRow w 1 v l.length (encI l)) (hk : l.length ≤ 1000000) :
    Calls Try.prog 19 #[v, .int .i64 s] w fun e w' => e = .returned (.int .i64 (atV l s)) ∧ Gr w w' := by
  have hal := all_calls v l w hv hk
  clear hv
  have Hal := Lib.hid hal
  clear hal
  by_cases hs : 0 ≤ s ∧ s < 8
  · have hr : atV l s = at8 l s.toNat := if_pos hs
    rw [hr]
    have hix := idx8 (at8 l) hs
    have h1 : ¬ s < 0 := by omega
    have h2 : ¬ 7 < s := by omega
    clear hr hs
    go_enter Try.func19, Try.ntmps19
    go_wp2_with fail
    refine Hal.out.mono ?_
    rintro e w1 ⟨rfl, hb⟩
    unfold arr8
    go_wp2_with fail
    go_ret
    exact ⟨rfl, hb⟩
  · have hr : atV l s = 0 := if_neg hs
    rw [hr]
    clear hr
    have h2 : s < 0 ∨ ¬ s < 0 ∧ 7 < s := by omega
    clear hs
    rcases h2 with h2 | ⟨h2, h3⟩
    all_goals
      go_enter Try.func19, Try.ntmps19
      go_wp2_with fail
      go_ret
      exact ⟨rfl, Gr.rfl'⟩
set_option maxRecDepth 100000 in
set_option maxHeartbeats 4000000 in
theorem rwith_calls (v : Value) (l : List Int) (s n : Int) (w : World) (hv : rdRow w 1 v l.length (encI l)) (hk : l.length ≤ 1000000) :
    Calls Try.prog 20 #[v, .int .i64 s, .int .i64 n] w fun e w' => ∃ v', e = .returned v' ∧ w'.ownsRow w.heap.size 3 1 v' (withV l s n).length (encI (withV l s n)) ∧ Gr w w' := by
  have hal := all_calls v l w hv hk
  clear hv
  have Hal := Lib.hid hal
  clear hal
  have hvec := vector_calls (withF l s n) (fun i _ => (withF_nn l s n i).1)
  have Hvec := Lib.hid hvec
  clear hvec
  have h0 : at8 [n] 0 = clN n := by simp [at8]
  have Hn := Lib.hid (fun (W : World) (B : Nat) (hB : W.heap.size = B) => (show Calls Try.prog 40 #[.slice (some ⟨B, 0, none⟩) 1 1] (W.alloc (.cells #[.int .i64 n] 3)) fun e w' => e = .returned (arr8 (at8 [n])) ∧ Gr (W.alloc (.cells #[.int .i64 n] 3)) w' by subst hB; exact all_calls _ [n] _ (rd_new W [n] 3) (by simp)))
  by_cases hs : 0 ≤ s ∧ s < 8
  · obtain ⟨m, rfl⟩ := Int.eq_ofNat_of_zero_le hs.1
    have hm : m < 8 := by omega
    have g1 : (m : Int) ≤ 7 := by omega
    have g2 : (m : Int) < 8 := by omega
    have g3 : (0 : Int) ≤ m := by omega
    clear hs
    have Hw := Lib.hid (show withF l m n m = clN n ∧ ∀ k : Nat, k ≠ m → withF l m n k = at8 l k from ⟨by unfold withF; rw [if_pos rfl], fun k hk => by unfold withF; rw [if_neg (by omega)]⟩)
    go_enter Try.func20, Try.ntmps20
    go_wp2_with fail
    refine Hal.out.mono ?_
    rintro e w1 ⟨rfl, hb⟩
    unfold arr8
    go_wp2_with fail
    with_reducible refine (Hn.out (w1.alloc (.cells #[.int .i64 (at8 l 0), .int .i64 (at8 l 1), .int .i64 (at8 l 2), .int .i64 (at8 l 3), .int .i64 (at8 l 4), .int .i64 (at8 l 5), .int .i64 (at8 l 6), .int .i64 (at8 l 7)] 70)) (w1.heap.size + 1) (by simp)).mono ?_
    rintro e w2 ⟨rfl, hb2⟩
    have hA := ((arr_new w1 70 (at8 l)).gr ((Gr.rfl'.al _).tr hb2))
    have am := (hA m hm).1; have fm := (hA m hm).2
    have hA2 := Lib.hid (hA.set (clN n) Hw.out.1 Hw.out.2).rd
    have hG : Gr w (w2.setCell ⟨w1.heap.size, m, none⟩ (.int .i64 (clN n))) := Gr.sc ((hb.al _).tr ((Gr.rfl'.al _).tr hb2)) (by exact hb.size) _
    have HG := Lib.hid hG
    clear hA hb2 hG
    unfold arr8
    have hix := idx8 (at8 [n]) (s := 0) (by decide)
    have hix0 : at8 [n] (Int.toNat 0) = clN n := h0
    rw [hix0, h0] at hix
    rw [h0]
    clear h0 hix0
    go_upto_region 4 with fail
    generalize w2.setCell ⟨w1.heap.size, m, none⟩ (.int .i64 (clN n)) = wx at *
    have hA3 := hA2.out
    have b0 := hA3.2 0 (by decide); have b1 := hA3.2 1 (by decide); have b2 := hA3.2 2 (by decide); have b3 := hA3.2 3 (by decide)
    have b4 := hA3.2 4 (by decide); have b5 := hA3.2 5 (by decide); have b6 := hA3.2 6 (by decide); have b7 := hA3.2 7 (by decide)
    clear hA3 hA2 am fm hix
    go_wp2_with fail
    refine (Hvec.out _).mono ?_
    rintro e w3 ⟨v3, rfl, ho, hb3⟩
    have Ho := Lib.hid ho
    clear ho b0 b1 b2 b3 b4 b5 b6 b7
    go_wp2_with fail
    go_ret
    exact ⟨_, rfl, own_mono Ho.out HG.out.size, HG.out.tr hb3⟩
  · have hE : withF l s n = at8 l ∨ True := .inr trivial
    have hE2 : ∀ k, k < 8 → withF l s n k = at8 l k := fun k hk => by unfold withF; rw [if_neg (by omega)]
    have hE3 : withV l s n = vecOf (at8 l) := vecOf_congr hE2
    have Hvec2 := Lib.hid (vector_calls (at8 l) (fun i _ => (at8_nn l i).1))
    rw [hE3]
    have h2 : s < 0 ∨ ¬ s < 0 ∧ 7 < s := by omega
    clear hs hE hE2 hE3 Hn h0 Hvec
    rcases h2 with h2 | ⟨h2, h3⟩
    all_goals
      go_enter Try.func20, Try.ntmps20
      go_wp2_with fail
      refine Hal.out.mono ?_
      rintro e w1 ⟨rfl, hb⟩
      unfold arr8
      go_wp2_with fail
      refine (Hvec2.out _).mono ?_
      rintro e w3 ⟨v3, rfl, ho, hb3⟩
      have Ho := Lib.hid ho
      have hG := (hb.al (.cells #[.int .i64 (at8 l 0), .int .i64 (at8 l 1), .int .i64 (at8 l 2), .int .i64 (at8 l 3), .int .i64 (at8 l 4), .int .i64 (at8 l 5), .int .i64 (at8 l 6), .int .i64 (at8 l 7)] 70)).tr hb3
      have hz : w.heap.size ≤ _ := ((hb.al (.cells #[.int .i64 (at8 l 0), .int .i64 (at8 l 1), .int .i64 (at8 l 2), .int .i64 (at8 l 3), .int .i64 (at8 l 4), .int .i64 (at8 l 5), .int .i64 (at8 l 6), .int .i64 (at8 l 7)] 70)).size)
      clear ho
      go_wp2_with fail
      go_ret
      exact ⟨_, rfl, own_mono Ho.out hz, hG⟩
set_option maxHeartbeats 1000000 in
theorem rcovers_calls (v1 v2 : Value) (a b : List Int) (w : World) (h1 : rdRow w 1 v1 a.length (encI a)) (h2 : rdRow w 1 v2 b.length (encI b)) (hk1 : a.length ≤ 1000000) (hk2 : b.length ≤ 1000000) :
    Calls Try.prog 17 #[v1, v2] w fun e w' => e = .returned (.bool (decide (Cov a b))) ∧ Gr w w' := by
  have hal := all_calls v1 a w h1 hk1
  have hal2 := fun W hg => all_calls v2 b W (h2.gr hg) hk2
  have Hal := Lib.hid hal; have Hal2 := Lib.hid hal2
  clear hal hal2 h1 h2
  obtain ⟨r, hr⟩ : ∃ r, decide (Cov a b) = r := ⟨_, rfl⟩
  rw [hr]
  have Hr := Lib.hid hr; clear hr
  go_enter Try.func17, Try.ntmps17
  go_wp2_with fail
  refine Hal.out.mono ?_
  rintro e w1 ⟨rfl, hb⟩
  unfold arr8
  have ha1 := (arr_new w1 70 (at8 a)).rd
  have hg1 := hb.al (.cells #[.int .i64 (at8 a 0), .int .i64 (at8 a 1), .int .i64 (at8 a 2), .int .i64 (at8 a 3), .int .i64 (at8 a 4), .int .i64 (at8 a 5), .int .i64 (at8 a 6), .int .i64 (at8 a 7)] 70)
  go_wp2_with fail
  refine (Hal2.out _ hg1).mono ?_
  rintro e w2 ⟨rfl, hb2⟩
  replace ha1 := ha1.gr (hb2.al (.cells #[.int .i64 (at8 b 0), .int .i64 (at8 b 1), .int .i64 (at8 b 2), .int .i64 (at8 b 3), .int .i64 (at8 b 4), .int .i64 (at8 b 5), .int .i64 (at8 b 6), .int .i64 (at8 b 7)] 70))
  have hb1 := (arr_new w2 70 (at8 b)).rd
  have hg2 := (hg1.tr hb2).al (.cells #[.int .i64 (at8 b 0), .int .i64 (at8 b 1), .int .i64 (at8 b 2), .int .i64 (at8 b 3), .int .i64 (at8 b 4), .int .i64 (at8 b 5), .int .i64 (at8 b 6), .int .i64 (at8 b 7)] 70)
  clear hb hb2 hg1
  unfold arr8
  go_wp2_with fail
  generalize w2.alloc (.cells #[.int .i64 (at8 b 0), .int .i64 (at8 b 1), .int .i64 (at8 b 2), .int .i64 (at8 b 3), .int .i64 (at8 b 4), .int .i64 (at8 b 5), .int .i64 (at8 b 6), .int .i64 (at8 b 7)] 70) = w3 at *
  generalize w1.heap.size = B1 at *
  generalize w2.heap.size = B2 at *
  go_loopw [7] (fun i wr => ∃ k : Nat, k ≤ 8 ∧ i = .int .i64 k ∧ (∀ j, j < k → at8 b j ≤ at8 a j) ∧ Gr w3 wr) (fun i _ => 8 - (intOf i).toNat)
  case atStart => exact ⟨0, Nat.zero_le _, rfl, fun j hj => by omega, Gr.rfl'⟩
  case round =>
    obtain ⟨k, hk, rfl, hcv, hg⟩ := hrel
    have Hcv := Lib.hid hcv
    have Hg := Lib.hid (hg2.tr hg)
    have Hg3 := Lib.hid hg
    clear hcv
    by_cases hlt : k < 8
    · have h1 : (k : Int) < 8 := by omega
      have h2 : (0 : Int) ≤ k := by omega
      have c0 := (ha1.gr hg).2 k hlt
      have d0 := (hb1.gr hg).2 k hlt
      clear ha1 hb1 hg hg2
      have hx : ∃ x, at8 a k = x := ⟨_, rfl⟩
      have hy : ∃ x, at8 b k = x := ⟨_, rfl⟩
      obtain ⟨x, hx⟩ := hx
      obtain ⟨y, hy⟩ := hy
      rw [hx] at c0; rw [hy] at d0
      have Hx := Lib.hid hx; have Hy := Lib.hid hy
      clear hx hy
      by_cases he : x < y
      · go_wp2_with fail
        go_quiet (fail)
        go_wp2_with fail
        go_ret
        exact ⟨ret_b rfl (by rw [← Hr.out]; symm; apply decide_eq_false; intro hc; have := hc k hlt; rw [Hx.out, Hy.out] at this; omega), (Hg.out).tr (by (repeat (first | exact Gr.rfl' | refine Gr.al ?_ _ | refine Gr.dr ?_ | refine Gr.drN ?_ | refine Gr.sc ?_ (by simp <;> omega) _ | refine Gr.tr ?_ (by assumption))))⟩
      · go_wp2_with fail
        go_quiet (fail)
        go_wp2_with fail
        go_roundw
        case rel => exact ⟨k + 1, by omega, by go_num, fun j hj => by
          by_cases e : j = k
          · rw [e, Hx.out, Hy.out]; omega
          · exact Hcv.out j (by omega), Hg3.out.tr (by (repeat (first | exact Gr.rfl' | refine Gr.al ?_ _ | refine Gr.dr ?_ | refine Gr.drN ?_ | refine Gr.sc ?_ (by simp <;> omega) _ | refine Gr.tr ?_ (by assumption))))⟩
        case measure => simp [intOf]; omega
    · obtain rfl : k = 8 := by omega
      clear ha1 hb1 hg hg2
      go_wp2_with fail
      go_ret
      exact ⟨ret_b rfl (by rw [← Hr.out]; symm; apply decide_eq_true; exact Hcv.out), Hg.out⟩
theorem rright_calls (v : Value) (l : List Int) (w : World) (hv : rdRow w 1 v l.length (encI l)) (hk : l.length ≤ 1000000) :
    Calls Try.prog 59 #[v] w fun e w' => e = .returned (.bool (decide (l = plainV l))) ∧ Gr w w' := by
  have hp := rplain_calls v l w hv hk
  have hs := fun v' W h hg => same_calls v v' l (plainV l) W (hv.gr hg) h hk
  have Hp := Lib.hid hp; have Hs := Lib.hid hs
  clear hp hs hv
  go_enter Try.func59, Try.ntmps59
  go_wp2_with fail
  refine Hp.out.mono ?_
  rintro e w1 ⟨v1, rfl, ho, hb⟩
  have hs1 := Hs.out v1 w1 (rdRow_of_own ho) hb
  clear ho
  go_wp2_with fail
  refine hs1.mono ?_
  rintro e w2 ⟨rfl, hb2⟩
  clear hs1
  go_wp2_with fail
  go_ret
  exact ⟨rfl, hb.tr hb2⟩
def StampOk (c s q : Int) : Prop := 1 ≤ c ∧ c ≤ topN ∧ 1 ≤ q ∧ q ≤ topN ∧ 0 ≤ s ∧ s < 8
instance (c s q : Int) : Decidable (StampOk c s q) := by unfold StampOk; exact inferInstance
def errOf (ok : Bool) : Int := if ok then 0 else 1
set_option maxHeartbeats 1000000 in
theorem rcheck_calls (c s q : Int) (w : World) :
    Calls Try.prog 60 #[.agg #[.int .i64 c, .int .i64 s, .int .i64 q]] w fun e w' => e = .returned (.int .i64 (errOf (decide (StampOk c s q)))) ∧ Gr w w' := by
  have hcs : (c < 1 ∧ ¬ StampOk c s q) ∨ (¬ c < 1 ∧ 1099511627776 < c ∧ ¬ StampOk c s q) ∨ (¬ c < 1 ∧ ¬ 1099511627776 < c ∧ q < 1 ∧ ¬ StampOk c s q) ∨ (¬ c < 1 ∧ ¬ 1099511627776 < c ∧ ¬ q < 1 ∧ 1099511627776 < q ∧ ¬ StampOk c s q) ∨ (¬ c < 1 ∧ ¬ 1099511627776 < c ∧ ¬ q < 1 ∧ ¬ 1099511627776 < q ∧ s < 0 ∧ ¬ StampOk c s q) ∨ (¬ c < 1 ∧ ¬ 1099511627776 < c ∧ ¬ q < 1 ∧ ¬ 1099511627776 < q ∧ ¬ s < 0 ∧ 7 < s ∧ ¬ StampOk c s q) ∨ (¬ c < 1 ∧ ¬ 1099511627776 < c ∧ ¬ q < 1 ∧ ¬ 1099511627776 < q ∧ ¬ s < 0 ∧ ¬ 7 < s ∧ StampOk c s q) := by
    unfold StampOk topN; omega
  rcases hcs with ⟨h1, hs⟩ | ⟨h1, h2, hs⟩ | ⟨h1, h2, h3, hs⟩ | ⟨h1, h2, h3, h4, hs⟩ | ⟨h1, h2, h3, h4, h5, hs⟩ | ⟨h1, h2, h3, h4, h5, h6, hs⟩ | ⟨h1, h2, h3, h4, h5, h6, hs⟩
  all_goals
    have he : errOf (decide (StampOk c s q)) = errOf (decide (StampOk c s q)) := rfl
    (first | (rw [decide_eq_false hs] at he ⊢) | (rw [decide_eq_true hs] at he ⊢))
    clear he hs
    go_enter Try.func60, Try.ntmps60
    go_wp2_with fail
    go_ret
    exact ⟨rfl, by (repeat (first | exact Gr.rfl' | refine Gr.al ?_ _ | refine Gr.dr ?_ | refine Gr.drN ?_ | refine Gr.sc ?_ (by simp <;> omega) _ | refine Gr.tr ?_ (by assumption)))⟩
end Go.Proofs.Ytnneebdcaefgoaa

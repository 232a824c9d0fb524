/- The ring: the chapter's examples; RingHashes. -/
import Derived.Test.YtomhdkppgfcaaaaRgI
namespace Go.Proofs.Ytomhdkppgfcaaaa
open Go.RowKit

theorem rd_new (w : World) (l : List Int) (T : TypeId) : rdRow (w.alloc (.cells (l.map (Value.int .i64)).toArray T)) 1 (.slice (some ⟨w.heap.size, 0, none⟩) l.length l.length) l.length (encI l) := by
  refine ⟨by simp [encI_map], some ⟨w.heap.size, 0, none⟩, l.length, rfl, Nat.le_refl _, fun _ => ⟨w.heap.size, 0, rfl, fun j u hu => ?_⟩⟩
  refine cells_at w.heap.size rfl j u ?_
  rw [encI_map] at hu; simpa using hu
theorem nodes_ex : nodesOf [3, 1, 3, 99] = [1, 3] := by decide
theorem nodes_ex2 : nodesOf [5] = [5] := by decide
theorem nodes_ex3 : nodesOf [] = [] := by decide
set_option maxRecDepth 100000 in
set_option maxHeartbeats 4000000 in
theorem awake_calls (w : World) : Calls Try.prog 8 #[] w fun e w' => e = .returned (.bool true) ∧ Gr w w' := by
  have r1 := rd_new w [3, 1, 3, 99] 3
  have hn1 := new_calls 1 _ [3, 1, 3, 99] _ r1 (by decide)
  rw [nodes_ex] at hn1
  clear r1
  go_enter Try.func8, Try.ntmps8
  go_wp2_with fail
  refine hn1.mono ?_
  rintro e w1 ⟨p, ps, rfl, hps, hrg, hb⟩
  have hrd := hrg.rd
  have hG : Gr w w1 := by (repeat (first | exact Gr.rfl' | refine Gr.al ?_ _ | refine Gr.dr ?_ | refine Gr.drN ?_ | refine Gr.sc ?_ (by simp <;> omega) _ | refine Gr.tr ?_ (by assumption)))
  clear hb hrg hn1
  have hnc := nodes_calls p 1 [1, 3] ps w1 hrd (by decide)
  go_wp2_with fail
  refine hnc.mono ?_
  rintro e w2 ⟨v2, rfl, hown2, hb⟩
  have hrd2 := hrd.gr hb
  replace hG := hG.tr hb
  clear hb hnc hrd
  have r2 := rd_new w2 [1, 3] 3
  have hsm := same_calls v2 _ [1, 3] [1, 3] _ ((rdRow_of_own hown2).gr (Gr.al Gr.rfl' _)) r2 (by decide)
  replace hrd2 := hrd2.gr (Gr.al Gr.rfl' (.cells ([1, 3].map (Value.int .i64)).toArray 3))
  clear r2 hown2
  go_wp2_with fail
  refine hsm.mono ?_
  rintro e w3 ⟨rfl, hb⟩
  have hrd3 := hrd2.gr hb
  replace hG := (hG.al (.cells ([1, 3].map (Value.int .i64)).toArray 3)).tr hb
  clear hb hsm hrd2
  have r3 := rd_new w3 [5] 3
  have hn2 := new_calls 1 _ [5] _ r3 (by decide)
  rw [nodes_ex2] at hn2
  have hrd4 := hrd3.gr (Gr.al Gr.rfl' (.cells ([5].map (Value.int .i64)).toArray 3))
  replace hG := hG.al (.cells ([5].map (Value.int .i64)).toArray 3)
  clear r3 hrd3
  go_wp2_with fail
  refine hn2.mono ?_
  rintro e w4 ⟨p2, ps2, rfl, hps2, hrg2, hb⟩
  have hrd5 := hrd4.gr hb
  have hrdB := hrg2.rd
  replace hG := hG.tr hb
  clear hb hrd4 hn2 hrg2
  have hlen := hps2.len
  have hpc := fun key hk => prefer_calls p2 1 [5] ps2 key 3 w4 hrdB (by rw [hlen]; decide) hps2.2 hk
  have hpo : ∀ h, prefer ps2 h 3 = [5] := fun h => pref_one hps2 (by decide)
  clear hlen
  go_wp2_with fail
  refine (hpc _ (by decide)).mono ?_
  rintro e w5 ⟨v5, rfl, hown5, hb⟩
  rw [hpo] at hown5
  have hrd6 := hrd5.gr hb
  replace hG := hG.tr hb
  clear hb hrd5 hpc hpo hrdB
  have r4 := rd_new w5 [5] 3
  have hsm := same_calls v5 _ [5] [5] _ ((rdRow_of_own hown5).gr (Gr.al Gr.rfl' _)) r4 (by decide)
  have hrd7 := hrd6.gr (Gr.al Gr.rfl' (.cells ([5].map (Value.int .i64)).toArray 3))
  replace hG := hG.al (.cells ([5].map (Value.int .i64)).toArray 3)
  clear r4 hown5 hrd6
  go_wp2_with fail
  refine hsm.mono ?_
  rintro e w6 ⟨rfl, hb⟩
  have hrd8 := hrd7.gr hb
  replace hG := hG.tr hb
  clear hb hsm hrd7
  go_wp2_with fail
  refine (epoch_calls p 1 [1, 3] ps w6 hrd8).mono ?_
  rintro e w7 ⟨rfl, rfl⟩
  have r5 : rdRow w6 1 (.slice none 0 0) ([] : List Int).length (encI []) := ⟨rfl, none, 0, rfl, Nat.le_refl _, fun h => absurd h (by decide)⟩
  have hn3 := new_calls 1 _ [] _ r5 (by decide)
  rw [nodes_ex3] at hn3
  go_wp2_with fail
  refine hn3.mono ?_
  rintro e w8 ⟨p3, ps3, rfl, hps3, hrg3, hb⟩
  have hrdC := hrg3.rd
  replace hG := hG.tr hb
  clear hb hn3 hrg3 hrd8 r5
  obtain rfl := hps3.nil
  go_wp2_with fail
  refine (prefer_calls p3 1 [] [] _ 3 w8 hrdC (by decide) hps3.2 (by decide)).mono ?_
  rintro e w9 ⟨v9, rfl, hown9, hb⟩
  rw [pref_none] at hown9
  obtain ⟨a9, c9, rfl⟩ := own_slice hown9
  replace hG := hG.tr hb
  clear hb hown9
  go_wp2_with fail
  go_ret
  exact ⟨rfl, hG⟩
end Go.Proofs.Ytomhdkppgfcaaaa

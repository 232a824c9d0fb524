/- quorum: awake. -/
import Derived.Test.YtpnpnjfflblkpaaQwL
namespace Go.Proofs.Ytpnpnjfflblkpaa
open Go.RowKit Go.Maps Go.Sort Go.Shelf

theorem aw1 : nodesOf [1, 2, 3] = [1, 2, 3] := by decide
theorem aw2 : nodesOf [1, 2] = [1, 2] := by decide
def awG1 : Int → List Pt := fun k => if k = 1 ∧ ackB [1, 2] [] 1 then sortP [ptA 5 1] else []
def awG2 : Int → List Pt := fun k => if k = 2 ∧ ackB [1, 2] [1] 2 then sortP [ptA 5 2] else awG1 k
theorem awS1 : sortP [ptA 5 1] = [ptA 5 1] := by decide
theorem awS2 : sortP [ptA 5 2] = [ptA 5 2] := by decide
theorem awS3 : sortP [ptA 5 1, ptA 5 2] = [ptA 5 2] := by decide
theorem awL : ([1, 2].map awG2).flatten = [ptA 5 1, ptA 5 2] := by
  have e1 : awG2 1 = [ptA 5 1] := by
    unfold awG2 awG1
    rw [if_neg (by decide), if_pos (by decide), awS1]
  have e2 : awG2 2 = [ptA 5 2] := by
    unfold awG2
    rw [if_pos (by decide), awS2]
  simp [e1, e2]
theorem awG_len (k : Int) : (awG2 k).length ≤ 100000 := by
  unfold awG2 awG1
  rw [awS1, awS2]
  repeat' split
  all_goals simp
theorem awR : repL [1, 2] awG2 1 = [ptA 5 2] := by
  unfold repL
  rw [awL, awS3, if_pos (by decide)]
  have e1 : awG2 1 = [ptA 5 1] := by
    unfold awG2 awG1
    rw [if_neg (by decide), if_pos (by decide), awS1]
  rw [e1]
  decide
set_option maxRecDepth 100000 in
set_option maxHeartbeats 8000000 in
theorem awake_calls (w : World) : Calls Try.prog 8 #[] w fun e w' => e = .returned (.bool true) ∧ Gr w w' := by
  go_enter Try.func8, Try.ntmps8
  go_wp2_with fail
  refine (newwrite_calls 2 _ [1, 2, 3] _ (rdI_lit w [1, 2, 3] 3) (by decide)).mono ?_
  rintro e w1 ⟨p, nv, b, rfl, ha, _, hp, hb, hg⟩
  rw [aw1] at ha
  have hga : Gr w (w.alloc (.cells #[.int .i64 1, .int .i64 2, .int .i64 3] 3)) := Gr.al Gr.rfl' _
  have HW := Lib.hid (show OneW w w1 p b (mx 2 1) [1, 2, 3] [] from ⟨nv, ha, hga.tr hg, Nat.le_trans hga.size hb⟩)
  have HBw := Lib.hid (Nat.le_trans hga.size hb)
  have Hlb := Lib.hid (show b < w1.heap.size from ha.map.lt b rfl)
  clear ha hp hb hg hga
  go_wp2_with fail
  refine (newread_calls 2 _ [1, 2] _ (rdI_lit w1 [1, 2] 3) (by decide)).mono ?_
  rintro e w2 ⟨q, nq, b2, g, rfl, ha, hp, hb, hgg, hg⟩
  rw [aw2] at ha
  have hga : Gr w1 (w1.alloc (.cells #[.int .i64 1, .int .i64 2] 3)) := Gr.al Gr.rfl' _
  replace hb : (w1.alloc (.cells #[.int .i64 1, .int .i64 2] 3)).heap.size ≤ b2 := hb
  replace hgg : (w1.alloc (.cells #[.int .i64 1, .int .i64 2] 3)).heap.size ≤ g := hgg
  have hw0 : w.heap.size ≤ w1.heap.size := by obtain ⟨_, _, h, _⟩ := HW.out; exact h.size
  have HBr := Lib.hid (show w.heap.size ≤ b2 ∧ w.heap.size ≤ g from by have := hga.size; omega)
  have HB := Lib.hid (show b ≠ b2 ∧ b ≠ g from by have := hga.size; have := Hlb.out; omega)
  have HR := Lib.hid (show OneR w w2 q b2 g (mx 2 1) [1, 2] [] (fun _ => []) from ⟨nq, _, ha, by obtain ⟨_, _, h, _⟩ := HW.out; exact (h.tr hga).tr hg, HBr.out.1, HBr.out.2⟩)
  replace HW := Lib.hid (HW.out.gr (hga.tr hg))
  clear ha hp hb hgg hg hga hw0 Hlb
  go_wp2_with fail
  refine (HW.out.ack (by decide) (by decide) 1 (by unfold I64; omega)).mono ?_
  rintro e wa ⟨rfl, ha, hb, hm⟩
  rw [show decide (ackB [1, 2, 3] [] 1) = true from by decide]
  rw [show ackH [1, 2, 3] [] 1 = [1] from by decide] at ha
  replace HR := Lib.hid (HR.out.bt hb (fun k e => by rw [← e]; exact hm) (fun e => HB.out.1 e) (fun e => HB.out.2 e) (fun k e => by rw [← e]; exact HBw.out))
  replace HW := Lib.hid ha
  clear ha hb hm
  go_wp2_with fail
  refine (HW.out.ack (by decide) (by decide) 1 (by unfold I64; omega)).mono ?_
  rintro e wa ⟨rfl, ha, hb, hm⟩
  rw [show decide (ackB [1, 2, 3] [1] 1) = false from by decide]
  rw [show ackH [1, 2, 3] [1] 1 = [1] from by decide] at ha
  replace HR := Lib.hid (HR.out.bt hb (fun k e => by rw [← e]; exact hm) (fun e => HB.out.1 e) (fun e => HB.out.2 e) (fun k e => by rw [← e]; exact HBw.out))
  replace HW := Lib.hid ha
  clear ha hb hm
  go_wp2_with fail
  refine (HW.out.ack (by decide) (by decide) 5 (by unfold I64; omega)).mono ?_
  rintro e wa ⟨rfl, ha, hb, hm⟩
  rw [show decide (ackB [1, 2, 3] [1] 5) = false from by decide]
  rw [show ackH [1, 2, 3] [1] 5 = [1] from by decide] at ha
  replace HR := Lib.hid (HR.out.bt hb (fun k e => by rw [← e]; exact hm) (fun e => HB.out.1 e) (fun e => HB.out.2 e) (fun k e => by rw [← e]; exact HBw.out))
  replace HW := Lib.hid ha
  clear ha hb hm
  go_wp2_with fail
  refine (HW.out.ack (by decide) (by decide) 3 (by unfold I64; omega)).mono ?_
  rintro e wa ⟨rfl, ha, hb, hm⟩
  rw [show decide (ackB [1, 2, 3] [1] 3) = true from by decide]
  rw [show ackH [1, 2, 3] [1] 3 = [1, 3] from by decide] at ha
  replace HR := Lib.hid (HR.out.bt hb (fun k e => by rw [← e]; exact hm) (fun e => HB.out.1 e) (fun e => HB.out.2 e) (fun k e => by rw [← e]; exact HBw.out))
  replace HW := Lib.hid ha
  clear ha hb hm
  go_wp2_with fail
  refine (point_calls 5 1 _).mono ?_
  rintro e wp ⟨rfl, hgp⟩
  replace HW := Lib.hid (HW.out.gr hgp); replace HR := Lib.hid (HR.out.gr hgp)
  clear hgp
  go_wp2_with fail
  refine ((HR.out.gr (Gr.al Gr.rfl' (.cells (ptC (ptA 5 1)).toArray 26))).answer (by decide) (by decide) 1 (by unfold I64; omega) _ [ptA 5 1] (rdP_lit wp (ptA 5 1) 26) (by decide)).mono ?_
  rintro e wa ⟨rfl, ha, hb, hm1, hm2⟩
  rw [show ackH [1, 2] [] 1 = [1] from by decide] at ha
  replace HW := Lib.hid ((HW.out.gr (Gr.al Gr.rfl' (.cells (ptC (ptA 5 1)).toArray 26))).bt hb (fun k e => by rcases e with e | e <;> rw [← e] <;> assumption) (fun e => e.elim (fun e => HB.out.1 e.symm) (fun e => HB.out.2 e.symm)) (fun k e => e.elim (fun e => by rw [← e]; exact HBr.out.1) (fun e => by rw [← e]; exact HBr.out.2)))
  replace HR := Lib.hid (show OneR w wa q b2 g (mx 2 1) [1, 2] [1] awG1 from ha)
  clear ha hb hm1 hm2
  go_wp2_with fail
  refine (point_calls 5 2 _).mono ?_
  rintro e wp ⟨rfl, hgp⟩
  replace HW := Lib.hid (HW.out.gr hgp); replace HR := Lib.hid (HR.out.gr hgp)
  clear hgp
  go_wp2_with fail
  refine ((HR.out.gr (Gr.al Gr.rfl' (.cells (ptC (ptA 5 2)).toArray 26))).answer (by decide) (by decide) 2 (by unfold I64; omega) _ [ptA 5 2] (rdP_lit wp (ptA 5 2) 26) (by decide)).mono ?_
  rintro e wa ⟨rfl, ha, hb, hm1, hm2⟩
  rw [show ackH [1, 2] [1] 2 = [1, 2] from by decide] at ha
  replace HW := Lib.hid ((HW.out.gr (Gr.al Gr.rfl' (.cells (ptC (ptA 5 2)).toArray 26))).bt hb (fun k e => by rcases e with e | e <;> rw [← e] <;> assumption) (fun e => e.elim (fun e => HB.out.1 e.symm) (fun e => HB.out.2 e.symm)) (fun k e => e.elim (fun e => by rw [← e]; exact HBr.out.1) (fun e => by rw [← e]; exact HBr.out.2)))
  replace HR := Lib.hid (show OneR w wa q b2 g (mx 2 1) [1, 2] [1, 2] awG2 from ha)
  clear ha hb hm1 hm2
  go_wp2_with fail
  obtain ⟨nq2, gv2, hr, hgr, _⟩ := HR.out
  refine (merged_calls wa q (mx 2 1) nq2 [1, 2] (some b2) (some g) [1, 2] gv2 awG2 hr (by decide) (by unfold sumG; rw [awL]; decide)).mono ?_
  rintro e w3 ⟨v3, rfl, ho, hg⟩
  rw [awL, awS3] at ho
  obtain ⟨a3, c3, rfl⟩ := own_slice ho
  obtain ⟨bg, og, _, e1, _, hrg⟩ := rd_range ptC 6 (fun _ => rfl) (rdRow_of_own ho) (by decide)
  replace e1 := (Value.slice.inj e1).1
  subst e1
  have Hrg := Lib.hid (show w3.rangeAt bg og (ptC (ptA 5 2)) by have := hrg 0 (by decide); simpa using this)
  have HR3 := Lib.hid (hr.gr hg)
  have HW3 := Lib.hid (HW.out.gr hg)
  have G3 := Lib.hid (hgr.tr hg)
  clear hr hgr ho hg hrg HR HW
  go_wp2_with fail
  refine (repair_calls w3 q (mx 2 1) nq2 [1, 2] (some b2) (some g) [1, 2] gv2 awG2 HR3.out (by decide) (by unfold sumG; rw [awL]; decide) awG_len 1 (by unfold I64; omega)).mono ?_
  rintro e w4 ⟨v4, rfl, ho, hg⟩
  rw [awR] at ho
  obtain ⟨a4, c4, rfl⟩ := own_slice ho
  obtain ⟨bh, oh, _, e1, _, hrg⟩ := rd_range ptC 6 (fun _ => rfl) (rdRow_of_own ho) (by decide)
  replace e1 := (Value.slice.inj e1).1
  subst e1
  have Hrh := Lib.hid (show w4.rangeAt bh oh (ptC (ptA 5 2)) by have := hrg 0 (by decide); simpa using this)
  have Hrg4 := Lib.hid (rangeAt_gr hg Hrg.out)
  have HR4 := Lib.hid (HR3.out.gr hg)
  have HW4 := Lib.hid (HW3.out.gr hg)
  have G4 := Lib.hid (G3.out.tr hg)
  have Hcl := Lib.hid (show w4.cell? ⟨bg, og + 3, none⟩ = some (.int .i64 2) from Hrg4.out 3 _ rfl)
  clear ho hg hrg HR3 HW3 Hrg G3
  have HD1 := Lib.hid (fun W (hg : Gr w4 W) => show Calls Try.prog 13 #[.pointer (some ⟨p, 0, none⟩)] W fun e w' => e = .returned (.bool true) ∧ Gr W w' from by
    obtain ⟨nw, h1, _⟩ := HW4.out
    exact done_calls W p (mx 2 1) nw [1, 2, 3] (some b) [1, 3] (h1.gr hg))
  have HD2 := Lib.hid (fun W (hg : Gr w4 W) => show Calls Try.prog 16 #[.pointer (some ⟨q, 0, none⟩)] W fun e w' => e = .returned (.bool true) ∧ Gr W w' from
    rdone_calls W q (mx 2 1) nq2 [1, 2] (some b2) [1, 2] (HR4.out.gr hg).wr)
  go_wp2_with fail
  refine region_start (S := fun w' => Gr w4 w') (by kernel_rfl) (by exact Gr.dr Gr.rfl') (fun wz hz0 hHeld => ?_)
  simp only [List.size_toArray, List.length_cons, List.length_nil, Nat.reduceAdd]
  refine wpAnyH_take (i := 0) (oi := ?_) (v := ?_) ?_ (by kernel_rfl) (by kernel_rfl) (by kernel_rfl) ?_ ?_ (by assumption) ?_; rotate_left 2; (focus (simp only [List.getElem?_toArray, List.getElem?_cons_zero]; rfl)); (focus (exact fun _ _ _ h => h)); first | (focus (refine Or.inl ⟨by rfl, ?_⟩; intro w hSw; (try dsimp only at hSw); (try dsimp only [Array.getD]); go_simp; (try with_reducible rfl))) | (focus (refine Or.inr ⟨by rfl, ?_⟩; rfl)) | fail "op 0"
  try simp only [Act.put, List.setIfInBounds_toArray, List.set_cons_zero, List.set_cons_succ]
  refine wpAnyH_take (i := 1) (oi := ?_) (v := ?_) ?_ (by kernel_rfl) (by kernel_rfl) (by kernel_rfl) ?_ ?_ (by assumption) ?_; rotate_left 2; (focus (simp only [List.getElem?_toArray, List.getElem?_cons_succ, List.getElem?_cons_zero]; rfl)); (focus (exact fun _ _ _ h => h)); first | (focus (refine Or.inl ⟨by rfl, ?_⟩; intro w hSw; (try dsimp only at hSw); (try dsimp only [Array.getD]); go_simp; (try with_reducible rfl))) | (focus (refine Or.inr ⟨by rfl, ?_⟩; rfl)) | fail "op 1"
  try simp only [Act.put, List.setIfInBounds_toArray, List.set_cons_zero, List.set_cons_succ]
  refine wpAnyH_take (i := 2) (oi := ?_) (v := ?_) ?_ (by kernel_rfl) (by kernel_rfl) (by kernel_rfl) ?_ ?_ (by assumption) ?_; rotate_left 2; (focus (simp only [List.getElem?_toArray, List.getElem?_cons_succ, List.getElem?_cons_zero]; rfl)); (focus (exact fun _ _ _ h => h)); first | (focus (refine Or.inl ⟨by rfl, ?_⟩; intro w hSw; (try dsimp only at hSw); (try dsimp only [Array.getD]); go_simp; (try with_reducible rfl))) | (focus (refine Or.inr ⟨by rfl, ?_⟩; rfl)) | fail "op 2"
  try simp only [Act.put, List.setIfInBounds_toArray, List.set_cons_zero, List.set_cons_succ]
  refine wpAnyH_take (i := 3) (oi := ?_) (v := ?_) ?_ (by kernel_rfl) (by kernel_rfl) (by kernel_rfl) ?_ ?_ (by assumption) ?_; rotate_left 2; (focus (simp only [List.getElem?_toArray, List.getElem?_cons_succ, List.getElem?_cons_zero]; rfl)); (focus (exact fun _ _ _ h => h)); first | (focus (refine Or.inl ⟨by rfl, ?_⟩; intro w hSw; (try dsimp only at hSw); (try dsimp only [Array.getD]); go_simp; (try with_reducible rfl))) | (focus (refine Or.inr ⟨by rfl, ?_⟩; rfl)) | fail "op 3"
  try simp only [Act.put, List.setIfInBounds_toArray, List.set_cons_zero, List.set_cons_succ]
  refine wpAnyH_take (i := 4) (oi := ?_) (v := ?_) ?_ (by kernel_rfl) (by kernel_rfl) (by kernel_rfl) ?_ ?_ (by assumption) ?_; rotate_left 2; (focus (simp only [List.getElem?_toArray, List.getElem?_cons_succ, List.getElem?_cons_zero]; rfl)); (focus (exact fun _ _ _ h => h)); first | (focus (refine Or.inl ⟨by rfl, ?_⟩; intro w hSw; (try dsimp only at hSw); (try dsimp only [Array.getD]); go_simp; (try with_reducible rfl))) | (focus (refine Or.inr ⟨by rfl, ?_⟩; rfl)) | fail "op 4"
  try simp only [Act.put, List.setIfInBounds_toArray, List.set_cons_zero, List.set_cons_succ]
  refine wpAnyH_take (i := 5) (oi := ?_) (v := ?_) ?_ (by kernel_rfl) (by kernel_rfl) (by kernel_rfl) ?_ ?_ (by assumption) ?_; rotate_left 2; (focus (simp only [List.getElem?_toArray, List.getElem?_cons_succ, List.getElem?_cons_zero]; rfl)); (focus (exact fun _ _ _ h => h)); first | (focus (refine Or.inl ⟨by rfl, ?_⟩; intro w hSw; (try dsimp only at hSw); (try dsimp only [Array.getD]); go_simp; (try with_reducible rfl))) | (focus (refine Or.inr ⟨by rfl, ?_⟩; rfl)) | fail "op 5"
  try simp only [Act.put, List.setIfInBounds_toArray, List.set_cons_zero, List.set_cons_succ]
  refine wpAnyH_take (i := 6) (oi := ?_) (v := ?_) ?_ (by kernel_rfl) (by kernel_rfl) (by kernel_rfl) ?_ ?_ (by assumption) ?_; rotate_left 2; (focus (simp only [List.getElem?_toArray, List.getElem?_cons_succ, List.getElem?_cons_zero]; rfl)); (focus (exact fun _ _ _ h => h)); first | (focus (refine Or.inl ⟨by rfl, ?_⟩; intro w hSw; (try dsimp only at hSw); (try dsimp only [Array.getD]); go_simp; (try with_reducible rfl))) | (focus (refine Or.inr ⟨by rfl, ?_⟩; rfl)) | fail "op 6"
  try simp only [Act.put, List.setIfInBounds_toArray, List.set_cons_zero, List.set_cons_succ]
  refine wpAnyH_take (i := 7) (oi := ?_) (v := ?_) ?_ (by kernel_rfl) (by kernel_rfl) (by kernel_rfl) ?_ ?_ (by assumption) ?_; rotate_left 2; (focus (simp only [List.getElem?_toArray, List.getElem?_cons_succ, List.getElem?_cons_zero]; rfl)); (focus (exact fun _ _ _ h => h)); first | (focus (refine Or.inl ⟨by rfl, ?_⟩; intro w hSw; (try dsimp only at hSw); (try dsimp only [Array.getD]); go_simp; (try with_reducible rfl))) | (focus (refine Or.inr ⟨by rfl, ?_⟩; rfl)) | fail "op 7"
  try simp only [Act.put, List.setIfInBounds_toArray, List.set_cons_zero, List.set_cons_succ]
  refine wpAnyH_take (i := 8) (oi := ?_) (v := ?_) ?_ (by kernel_rfl) (by kernel_rfl) (by kernel_rfl) ?_ ?_ (by assumption) ?_; rotate_left 2; (focus (simp only [List.getElem?_toArray, List.getElem?_cons_succ, List.getElem?_cons_zero]; rfl)); (focus (exact fun _ _ _ h => h)); first | (focus (refine Or.inl ⟨by rfl, ?_⟩; intro w hSw; (try dsimp only at hSw); (try dsimp only [Array.getD]); go_simp; (try with_reducible rfl))) | (focus (refine Or.inr ⟨by rfl, ?_⟩; rfl)) | fail "op 8"
  try simp only [Act.put, List.setIfInBounds_toArray, List.set_cons_zero, List.set_cons_succ]
  refine wpAnyH_take (i := 9) (oi := ?_) (v := ?_) ?_ (by kernel_rfl) (by kernel_rfl) (by kernel_rfl) ?_ ?_ (by assumption) ?_; rotate_left 2; (focus (simp only [List.getElem?_toArray, List.getElem?_cons_succ, List.getElem?_cons_zero]; rfl)); (focus (exact fun _ _ _ h => h)); first | (focus (refine Or.inl ⟨by rfl, ?_⟩; intro w hSw; (try dsimp only at hSw); (try dsimp only [Array.getD]); go_simp; (try with_reducible rfl))) | (focus (refine Or.inr ⟨by rfl, ?_⟩; rfl)) | fail "op 9"
  try simp only [Act.put, List.setIfInBounds_toArray, List.set_cons_zero, List.set_cons_succ]
  refine wpAnyH_take (i := 10) (oi := ?_) (v := ?_) ?_ (by kernel_rfl) (by kernel_rfl) (by kernel_rfl) ?_ ?_ (by assumption) ?_; rotate_left 2; (focus (simp only [List.getElem?_toArray, List.getElem?_cons_succ, List.getElem?_cons_zero]; rfl)); (focus (exact fun _ _ _ h => h)); first | (focus (refine Or.inl ⟨by rfl, ?_⟩; intro w hSw; (try dsimp only at hSw); (try dsimp only [Array.getD]); go_simp; (try with_reducible rfl))) | (focus (refine Or.inr ⟨by rfl, ?_⟩; rfl)) | fail "op 10"
  try simp only [Act.put, List.setIfInBounds_toArray, List.set_cons_zero, List.set_cons_succ]
  refine wpAnyH_take (i := 11) (oi := ?_) (v := ?_) ?_ (by kernel_rfl) (by kernel_rfl) (by kernel_rfl) ?_ ?_ (by assumption) ?_; rotate_left 2; (focus (simp only [List.getElem?_toArray, List.getElem?_cons_succ, List.getElem?_cons_zero]; rfl)); (focus (exact fun _ _ _ h => h)); first | (focus (refine Or.inl ⟨by rfl, ?_⟩; intro w hSw; (try dsimp only at hSw); (try dsimp only [Array.getD]); go_simp; (try with_reducible rfl))) | (focus (refine Or.inr ⟨by rfl, ?_⟩; rfl)) | fail "op 11"
  try simp only [Act.put, List.setIfInBounds_toArray, List.set_cons_zero, List.set_cons_succ]
  refine wpAnyH_take (i := 12) (oi := ?_) (v := ?_) ?_ (by kernel_rfl) (by kernel_rfl) (by kernel_rfl) ?_ ?_ (by assumption) ?_; rotate_left 2; (focus (simp only [List.getElem?_toArray, List.getElem?_cons_succ, List.getElem?_cons_zero]; rfl)); (focus (exact fun _ _ _ h => h)); first | (focus (refine Or.inl ⟨by rfl, ?_⟩; intro w hSw; (try dsimp only at hSw); (try dsimp only [Array.getD]); go_simp; (try with_reducible rfl))) | (focus (refine Or.inr ⟨by rfl, ?_⟩; rfl)) | fail "op 12"
  try simp only [Act.put, List.setIfInBounds_toArray, List.set_cons_zero, List.set_cons_succ]
  refine wpAnyH_take (i := 13) (oi := ?_) (v := ?_) ?_ (by kernel_rfl) (by kernel_rfl) (by kernel_rfl) ?_ ?_ (by assumption) ?_; rotate_left 2; (focus (simp only [List.getElem?_toArray, List.getElem?_cons_succ, List.getElem?_cons_zero]; rfl)); (focus (exact fun _ _ _ h => h)); first | (focus (refine Or.inl ⟨by rfl, ?_⟩; intro w hSw; (try dsimp only at hSw); (try dsimp only [Array.getD]); go_simp; (try with_reducible rfl))) | (focus (refine Or.inr ⟨by rfl, ?_⟩; rfl)) | fail "op 13"
  try simp only [Act.put, List.setIfInBounds_toArray, List.set_cons_zero, List.set_cons_succ]
  refine wpAnyH_ready (rs := [14]) (by kernel_rfl) (by simp) ?_
  refine AllReadyH.cons (o := ?_) ?_ (fun K hK => ?_) AllReadyH.nil; rotate_left; (focus (simp only [List.getElem?_toArray, List.getElem?_cons_succ, List.getElem?_cons_zero]; rfl))
  rw [if_pos (by rfl)]
  go_simp
  go_at_call 13
  refine (HD1.out _ hHeld).mono ?_
  rintro e w6 ⟨rfl, hg6⟩
  refine hK.out _ _ (hHeld.tr hg6) (fun hHeld => ?_)
  clear hK K
  try simp only [Act.put, List.setIfInBounds_toArray, List.set_cons_zero, List.set_cons_succ]
  refine wpAnyH_take (i := 15) (oi := ?_) (v := ?_) ?_ (by kernel_rfl) (by kernel_rfl) (by kernel_rfl) ?_ ?_ (by assumption) ?_; rotate_left 2; (focus (simp only [List.getElem?_toArray, List.getElem?_cons_succ, List.getElem?_cons_zero]; rfl)); (focus (exact fun _ _ _ h => h)); first | (focus (refine Or.inl ⟨by rfl, ?_⟩; intro w hSw; (try dsimp only at hSw); (try dsimp only [Array.getD]); go_simp; (try with_reducible rfl))) | (focus (refine Or.inr ⟨by rfl, ?_⟩; rfl)) | fail "op 15"
  try simp only [Act.put, List.setIfInBounds_toArray, List.set_cons_zero, List.set_cons_succ]
  refine wpAnyH_take (i := 16) (oi := ?_) (v := ?_) ?_ (by kernel_rfl) (by kernel_rfl) (by kernel_rfl) ?_ ?_ (by assumption) ?_; rotate_left 2; (focus (simp only [List.getElem?_toArray, List.getElem?_cons_succ, List.getElem?_cons_zero]; rfl)); (focus (exact fun _ _ _ h => h)); first | (focus (refine Or.inl ⟨by rfl, ?_⟩; intro w hSw; (try dsimp only at hSw); (try dsimp only [Array.getD]); go_simp; (try with_reducible rfl))) | (focus (refine Or.inr ⟨by rfl, ?_⟩; rfl)) | fail "op 16"
  try simp only [Act.put, List.setIfInBounds_toArray, List.set_cons_zero, List.set_cons_succ]
  refine wpAnyH_take (i := 17) (oi := ?_) (v := ?_) ?_ (by kernel_rfl) (by kernel_rfl) (by kernel_rfl) ?_ ?_ (by assumption) ?_; rotate_left 2; (focus (simp only [List.getElem?_toArray, List.getElem?_cons_succ, List.getElem?_cons_zero]; rfl)); (focus (exact fun _ _ _ h => h)); first | (focus (refine Or.inl ⟨by rfl, ?_⟩; intro w hSw; (try dsimp only at hSw); (try dsimp only [Array.getD]); go_simp; (try with_reducible rfl))) | (focus (refine Or.inr ⟨by rfl, ?_⟩; rfl)) | fail "op 17"
  try simp only [Act.put, List.setIfInBounds_toArray, List.set_cons_zero, List.set_cons_succ]
  refine wpAnyH_ready (rs := [18]) (by kernel_rfl) (by simp) ?_
  refine AllReadyH.cons (o := ?_) ?_ (fun K hK => ?_) AllReadyH.nil; rotate_left; (focus (simp only [List.getElem?_toArray, List.getElem?_cons_succ, List.getElem?_cons_zero]; rfl))
  rw [if_pos (by rfl)]
  go_simp
  go_at_call 16
  refine (HD2.out _ hHeld).mono ?_
  rintro e w7 ⟨rfl, hg7⟩
  refine hK.out _ _ (hHeld.tr hg7) (fun hHeld => ?_)
  clear hK K
  try simp only [Act.put, List.setIfInBounds_toArray, List.set_cons_zero, List.set_cons_succ]
  refine wpAnyH_take (i := 19) (oi := ?_) (v := ?_) ?_ (by kernel_rfl) (by kernel_rfl) (by kernel_rfl) ?_ ?_ (by assumption) ?_; rotate_left 2; (focus (simp only [List.getElem?_toArray, List.getElem?_cons_succ, List.getElem?_cons_zero]; rfl)); (focus (exact fun _ _ _ h => h)); first | (focus (refine Or.inl ⟨by rfl, ?_⟩; intro w hSw; (try dsimp only at hSw); (try dsimp only [Array.getD]); go_simp; (try with_reducible rfl))) | (focus (refine Or.inr ⟨by rfl, ?_⟩; rfl)) | fail "op 19"
  try simp only [Act.put, List.setIfInBounds_toArray, List.set_cons_zero, List.set_cons_succ]
  refine wpAnyH_take (i := 20) (oi := ?_) (v := ?_) ?_ (by kernel_rfl) (by kernel_rfl) (by kernel_rfl) ?_ ?_ (by assumption) ?_; rotate_left 2; (focus (simp only [List.getElem?_toArray, List.getElem?_cons_succ, List.getElem?_cons_zero]; rfl)); (focus (exact fun _ _ _ h => h)); first | (focus (refine Or.inl ⟨by rfl, ?_⟩; intro w hSw; (try dsimp only at hSw); (try dsimp only [Array.getD]); go_simp; (try with_reducible rfl))) | (focus (refine Or.inr ⟨by rfl, ?_⟩; rfl)) | fail "op 20"
  try simp only [Act.put, List.setIfInBounds_toArray, List.set_cons_zero, List.set_cons_succ]
  refine wpAnyH_take (i := 21) (oi := ?_) (v := ?_) ?_ (by kernel_rfl) (by kernel_rfl) (by kernel_rfl) ?_ ?_ (by assumption) ?_; rotate_left 2; (focus (simp only [List.getElem?_toArray, List.getElem?_cons_succ, List.getElem?_cons_zero]; rfl)); (focus (exact fun _ _ _ h => h)); first | (focus (refine Or.inl ⟨by rfl, ?_⟩; intro w hSw; (try dsimp only at hSw); (try dsimp only [Array.getD]); go_simp; (try with_reducible rfl))) | (focus (refine Or.inr ⟨by rfl, ?_⟩; rfl)) | fail "op 21"
  try simp only [Act.put, List.setIfInBounds_toArray, List.set_cons_zero, List.set_cons_succ]
  refine wpAnyH_take (i := 22) (oi := ?_) (v := ?_) ?_ (by kernel_rfl) (by kernel_rfl) (by kernel_rfl) ?_ ?_ (by assumption) ?_; rotate_left 2; (focus (simp only [List.getElem?_toArray, List.getElem?_cons_succ, List.getElem?_cons_zero]; rfl)); (focus (exact fun _ _ _ h => h)); first | (focus (refine Or.inl ⟨by rfl, ?_⟩; intro w hSw; (try dsimp only at hSw); skip; (try dsimp only [Array.getD]); go_simp; (try with_reducible rfl))) | (focus (refine Or.inr ⟨by rfl, ?_⟩; rfl)) | fail "op 22"
  try simp only [Act.put, List.setIfInBounds_toArray, List.set_cons_zero, List.set_cons_succ]
  refine wpAnyH_take (i := 23) (oi := ?_) (v := ?_) ?_ (by kernel_rfl) (by kernel_rfl) (by kernel_rfl) ?_ ?_ (by assumption) ?_; rotate_left 2; (focus (simp only [List.getElem?_toArray, List.getElem?_cons_succ, List.getElem?_cons_zero]; rfl)); (focus (exact fun _ _ _ h => h)); first | (focus (refine Or.inl ⟨by rfl, ?_⟩; intro w hSw; (try dsimp only at hSw); (try dsimp only [Array.getD]); go_simp; (try with_reducible rfl))) | (focus (refine Or.inr ⟨by rfl, ?_⟩; rfl)) | fail "op 23"
  try simp only [Act.put, List.setIfInBounds_toArray, List.set_cons_zero, List.set_cons_succ]
  refine wpAnyH_take (i := 24) (oi := ?_) (v := ?_) ?_ (by kernel_rfl) (by kernel_rfl) (by kernel_rfl) ?_ ?_ (by assumption) ?_; rotate_left 2; (focus (simp only [List.getElem?_toArray, List.getElem?_cons_succ, List.getElem?_cons_zero]; rfl)); (focus (exact fun _ _ _ h => h)); first | (focus (refine Or.inl ⟨by rfl, ?_⟩; intro w hSw; (try dsimp only at hSw); (try dsimp only [Array.getD]); go_simp; (try with_reducible rfl))) | (focus (refine Or.inr ⟨by rfl, ?_⟩; rfl)) | fail "op 24"
  try simp only [Act.put, List.setIfInBounds_toArray, List.set_cons_zero, List.set_cons_succ]
  refine wpAnyH_take (i := 25) (oi := ?_) (v := ?_) ?_ (by kernel_rfl) (by kernel_rfl) (by kernel_rfl) ?_ ?_ (by assumption) ?_; rotate_left 2; (focus (simp only [List.getElem?_toArray, List.getElem?_cons_succ, List.getElem?_cons_zero]; rfl)); (focus (exact fun _ _ _ h => h)); first | (focus (refine Or.inl ⟨by rfl, ?_⟩; intro w hSw; (try dsimp only at hSw); (try dsimp only [Array.getD]); go_simp; (try with_reducible rfl))) | (focus (refine Or.inr ⟨by rfl, ?_⟩; rfl)) | fail "op 25"
  try simp only [Act.put, List.setIfInBounds_toArray, List.set_cons_zero, List.set_cons_succ]
  refine wpAnyH_take (i := 26) (oi := ?_) (v := ?_) ?_ (by kernel_rfl) (by kernel_rfl) (by kernel_rfl) ?_ ?_ (by assumption) ?_; rotate_left 2; (focus (simp only [List.getElem?_toArray, List.getElem?_cons_succ, List.getElem?_cons_zero]; rfl)); (focus (exact fun _ _ _ h => h)); first | (focus (refine Or.inl ⟨by rfl, ?_⟩; intro w hSw; (try dsimp only at hSw); (try dsimp only [Array.getD]); go_simp; (try with_reducible rfl))) | (focus (refine Or.inr ⟨by rfl, ?_⟩; rfl)) | fail "op 26"
  try simp only [Act.put, List.setIfInBounds_toArray, List.set_cons_zero, List.set_cons_succ]
  refine wpAnyH_take (i := 27) (oi := ?_) (v := ?_) ?_ (by kernel_rfl) (by kernel_rfl) (by kernel_rfl) ?_ ?_ (by assumption) ?_; rotate_left 2; (focus (simp only [List.getElem?_toArray, List.getElem?_cons_succ, List.getElem?_cons_zero]; rfl)); (focus (exact fun _ _ _ h => h)); first | (focus (refine Or.inl ⟨by rfl, ?_⟩; intro w hSw; (try dsimp only at hSw); (try dsimp only [Array.getD]); go_simp; (try with_reducible rfl))) | (focus (refine Or.inr ⟨by rfl, ?_⟩; rfl)) | fail "op 27"
  try simp only [Act.put, List.setIfInBounds_toArray, List.set_cons_zero, List.set_cons_succ]
  refine wpAnyH_take (i := 28) (oi := ?_) (v := ?_) ?_ (by kernel_rfl) (by kernel_rfl) (by kernel_rfl) ?_ ?_ (by assumption) ?_; rotate_left 2; (focus (simp only [List.getElem?_toArray, List.getElem?_cons_succ, List.getElem?_cons_zero]; rfl)); (focus (exact fun _ _ _ h => h)); first | (focus (refine Or.inl ⟨by rfl, ?_⟩; intro w hSw; (try dsimp only at hSw); (try dsimp only [Array.getD]); go_simp; (try with_reducible rfl))) | (focus (refine Or.inr ⟨by rfl, ?_⟩; rfl)) | fail "op 28"
  try simp only [Act.put, List.setIfInBounds_toArray, List.set_cons_zero, List.set_cons_succ]
  refine wpAnyH_take (i := 29) (oi := ?_) (v := ?_) ?_ (by kernel_rfl) (by kernel_rfl) (by kernel_rfl) ?_ ?_ (by assumption) ?_; rotate_left 2; (focus (simp only [List.getElem?_toArray, List.getElem?_cons_succ, List.getElem?_cons_zero]; rfl)); (focus (exact fun _ _ _ h => h)); first | (focus (refine Or.inl ⟨by rfl, ?_⟩; intro w hSw; (try dsimp only at hSw); (try dsimp only [Array.getD]); go_simp; (try with_reducible rfl))) | (focus (refine Or.inr ⟨by rfl, ?_⟩; rfl)) | fail "op 29"
  try simp only [Act.put, List.setIfInBounds_toArray, List.set_cons_zero, List.set_cons_succ]
  refine wpAnyH_take (i := 30) (oi := ?_) (v := ?_) ?_ (by kernel_rfl) (by kernel_rfl) (by kernel_rfl) ?_ ?_ (by assumption) ?_; rotate_left 2; (focus (simp only [List.getElem?_toArray, List.getElem?_cons_succ, List.getElem?_cons_zero]; rfl)); (focus (exact fun _ _ _ h => h)); first | (focus (refine Or.inl ⟨by rfl, ?_⟩; intro w hSw; (try dsimp only at hSw); have cl := keepc hSw Hcl.out; (try dsimp only [Array.getD]); go_simp; (try with_reducible rfl))) | (focus (refine Or.inr ⟨by rfl, ?_⟩; rfl)) | fail "op 30"
  try simp only [Act.put, List.setIfInBounds_toArray, List.set_cons_zero, List.set_cons_succ]
  refine wpAnyH_take (i := 31) (oi := ?_) (v := ?_) ?_ (by kernel_rfl) (by kernel_rfl) (by kernel_rfl) ?_ ?_ (by assumption) ?_; rotate_left 2; (focus (simp only [List.getElem?_toArray, List.getElem?_cons_succ, List.getElem?_cons_zero]; rfl)); (focus (exact fun _ _ _ h => h)); first | (focus (refine Or.inl ⟨by rfl, ?_⟩; intro w hSw; (try dsimp only at hSw); (try dsimp only [Array.getD]); go_simp; (try with_reducible rfl))) | (focus (refine Or.inr ⟨by rfl, ?_⟩; rfl)) | fail "op 31"
  try simp only [Act.put, List.setIfInBounds_toArray, List.set_cons_zero, List.set_cons_succ]
  refine wpAnyH_take (i := 32) (oi := ?_) (v := ?_) ?_ (by kernel_rfl) (by kernel_rfl) (by kernel_rfl) ?_ ?_ (by assumption) ?_; rotate_left 2; (focus (simp only [List.getElem?_toArray, List.getElem?_cons_succ, List.getElem?_cons_zero]; rfl)); (focus (exact fun _ _ _ h => h)); first | (focus (refine Or.inl ⟨by rfl, ?_⟩; intro w hSw; (try dsimp only at hSw); (try dsimp only [Array.getD]); go_simp; (try with_reducible rfl))) | (focus (refine Or.inr ⟨by rfl, ?_⟩; rfl)) | fail "op 32"
  try simp only [Act.put, List.setIfInBounds_toArray, List.set_cons_zero, List.set_cons_succ]
  refine wpAnyH_take (i := 33) (oi := ?_) (v := ?_) ?_ (by kernel_rfl) (by kernel_rfl) (by kernel_rfl) ?_ ?_ (by assumption) ?_; rotate_left 2; (focus (simp only [List.getElem?_toArray, List.getElem?_cons_succ, List.getElem?_cons_zero]; rfl)); (focus (exact fun _ _ _ h => h)); first | (focus (refine Or.inl ⟨by rfl, ?_⟩; intro w hSw; (try dsimp only at hSw); (try dsimp only [Array.getD]); go_simp; (try with_reducible rfl))) | (focus (refine Or.inr ⟨by rfl, ?_⟩; rfl)) | fail "op 33"
  try simp only [Act.put, List.setIfInBounds_toArray, List.set_cons_zero, List.set_cons_succ]
  refine wpAnyH_take (i := 34) (oi := ?_) (v := ?_) ?_ (by kernel_rfl) (by kernel_rfl) (by kernel_rfl) ?_ ?_ (by assumption) ?_; rotate_left 2; (focus (simp only [List.getElem?_toArray, List.getElem?_cons_succ, List.getElem?_cons_zero]; rfl)); (focus (exact fun _ _ _ h => h)); first | (focus (refine Or.inl ⟨by rfl, ?_⟩; intro w hSw; (try dsimp only at hSw); (try dsimp only [Array.getD]); go_simp; (try with_reducible rfl))) | (focus (refine Or.inr ⟨by rfl, ?_⟩; rfl)) | fail "op 34"
  try simp only [Act.put, List.setIfInBounds_toArray, List.set_cons_zero, List.set_cons_succ]
  refine wpAnyH_take (i := 35) (oi := ?_) (v := ?_) ?_ (by kernel_rfl) (by kernel_rfl) (by kernel_rfl) ?_ ?_ (by assumption) ?_; rotate_left 2; (focus (simp only [List.getElem?_toArray, List.getElem?_cons_succ, List.getElem?_cons_zero]; rfl)); (focus (exact fun _ _ _ h => h)); first | (focus (refine Or.inl ⟨by rfl, ?_⟩; intro w hSw; (try dsimp only at hSw); skip; (try dsimp only [Array.getD]); go_simp; (try with_reducible rfl))) | (focus (refine Or.inr ⟨by rfl, ?_⟩; rfl)) | fail "op 35"
  try simp only [Act.put, List.setIfInBounds_toArray, List.set_cons_zero, List.set_cons_succ]
  refine wpAnyH_take (i := 36) (oi := ?_) (v := ?_) ?_ (by kernel_rfl) (by kernel_rfl) (by kernel_rfl) ?_ ?_ (by assumption) ?_; rotate_left 2; (focus (simp only [List.getElem?_toArray, List.getElem?_cons_succ, List.getElem?_cons_zero]; rfl)); (focus (exact fun _ _ _ h => h)); first | (focus (refine Or.inl ⟨by rfl, ?_⟩; intro w hSw; (try dsimp only at hSw); (try dsimp only [Array.getD]); go_simp; (try with_reducible rfl))) | (focus (refine Or.inr ⟨by rfl, ?_⟩; rfl)) | fail "op 36"
  try simp only [Act.put, List.setIfInBounds_toArray, List.set_cons_zero, List.set_cons_succ]
  refine wpAnyH_take (i := 37) (oi := ?_) (v := ?_) ?_ (by kernel_rfl) (by kernel_rfl) (by kernel_rfl) ?_ ?_ (by assumption) ?_; rotate_left 2; (focus (simp only [List.getElem?_toArray, List.getElem?_cons_succ, List.getElem?_cons_zero]; rfl)); (focus (exact fun _ _ _ h => h)); first | (focus (refine Or.inl ⟨by rfl, ?_⟩; intro w hSw; (try dsimp only at hSw); (try dsimp only [Array.getD]); go_simp; (try with_reducible rfl))) | (focus (refine Or.inr ⟨by rfl, ?_⟩; rfl)) | fail "op 37"
  try simp only [Act.put, List.setIfInBounds_toArray, List.set_cons_zero, List.set_cons_succ]
  refine wpAnyH_take (i := 38) (oi := ?_) (v := ?_) ?_ (by kernel_rfl) (by kernel_rfl) (by kernel_rfl) ?_ ?_ (by assumption) ?_; rotate_left 2; (focus (simp only [List.getElem?_toArray, List.getElem?_cons_succ, List.getElem?_cons_zero]; rfl)); (focus (exact fun _ _ _ h => h)); first | (focus (refine Or.inl ⟨by rfl, ?_⟩; intro w hSw; (try dsimp only at hSw); (try dsimp only [Array.getD]); go_simp; (try with_reducible rfl))) | (focus (refine Or.inr ⟨by rfl, ?_⟩; rfl)) | fail "op 38"
  try simp only [Act.put, List.setIfInBounds_toArray, List.set_cons_zero, List.set_cons_succ]
  refine wpAnyH_take (i := 39) (oi := ?_) (v := ?_) ?_ (by kernel_rfl) (by kernel_rfl) (by kernel_rfl) ?_ ?_ (by assumption) ?_; rotate_left 2; (focus (simp only [List.getElem?_toArray, List.getElem?_cons_succ, List.getElem?_cons_zero]; rfl)); (focus (exact fun _ _ _ h => h)); first | (focus (refine Or.inl ⟨by rfl, ?_⟩; intro w hSw; (try dsimp only at hSw); (try dsimp only [Array.getD]); go_simp; (try with_reducible rfl))) | (focus (refine Or.inr ⟨by rfl, ?_⟩; rfl)) | fail "op 39"
  try simp only [Act.put, List.setIfInBounds_toArray, List.set_cons_zero, List.set_cons_succ]
  refine wpAnyH_take (i := 40) (oi := ?_) (v := ?_) ?_ (by kernel_rfl) (by kernel_rfl) (by kernel_rfl) ?_ ?_ (by assumption) ?_; rotate_left 2; (focus (simp only [List.getElem?_toArray, List.getElem?_cons_succ, List.getElem?_cons_zero]; rfl)); (focus (exact fun _ _ _ h => h)); first | (focus (refine Or.inl ⟨by rfl, ?_⟩; intro w hSw; (try dsimp only at hSw); (try dsimp only [Array.getD]); go_simp; (try with_reducible rfl))) | (focus (refine Or.inr ⟨by rfl, ?_⟩; rfl)) | fail "op 40"
  try simp only [Act.put, List.setIfInBounds_toArray, List.set_cons_zero, List.set_cons_succ]
  refine wpAnyH_take (i := 41) (oi := ?_) (v := ?_) ?_ (by kernel_rfl) (by kernel_rfl) (by kernel_rfl) ?_ ?_ (by assumption) ?_; rotate_left 2; (focus (simp only [List.getElem?_toArray, List.getElem?_cons_succ, List.getElem?_cons_zero]; rfl)); (focus (exact fun _ _ _ h => h)); first | (focus (refine Or.inl ⟨by rfl, ?_⟩; intro w hSw; (try dsimp only at hSw); refine (exec_load_mid 26 (.tmp 79) (by rfl) bh oh (by rfl) (ptC (ptA 5 2)) _ (rangeAt_gr hSw Hrh.out) Try.underlying26 rfl info_pt).trans ?_; with_reducible rfl)) | (focus (refine Or.inr ⟨by rfl, ?_⟩; rfl)) | fail "op 41"
  try simp only [Act.put, List.setIfInBounds_toArray, List.set_cons_zero, List.set_cons_succ]
  refine wpAnyH_take (i := 42) (oi := ?_) (v := ?_) ?_ (by kernel_rfl) (by kernel_rfl) (by kernel_rfl) ?_ ?_ (by assumption) ?_; rotate_left 2; (focus (simp only [List.getElem?_toArray, List.getElem?_cons_succ, List.getElem?_cons_zero]; rfl)); (focus (exact fun _ _ _ h => h)); first | (focus (refine Or.inl ⟨by rfl, ?_⟩; intro w hSw; (try dsimp only at hSw); (try dsimp only [Array.getD]); go_simp; (try with_reducible rfl))) | (focus (refine Or.inr ⟨by rfl, ?_⟩; rfl)) | fail "op 42"
  try simp only [Act.put, List.setIfInBounds_toArray, List.set_cons_zero, List.set_cons_succ]
  refine wpAnyH_take (i := 43) (oi := ?_) (v := ?_) ?_ (by kernel_rfl) (by kernel_rfl) (by kernel_rfl) ?_ ?_ (by assumption) ?_; rotate_left 2; (focus (simp only [List.getElem?_toArray, List.getElem?_cons_succ, List.getElem?_cons_zero]; rfl)); (focus (exact fun _ _ _ h => h)); first | (focus (refine Or.inl ⟨by rfl, ?_⟩; intro w hSw; (try dsimp only at hSw); (try dsimp only [Array.getD]); go_simp; (try with_reducible rfl))) | (focus (refine Or.inr ⟨by rfl, ?_⟩; rfl)) | fail "op 43"
  try simp only [Act.put, List.setIfInBounds_toArray, List.set_cons_zero, List.set_cons_succ]
  refine wpAnyH_take (i := 44) (oi := ?_) (v := ?_) ?_ (by kernel_rfl) (by kernel_rfl) (by kernel_rfl) ?_ ?_ (by assumption) ?_; rotate_left 2; (focus (simp only [List.getElem?_toArray, List.getElem?_cons_succ, List.getElem?_cons_zero]; rfl)); (focus (exact fun _ _ _ h => h)); first | (focus (refine Or.inl ⟨by rfl, ?_⟩; intro w hSw; (try dsimp only at hSw); refine (exec_load_mid 26 (.tmp 82) (by rfl) bg og (by rfl) (ptC (ptA 5 2)) _ (rangeAt_gr hSw Hrg4.out) Try.underlying26 rfl info_pt).trans ?_; with_reducible rfl)) | (focus (refine Or.inr ⟨by rfl, ?_⟩; rfl)) | fail "op 44"
  try simp only [Act.put, List.setIfInBounds_toArray, List.set_cons_zero, List.set_cons_succ]
  refine wpAnyH_take (i := 45) (oi := ?_) (v := ?_) ?_ (by kernel_rfl) (by kernel_rfl) (by kernel_rfl) ?_ ?_ (by assumption) ?_; rotate_left 2; (focus (simp only [List.getElem?_toArray, List.getElem?_cons_succ, List.getElem?_cons_zero]; rfl)); (focus (exact fun _ _ _ h => h)); first | (focus (refine Or.inl ⟨by rfl, ?_⟩; intro w hSw; (try dsimp only at hSw); refine (exec_eql_pt (.tmp 80) (.tmp 83) (by rfl) (ptA 5 2) (ptA 5 2) (by rfl) (by rfl)).trans ?_; rw [decide_eq_true rfl])) | (focus (refine Or.inr ⟨by rfl, ?_⟩; rfl)) | fail "op 45"
  try simp only [Act.put, List.setIfInBounds_toArray, List.set_cons_zero, List.set_cons_succ]
  refine wpAnyH_take (i := 46) (oi := ?_) (v := ?_) ?_ (by kernel_rfl) (by kernel_rfl) (by kernel_rfl) ?_ ?_ (by assumption) ?_; rotate_left 2; (focus (simp only [List.getElem?_toArray, List.getElem?_cons_succ, List.getElem?_cons_zero]; rfl)); (focus (exact fun _ _ _ h => h)); first | (focus (refine Or.inl ⟨by rfl, ?_⟩; intro w hSw; (try dsimp only at hSw); (try dsimp only [Array.getD]); go_simp; (try with_reducible rfl))) | (focus (refine Or.inr ⟨by rfl, ?_⟩; rfl)) | fail "op 46"
  try simp only [Act.put, List.setIfInBounds_toArray, List.set_cons_zero, List.set_cons_succ]
  refine wpAnyH_take (i := 47) (oi := ?_) (v := ?_) ?_ (by kernel_rfl) (by kernel_rfl) (by kernel_rfl) ?_ ?_ (by assumption) ?_; rotate_left 2; (focus (simp only [List.getElem?_toArray, List.getElem?_cons_succ, List.getElem?_cons_zero]; rfl)); (focus (exact fun _ _ _ h => h)); first | (focus (refine Or.inl ⟨by rfl, ?_⟩; intro w hSw; (try dsimp only at hSw); (try dsimp only [Array.getD]); go_simp; (try with_reducible rfl))) | (focus (refine Or.inr ⟨by rfl, ?_⟩; rfl)) | fail "op 47"
  try simp only [Act.put, List.setIfInBounds_toArray, List.set_cons_zero, List.set_cons_succ]
  refine wpAnyH_ready (rs := [48]) (by kernel_rfl) (by simp) ?_
  refine AllReadyH.cons (o := ?_) ?_ (fun K hK => ?_) AllReadyH.nil; rotate_left; (focus (simp only [List.getElem?_toArray, List.getElem?_cons_succ, List.getElem?_cons_zero]; rfl))
  rw [if_pos (by rfl)]
  go_simp
  go_at_call 9
  refine (meet3_calls 2 (.inr rfl) _).mono ?_
  rintro e w8 ⟨rfl, hg8⟩
  refine hK.out _ _ (hHeld.tr hg8) (fun hHeld => ?_)
  clear hK K
  try simp only [Act.put, List.setIfInBounds_toArray, List.set_cons_zero, List.set_cons_succ]
  refine wpAnyH_take (i := 49) (oi := ?_) (v := ?_) ?_ (by kernel_rfl) (by kernel_rfl) (by kernel_rfl) ?_ ?_ (by assumption) ?_; rotate_left 2; (focus (simp only [List.getElem?_toArray, List.getElem?_cons_succ, List.getElem?_cons_zero]; rfl)); (focus (exact fun _ _ _ h => h)); first | (focus (refine Or.inl ⟨by rfl, ?_⟩; intro w hSw; (try dsimp only at hSw); (try dsimp only [Array.getD]); go_simp; (try with_reducible rfl))) | (focus (refine Or.inr ⟨by rfl, ?_⟩; rfl)) | fail "op 49"
  try simp only [Act.put, List.setIfInBounds_toArray, List.set_cons_zero, List.set_cons_succ]
  refine wpAnyH_take (i := 50) (oi := ?_) (v := ?_) ?_ (by kernel_rfl) (by kernel_rfl) (by kernel_rfl) ?_ ?_ (by assumption) ?_; rotate_left 2; (focus (simp only [List.getElem?_toArray, List.getElem?_cons_succ, List.getElem?_cons_zero]; rfl)); (focus (exact fun _ _ _ h => h)); first | (focus (refine Or.inl ⟨by rfl, ?_⟩; intro w hSw; (try dsimp only at hSw); (try dsimp only [Array.getD]); go_simp; (try with_reducible rfl))) | (focus (refine Or.inr ⟨by rfl, ?_⟩; rfl)) | fail "op 50"
  try simp only [Act.put, List.setIfInBounds_toArray, List.set_cons_zero, List.set_cons_succ]
  refine wpAnyH_ready (rs := [51]) (by kernel_rfl) (by simp) ?_
  refine AllReadyH.cons (o := ?_) ?_ (fun K hK => ?_) AllReadyH.nil; rotate_left; (focus (simp only [List.getElem?_toArray, List.getElem?_cons_succ, List.getElem?_cons_zero]; rfl))
  rw [if_pos (by rfl)]
  go_simp
  go_at_call 9
  refine (meet3_calls 1 (.inl rfl) _).mono ?_
  rintro e w9 ⟨rfl, hg9⟩
  refine hK.out _ _ (hHeld.tr hg9) (fun hHeld => ?_)
  clear hK K
  try simp only [Act.put, List.setIfInBounds_toArray, List.set_cons_zero, List.set_cons_succ]
  refine wpAnyH_take (i := 52) (oi := ?_) (v := ?_) ?_ (by kernel_rfl) (by kernel_rfl) (by kernel_rfl) ?_ ?_ (by assumption) ?_; rotate_left 2; (focus (simp only [List.getElem?_toArray, List.getElem?_cons_succ, List.getElem?_cons_zero]; rfl)); (focus (exact fun _ _ _ h => h)); first | (focus (refine Or.inl ⟨by rfl, ?_⟩; intro w hSw; (try dsimp only at hSw); (try dsimp only [Array.getD]); go_simp; (try with_reducible rfl))) | (focus (refine Or.inr ⟨by rfl, ?_⟩; rfl)) | fail "op 52"
  try simp only [Act.put, List.setIfInBounds_toArray, List.set_cons_zero, List.set_cons_succ]
  refine wpAnyH_take (i := 53) (oi := ?_) (v := ?_) ?_ (by kernel_rfl) (by kernel_rfl) (by kernel_rfl) ?_ ?_ (by assumption) ?_; rotate_left 2; (focus (simp only [List.getElem?_toArray, List.getElem?_cons_succ, List.getElem?_cons_zero]; rfl)); (focus (exact fun _ _ _ h => h)); first | (focus (refine Or.inl ⟨by rfl, ?_⟩; intro w hSw; (try dsimp only at hSw); (try dsimp only [Array.getD]); go_simp; (try with_reducible rfl))) | (focus (refine Or.inr ⟨by rfl, ?_⟩; rfl)) | fail "op 53"
  try simp only [Act.put, List.setIfInBounds_toArray, List.set_cons_zero, List.set_cons_succ]
  refine wpAnyH_take (i := 54) (oi := ?_) (v := ?_) ?_ (by kernel_rfl) (by kernel_rfl) (by kernel_rfl) ?_ ?_ (by assumption) ?_; rotate_left 2; (focus (simp only [List.getElem?_toArray, List.getElem?_cons_succ, List.getElem?_cons_zero]; rfl)); (focus (exact fun _ _ _ h => h)); first | (focus (refine Or.inl ⟨by rfl, ?_⟩; intro w hSw; (try dsimp only at hSw); (try dsimp only [Array.getD]); go_simp; (try with_reducible rfl))) | (focus (refine Or.inr ⟨by rfl, ?_⟩; rfl)) | fail "op 54"
  try simp only [Act.put, List.setIfInBounds_toArray, List.set_cons_zero, List.set_cons_succ]
  refine wpAnyH_done (by kernel_rfl) ?_ _
  go_wp2_with fail
  go_ret
  exact ⟨rfl, G4.out.tr hHeld⟩
end Go.Proofs.Ytpnpnjfflblkpaa

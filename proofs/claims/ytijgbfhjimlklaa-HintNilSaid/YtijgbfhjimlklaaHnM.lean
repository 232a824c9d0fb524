/- HintNil: the law. -/
import Derived.Test.YtijgbfhjimlklaaHnK
namespace Go.Proofs.Ytijgbfhjimlklaa
open Go.RowKit Go.Maps

set_option maxRecDepth 100000 in
theorem ack_nil (node : Int) (v : Value) (ps : List Pt) (w : World) (hps : rdRow w 6 v ps.length (encP ps)) (hpl : ps.length ≤ 1000000) : Calls Try.prog 16 #[.pointer none, .int .i64 node, v] w fun e w' => e = .returned (.int .i64 0) ∧ Gr w w' := by
  obtain ⟨va, vc, rfl⟩ : ∃ a c, v = .slice a ps.length c := by obtain ⟨_, a, c, e, _⟩ := hps; exact ⟨a, c, e⟩
  have Hps := Lib.hid hps
  clear hps
  go_enter Try.func16, Try.ntmps16
  go_wp2_with fail
  go_loopw [7, 13] (fun cv iv wr => ∃ i : Nat, i ≤ ps.length ∧ iv = .int .i64 i ∧ cv = .int .i64 0 ∧ Hid (Gr w wr)) (fun _ iv _ => ps.length - (intOf iv).toNat)
  case atStart => exact ⟨0, Nat.zero_le _, rfl, rfl, Lib.hid Gr.rfl'⟩
  case round =>
    obtain ⟨i, hi, rfl, rfl, HG⟩ := hrel
    by_cases hlt : i < ps.length
    · have hlt' : (i : Int) < ps.length := by omega
      obtain ⟨bg, og, _, e1, _, hrg⟩ := rd_range ptC 6 (fun _ => rfl) (Hps.out.gr HG.out) (by omega)
      replace e1 := (Value.slice.inj e1).1
      subst e1
      obtain ⟨y, ey⟩ : ∃ y, ps[i] = y := ⟨_, rfl⟩
      have hrgi := hrg i hlt
      rw [ey] at hrgi
      have Hrg := Lib.hid hrgi
      clear hrg hrgi ey
      go_upto_region 6 with (first | (refine wpList_load_mid rfl 31 (.tmp 15) rfl bg (og + i * 6) rfl (ptC y) _ Hrg.out Try.underlying31 rfl info_pt ?_) | (refine wpList_load_rowg (by rfl) 31 (.tmp 9) rfl wr.heap.size rfl _ (ptC y).toArray (0, 0) _ (heap_alloc_new wr (.cells (ptC y).toArray 31)) Try.underlying31 rfl info_pt ?_))
      obtain ⟨w3, e3, hg3, b3, s3⟩ := al_out wr (.cells #[.string y.s, .int .i64 y.t, .int .i64 y.v, .int .i64 y.c, .int .i64 y.st, .int .i64 y.q] 31)
      rw [e3, ← s3]
      obtain ⟨w4, e4, hg4, b4, s4⟩ := al_out w3 (.cells #[.string y.s, .int .i64 y.t, .int .i64 y.v, .int .i64 y.c, .int .i64 y.st, .int .i64 y.q, .int .i64 node] 66)
      rw [e4]
      have G4 := Lib.hid ((HG.out.tr hg3).tr hg4)
      clear e3 e4 hg3 hg4 b3 b4 s3 s4 Hrg HG
      refine region_start (S := fun w' => Gr w4 w') (by kernel_rfl) (by exact Gr.dr Gr.rfl') (fun wz hz0 hHeld => ?_)
      simp only [List.size_toArray, List.length_cons, List.length_nil, Nat.reduceAdd]
      refine wpAnyH_take (i := 0) (oi := ?_) (v := ?_) ?_ (by kernel_rfl) (by kernel_rfl) (by kernel_rfl) ?_ ?_ (by assumption) ?_; rotate_left 2; (focus (simp only [List.getElem?_toArray, List.getElem?_cons_zero]; rfl)); (focus (exact fun _ _ _ h => h)); first | (focus (refine Or.inl ⟨by rfl, ?_⟩; intro w hSw; (try dsimp only at hSw); (try dsimp only [Array.getD]); go_simp; (try with_reducible rfl))) | (focus (refine Or.inr ⟨by rfl, ?_⟩; rfl)) | fail "op 0"
      try simp only [Act.put, List.setIfInBounds_toArray, List.set_cons_zero, List.set_cons_succ]
      refine wpAnyH_take (i := 1) (oi := ?_) (v := ?_) ?_ (by kernel_rfl) (by kernel_rfl) (by kernel_rfl) ?_ ?_ (by assumption) ?_; rotate_left 2; (focus (simp only [List.getElem?_toArray, List.getElem?_cons_succ, List.getElem?_cons_zero]; rfl)); (focus (exact fun _ _ _ h => h)); first | (focus (refine Or.inl ⟨by rfl, ?_⟩; intro w hSw; (try dsimp only at hSw); (try dsimp only [Array.getD]); go_simp; (try with_reducible rfl))) | (focus (refine Or.inr ⟨by rfl, ?_⟩; rfl)) | fail "op 1"
      try simp only [Act.put, List.setIfInBounds_toArray, List.set_cons_zero, List.set_cons_succ]
      refine wpAnyH_take (i := 2) (oi := ?_) (v := ?_) ?_ (by kernel_rfl) (by kernel_rfl) (by kernel_rfl) ?_ ?_ (by assumption) ?_; rotate_left 2; (focus (simp only [List.getElem?_toArray, List.getElem?_cons_succ, List.getElem?_cons_zero]; rfl)); (focus (exact fun _ _ _ h => h)); first | (focus (refine Or.inl ⟨by rfl, ?_⟩; intro w hSw; (try dsimp only at hSw); (try dsimp only [Array.getD]); go_simp; (try with_reducible rfl))) | (focus (refine Or.inr ⟨by rfl, ?_⟩; rfl)) | fail "op 2"
      try simp only [Act.put, List.setIfInBounds_toArray, List.set_cons_zero, List.set_cons_succ]
      refine wpAnyH_take (i := 3) (oi := ?_) (v := ?_) ?_ (by kernel_rfl) (by kernel_rfl) (by kernel_rfl) ?_ ?_ (by assumption) ?_; rotate_left 2; (focus (simp only [List.getElem?_toArray, List.getElem?_cons_succ, List.getElem?_cons_zero]; rfl)); (focus (exact fun _ _ _ h => h)); first | (focus (refine Or.inl ⟨by rfl, ?_⟩; intro w hSw; (try dsimp only at hSw); (try dsimp only [Array.getD]); go_simp; (try with_reducible rfl))) | (focus (refine Or.inr ⟨by rfl, ?_⟩; rfl)) | fail "op 3"
      try simp only [Act.put, List.setIfInBounds_toArray, List.set_cons_zero, List.set_cons_succ]
      refine wpAnyH_take (i := 4) (oi := ?_) (v := ?_) ?_ (by kernel_rfl) (by kernel_rfl) (by kernel_rfl) ?_ ?_ (by assumption) ?_; rotate_left 2; (focus (simp only [List.getElem?_toArray, List.getElem?_cons_succ, List.getElem?_cons_zero]; rfl)); (focus (exact fun _ _ _ h => h)); first | (focus (refine Or.inl ⟨by rfl, ?_⟩; intro w hSw; (try dsimp only at hSw); (try dsimp only [Array.getD]); go_simp; (try with_reducible rfl))) | (focus (refine Or.inr ⟨by rfl, ?_⟩; rfl)) | fail "op 4"
      try simp only [Act.put, List.setIfInBounds_toArray, List.set_cons_zero, List.set_cons_succ]
      refine wpAnyH_take (i := 5) (oi := ?_) (v := ?_) ?_ (by kernel_rfl) (by kernel_rfl) (by kernel_rfl) ?_ ?_ (by assumption) ?_; rotate_left 2; (focus (simp only [List.getElem?_toArray, List.getElem?_cons_succ, List.getElem?_cons_zero]; rfl)); (focus (exact fun _ _ _ h => h)); first | (focus (refine Or.inl ⟨by rfl, ?_⟩; intro w hSw; (try dsimp only at hSw); (try dsimp only [Array.getD]); go_simp; (try with_reducible rfl))) | (focus (refine Or.inr ⟨by rfl, ?_⟩; rfl)) | fail "op 5"
      try simp only [Act.put, List.setIfInBounds_toArray, List.set_cons_zero, List.set_cons_succ]
      refine wpAnyH_take (i := 6) (oi := ?_) (v := ?_) ?_ (by kernel_rfl) (by kernel_rfl) (by kernel_rfl) ?_ ?_ (by assumption) ?_; rotate_left 2; (focus (simp only [List.getElem?_toArray, List.getElem?_cons_succ, List.getElem?_cons_zero]; rfl)); (focus (exact fun _ _ _ h => h)); first | (focus (refine Or.inl ⟨by rfl, ?_⟩; intro w hSw; (try dsimp only at hSw); (try dsimp only [Array.getD]); go_simp; (try with_reducible rfl))) | (focus (refine Or.inr ⟨by rfl, ?_⟩; rfl)) | fail "op 6"
      try simp only [Act.put, List.setIfInBounds_toArray, List.set_cons_zero, List.set_cons_succ]
      refine wpAnyH_take (i := 7) (oi := ?_) (v := ?_) ?_ (by kernel_rfl) (by kernel_rfl) (by kernel_rfl) ?_ ?_ (by assumption) ?_; rotate_left 2; (focus (simp only [List.getElem?_toArray, List.getElem?_cons_succ, List.getElem?_cons_zero]; rfl)); (focus (exact fun _ _ _ h => h)); first | (focus (refine Or.inl ⟨by rfl, ?_⟩; intro w hSw; (try dsimp only at hSw); (try dsimp only [Array.getD]); go_simp; (try with_reducible rfl))) | (focus (refine Or.inr ⟨by rfl, ?_⟩; rfl)) | fail "op 7"
      try simp only [Act.put, List.setIfInBounds_toArray, List.set_cons_zero, List.set_cons_succ]
      refine wpAnyH_take (i := 8) (oi := ?_) (v := ?_) ?_ (by kernel_rfl) (by kernel_rfl) (by kernel_rfl) ?_ ?_ (by assumption) ?_; rotate_left 2; (focus (simp only [List.getElem?_toArray, List.getElem?_cons_succ, List.getElem?_cons_zero]; rfl)); (focus (exact fun _ _ _ h => h)); first | (focus (refine Or.inl ⟨by rfl, ?_⟩; intro w hSw; (try dsimp only at hSw); (try dsimp only [Array.getD]); go_simp; (try with_reducible rfl))) | (focus (refine Or.inr ⟨by rfl, ?_⟩; rfl)) | fail "op 8"
      try simp only [Act.put, List.setIfInBounds_toArray, List.set_cons_zero, List.set_cons_succ]
      refine wpAnyH_take (i := 9) (oi := ?_) (v := ?_) ?_ (by kernel_rfl) (by kernel_rfl) (by kernel_rfl) ?_ ?_ (by assumption) ?_; rotate_left 2; (focus (simp only [List.getElem?_toArray, List.getElem?_cons_succ, List.getElem?_cons_zero]; rfl)); (focus (exact fun _ _ _ h => h)); first | (focus (refine Or.inl ⟨by rfl, ?_⟩; intro w hSw; (try dsimp only at hSw); (try dsimp only [Array.getD]); go_simp; (try with_reducible rfl))) | (focus (refine Or.inr ⟨by rfl, ?_⟩; rfl)) | fail "op 9"
      try simp only [Act.put, List.setIfInBounds_toArray, List.set_cons_zero, List.set_cons_succ]
      refine wpAnyH_done (by kernel_rfl) ?_ _
      have G5 := Lib.hid (G4.out.tr hHeld)
      clear hHeld hz0
      go_wp2_with fail
      go_roundw
      case rel => exact ⟨i + 1, by omega, by go_num, rfl, G5⟩
      case measure => simp [intOf]; omega
    · obtain rfl : i = ps.length := by omega
      go_wp2_with fail
      go_ret
      exact ⟨rfl, HG.out⟩
theorem zero_h (w : World) : HAt (w.alloc (.cells #[.int .i64 0, .map none] 62)) w.heap.size none 0 [] :=
  ⟨heap_alloc_new w _, ⟨List.nodup_nil, (fun x hx => by cases hx), .inl ⟨rfl, rfl⟩⟩, (by simp)⟩
theorem nl1 : ¬ addOk 0 [] (ptA 1) [1] := by decide
theorem nl2 : addOk 0 [] (ptA 1) [] ∧ moreH [] (ptA 1) [] = [] := by decide
theorem rdI_none (w : World) : rdRow w 1 (.slice none 0 0) ([] : List Int).length (encI []) := ⟨rfl, none, 0, rfl, Nat.le_refl _, fun h => absurd h (by decide)⟩
set_option maxRecDepth 100000 in
set_option maxHeartbeats 8000000 in
theorem nil_law (n : Int) (w : World) : Calls Try.prog 7 #[.int .i64 n] w fun e w' => e = .returned (.bool true) ∧ Gr w w' := by
  go_enter Try.func7, Try.ntmps7
  go_wp2_with fail
  have hz := zero_h w
  have HZ := Lib.hid hz; have G0 := Lib.hid (Gr.al (Gr.rfl' (w := w)) (.cells #[.int .i64 0, .map none] 62))
  clear hz
  obtain ⟨w0, ew0⟩ : ∃ w0, w.alloc (.cells #[.int .i64 0, .map none] 62) = w0 := ⟨_, rfl⟩
  rw [ew0] at HZ G0 ⊢
  obtain ⟨p, ep⟩ : ∃ p, w.heap.size = p := ⟨_, rfl⟩
  have HP := Lib.hid ep
  rw [ep] at HZ ⊢
  clear ew0 ep
  refine (awake_calls _).mono ?_
  rintro e w1 ⟨rfl, hg1⟩
  have H1 := Lib.hid (HZ.out.gr hg1); have G1 := Lib.hid (G0.out.tr hg1)
  clear hg1 HZ G0
  go_wp2_with fail
  refine (point_calls _ _).mono ?_
  rintro e wx ⟨rfl, hgx⟩
  replace H1 := Lib.hid (H1.out.gr hgx); replace G1 := Lib.hid (G1.out.tr hgx)
  clear hgx
  go_wp2_with fail
  refine (add_nil _ _ _).mono ?_
  rintro e wy ⟨rfl, hgx⟩
  replace H1 := Lib.hid (H1.out.gr ((Gr.al Gr.rfl' _).tr hgx)); replace G1 := Lib.hid (G1.out.tr ((Gr.al Gr.rfl' _).tr hgx))
  clear hgx
  go_wp2_with fail
  refine (point_calls _ _).mono ?_
  rintro e wx ⟨rfl, hgx⟩
  replace H1 := Lib.hid (H1.out.gr hgx); replace G1 := Lib.hid (G1.out.tr hgx)
  clear hgx
  go_wp2_with fail
  refine (ack_nil _ _ [ptA 1] _ (rdP_lit wx (ptA 1) 31) (by decide)).mono ?_
  rintro e wy ⟨rfl, hgx⟩
  replace H1 := Lib.hid (H1.out.gr ((Gr.al Gr.rfl' _).tr hgx)); replace G1 := Lib.hid (G1.out.tr ((Gr.al Gr.rfl' _).tr hgx))
  clear hgx
  go_wp2_with fail
  refine (drop_nil _ _).mono ?_
  rintro e wx ⟨rfl, hgx⟩
  replace H1 := Lib.hid (H1.out.gr hgx); replace G1 := Lib.hid (G1.out.tr hgx)
  clear hgx
  go_wp2_with fail
  refine (len_nil _).mono ?_
  rintro e wx ⟨rfl, hgx⟩
  replace H1 := Lib.hid (H1.out.gr hgx); replace G1 := Lib.hid (G1.out.tr hgx)
  clear hgx
  go_wp2_with fail
  refine (room_nil _).mono ?_
  rintro e wx ⟨rfl, hgx⟩
  replace H1 := Lib.hid (H1.out.gr hgx); replace G1 := Lib.hid (G1.out.tr hgx)
  clear hgx
  go_wp2_with fail
  refine (for_nil _ _ _).mono ?_
  rintro e wx ⟨rfl, hgx⟩
  replace H1 := Lib.hid (H1.out.gr hgx); replace G1 := Lib.hid (G1.out.tr hgx)
  clear hgx
  go_wp2_with fail
  refine (point_calls _ _).mono ?_
  rintro e wx ⟨rfl, hgx⟩
  replace H1 := Lib.hid (H1.out.gr hgx); replace G1 := Lib.hid (G1.out.tr hgx)
  clear hgx
  go_wp2_with fail
  refine (howed_nil _ _).mono ?_
  rintro e wx ⟨rfl, hgx⟩
  replace H1 := Lib.hid (H1.out.gr hgx); replace G1 := Lib.hid (G1.out.tr hgx)
  clear hgx
  go_wp2_with fail
  refine (hnodes_nil _).mono ?_
  rintro e wx ⟨rfl, hgx⟩
  replace H1 := Lib.hid (H1.out.gr hgx); replace G1 := Lib.hid (G1.out.tr hgx)
  clear hgx
  go_wp2_with fail
  refine (point_calls _ _).mono ?_
  rintro e wx ⟨rfl, hgx⟩
  replace H1 := Lib.hid (H1.out.gr hgx); replace G1 := Lib.hid (G1.out.tr hgx)
  clear hgx
  go_wp2_with fail
  refine (add_calls _ p none 0 [] (H1.out.gr (Gr.al Gr.rfl' (.cells #[.int .i64 1] 3))) (by decide) (fun _ => rfl) (by decide) (ptA 1) (show I64 0 by decide) _ [1] (rdI_lit wx [1] 3) (by decide)).mono ?_
  rintro e wz ⟨rfl, ha, hb⟩
  rw [if_neg nl1] at ha
  rw [decide_eq_false nl1]
  have HA := Lib.hid ha; have GA := Lib.hid (hb.gr (G1.out.tr (Gr.al Gr.rfl' (.cells #[.int .i64 1] 3))) (fun k hk => by cases hk))
  clear ha hb H1 G1
  go_wp2_with fail
  refine (point_calls _ _).mono ?_
  rintro e wx ⟨rfl, hgx⟩
  replace HA := Lib.hid (HA.out.gr hgx); replace GA := Lib.hid (GA.out.tr hgx)
  clear hgx
  go_wp2_with fail
  refine (add_calls _ p none 0 [] HA.out (by decide) (fun _ => rfl) (by decide) (ptA 1) (show I64 0 by decide) _ [] (rdI_none _) (by decide)).mono ?_
  rintro e wz ⟨rfl, ha, hb⟩
  rw [if_pos nl2.1, nl2.2, List.append_nil] at ha
  rw [decide_eq_true nl2.1]
  have HB := Lib.hid ha; have GB := Lib.hid (hb.gr GA.out (fun k hk => by cases hk))
  clear ha hb HA GA
  go_wp2_with fail
  refine (hlen_calls _ p none 0 [] HB.out).mono ?_
  rintro e wx ⟨rfl, hgx⟩
  replace HB := Lib.hid (HB.out.gr hgx); replace GB := Lib.hid (GB.out.tr hgx)
  clear hgx
  go_wp2_with fail
  refine (hroom_calls _ p none 0 [] HB.out (by decide) (by decide)).mono ?_
  rintro e wx ⟨rfl, hgx⟩
  replace GB := Lib.hid (GB.out.tr hgx)
  clear hgx
  go_wp2_with fail
  go_ret
  exact ⟨rfl, GB.out⟩
end Go.Proofs.Ytijgbfhjimlklaa

/- The law CausalNil: its contract. -/
import Derived.Test.YtnneebdcaefgoaaCbC
namespace Go.Proofs.Ytnneebdcaefgoaa
open Go.RowKit Go.Maps

def zb0 : Buf := ⟨0, [], fun _ _ => none, 0⟩
def zb1 : Buf := putB zb0 r11
def zb2 : Buf := takeB zb1 0 r11
theorem zoff1 : offN zb0 r11 = 0 := by decide
theorem zoff2 : offN zb2 r32 = 2 := by decide
theorem znx1 : nextAll zb1 = some (0, r11) := by rfl
theorem zb0_k : ∀ s q r, zb0.f s q = some r → r.d.length ≤ 1000000 := fun s q r e => by cases e
theorem zb1_k : ∀ s q r, zb1.f s q = some r → r.d.length ≤ 1000000 := put_k (r := r11) zb0_k (by decide)
theorem zb1_own : Own zb1 := put_own (r := r11) (fun s q r e => by cases e)
set_option maxRecDepth 100000 in
set_option maxHeartbeats 4000000 in
theorem nil_law (n : Int) (w : World) : Calls Try.prog 7 #[.int .i64 n] w fun e w' => e = .returned (.bool true) ∧ Gr w w' := by
  go_enter Try.func7, Try.ntmps7
  go_wp2_with fail
  obtain ⟨W0, e0, g0, b0, s0⟩ := al_out w (.cells #[.int .i64 0, .slice none 0 0, .map none] 56)
  rw [e0]
  obtain ⟨p, ep⟩ : ∃ A, w.heap.size = A := ⟨_, rfl⟩
  rw [ep] at b0 s0 ⊢
  have hB0 : BufAt W0 p none zb0 := ⟨blk_lt b0, (fun b e => by cases e), _, fun _ _ => none, b0, rdX_nil, .inl ⟨rfl, rfl, fun _ _ => rfl⟩, fun s q => ⟨fun _ => rfl, fun r e => by cases e⟩⟩
  have HB0 := Lib.hid hB0; have G0 := Lib.hid g0; have HN := Lib.hid (show ∀ k, BX p none k → w.heap.size ≤ k from fun k hk => by rcases hk with rfl | hk; omega; cases hk)
  clear hB0 g0 b0 s0 e0 ep
  refine (next_nil _).mono ?_
  rintro e w1 ⟨rfl, hg1⟩
  have HB1 := Lib.hid (HB0.out.gr' hg1); have G1 := Lib.hid (G0.out.tr hg1)
  clear HB0 G0 hg1
  go_wp2_with (refine wpList_store_blk rfl 33 (.tmp 5) (.tmp 15) rfl w1.heap.size (recC noRec (.slice none 0 0)) rfl rfl _ _ (heap_alloc_new w1 _) rfl info_rec (one_rec _ _ rfl) (fun w2 b2 g2 s2 => ?_))
  have hg2 : Gr w1 w2 := gr_new (Gr.al Gr.rfl' (.cells #[.int .i64 0, .string ⟨#[]⟩, .int .i64 0, .int .i64 0, .int .i64 0, .int .i64 0, .int .i64 0, .int .i64 0, .slice none 0 0] 33)) g2 (Nat.le_refl _)
  have HB2 := Lib.hid (HB1.out.gr' hg2); have G2 := Lib.hid (G1.out.tr hg2)
  clear HB1 G1 b2 g2 s2 hg2
  refine (record_calls 0 1 none 0 0 [] _).mono ?_
  rintro e w3 ⟨rfl, hg3⟩
  have HB3 := Lib.hid (HB2.out.gr' hg3); have G3 := Lib.hid (G2.out.tr hg3)
  clear HB2 G2 hg3
  go_wp2_with fail
  refine (offer_held HB3.out (by decide) (by decide) r11 _ rdX_nil (by decide) zoff1).mono ?_
  rintro e w4 ⟨rfl, mb4, hB4, hT4, hM4⟩
  have HB4 := Lib.hid (show BufAt w4 p mb4 zb1 from hB4); have G4 := Lib.hid (hT4.gr G3.out HN.out); have HN4 := Lib.hid (newer HN.out hM4 G3.out.size)
  clear hB4 hT4 hM4 HB3 G3 HN
  go_wp2_with fail
  refine (next_calls (fun _ => False) w4 p mb4 zb1 (BufE.of HB4.out) (fun _ z => z.elim) (by decide) zb1_k zb1_own).mono ?_
  intro e w5 hN5
  have hN5' := next_is hN5
  rw [znx1] at hN5'
  obtain ⟨d5, rfl, hd5, hB5, hT5⟩ := hN5'
  have hd51 := rdX_one hd5
  have HB5 := Lib.hid (show BufAt w5 p mb4 zb2 from hB5.at); have G5 := Lib.hid (hT5.gr G4.out HN4.out); have Hd51 := Lib.hid hd51
  clear hN5 hd5 hd51 hB5 hT5 HB4 G4
  go_wp2_with (refine wpList_store_blk rfl 33 (.tmp 8) (.tmp 23) rfl w5.heap.size (recC r11 d5) rfl rfl _ _ (heap_alloc_new w5 _) rfl info_rec (one_rec _ _ Hd51.out) (fun w6 b6 g6 s6 => ?_))
  have hg6 : Gr w5 w6 := gr_new (Gr.al Gr.rfl' (.cells #[.int .i64 0, .string ⟨#[]⟩, .int .i64 0, .int .i64 0, .int .i64 0, .int .i64 0, .int .i64 0, .int .i64 0, .slice none 0 0] 33)) g6 (Nat.le_refl _)
  have HB6 := Lib.hid (HB5.out.gr' hg6); have G6 := Lib.hid (G5.out.tr hg6)
  clear HB5 G5 b6 g6 s6 hg6
  refine (awake_calls _).mono ?_
  rintro e w7 ⟨rfl, hg7⟩
  have HB7 := Lib.hid (HB6.out.gr' hg7); have G7 := Lib.hid (G6.out.tr hg7)
  clear HB6 G6 hg7
  go_wp2_with fail
  refine (record_calls 0 1 none 0 0 [] _).mono ?_
  rintro e w8 ⟨rfl, hg8⟩
  have HB8 := Lib.hid (HB7.out.gr' hg8); have G8 := Lib.hid (G7.out.tr hg8)
  clear HB7 G7 hg8
  go_wp2_with fail
  refine (offer_nil _ _ _).mono ?_
  rintro e w9 ⟨rfl, hg9⟩
  have HB9 := Lib.hid (HB8.out.gr' hg9); have G9 := Lib.hid (G8.out.tr hg9)
  clear HB8 G8 hg9
  go_wp2_with (first | (go_at_call 13; refine (out_nil _).mono ?_; rintro e w' ⟨rfl, rfl⟩) | (go_at_call 18; refine (sure_nil _).mono ?_; rintro e w' ⟨rfl, rfl⟩) | (go_at_call 16; refine (len_nil' _).mono ?_; rintro e w' ⟨rfl, rfl⟩) | (go_at_call 22; refine (lacks_nil _).mono ?_; rintro e w' ⟨rfl, rfl⟩))
  have hr := rdX_new w9 [2] (BX p mb4) (bx_lt HB9.out (Nat.le_refl _)) 3
  refine (record_calls 0 3 _ 1 1 [2] _).mono ?_
  rintro e w10 ⟨rfl, hg10⟩
  have hg10' := (Gr.al Gr.rfl' _).tr hg10
  have Hr := Lib.hid (hr.gr hg10); have HB10 := Lib.hid (HB9.out.gr' hg10'); have G10 := Lib.hid (G9.out.tr hg10')
  clear hr hg10 hg10' HB9 G9
  go_wp2_with fail
  refine (offer_not HB10.out (by decide) (by decide) r32 _ Hr.out (by decide) zoff2 (by decide)).mono ?_
  rintro e w11 ⟨rfl, hg11⟩
  have G11 := Lib.hid (G10.out.tr hg11)
  clear HB10 G10 hg11 Hr
  go_wp2_with fail
  go_ret
  exact ⟨rfl, G11.out⟩
end Go.Proofs.Ytnneebdcaefgoaa

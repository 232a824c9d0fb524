/- CausalPlays: the walk. -/
import Derived.Test.YtnneebdcaefgoaaCcH
import Derived.Test.YtnneebdcaefgoaaCbG
import Derived.Test.YtnneebdcaefgoaaFrO
namespace Go.Proofs.Ytnneebdcaefgoaa
open Go.RowKit Go.Maps
attribute [local go_sem] max2_mx min2_mn max_two' min_two'

/-- The loop's head. -/
def PlayI (w wr : World) (p1 p2 : Nat) : Prop := ∃ (mb : Option Nat) (B : Buf) (most : Int) (out : List Int) (v2 : Value) (L : List (Rec × Value)), PlayW w wr p1 mb B p2 most out v2 L ∧ PlayP B most out (recsOf L)
theorem PlayI.grow {w wr w' : World} {p1 p2 : Nat} (h : PlayI w wr p1 p2) (hg : Gr wr w') : PlayI w w' p1 p2 := by
  obtain ⟨mb, B, most, out, v2, L, h1, h2⟩ := h
  exact ⟨mb, B, most, out, v2, L, h1.grow hg, h2⟩
set_option maxRecDepth 100000 in
set_option maxHeartbeats 8000000 in
theorem plays_law (room : Int) (v1 : Value) (vl : List Int) (v2 : Value) (ops : List OpR) (w : World) (hv1 : rdRow w 1 v1 vl.length (encI vl)) (hvl : vl.length ≤ maxLen)
    (hv2 : rdRow w 10 v2 ops.length (ops.flatMap opC)) (hops : ∀ o ∈ ops, OpOk w o) (hlm : ops.length ≤ maxLen) :
    Calls Try.prog 6 #[.int .i64 room, v1, v2] w fun e w' => e = .returned (.bool true) ∧ Gr w w' := by
  obtain ⟨aw, cw, rfl, hcw, _⟩ := rd_at hv1
  have Hf := Lib.hid (few_same aw vl cw hcw hvl)
  have Hd := Lib.hid (rd_take hv1 (m := (vl.take 12).length) (by rw [List.length_take]; omega))
  have Ht : vl.take (vl.take 12).length = vl.take 12 := by rw [List.length_take]; exact List.take_eq_take_min.symm
  rw [Ht] at Hd
  have h12 : (vl.take 12).length ≤ 12 := by rw [List.length_take]; omega
  generalize vl.take 12 = l12 at *
  have Hnew := Lib.hid (fun W (hg : Gr w W) => new_x room (.slice aw l12.length cw) l12 W (Hd.out.gr hg) (by omega))
  have Hrnew := Lib.hid (fun (E : Nat → Prop) W (hg : Gr w W) hE => rnew_calls E room (.slice aw l12.length cw) l12 W (Hd.out.gr hg) (by omega) hE)
  obtain ⟨a1, c1, rfl, hc1⟩ : ∃ a c, v2 = .slice a ops.length c ∧ ops.length ≤ c := by obtain ⟨_, a, c, e, h, _⟩ := hv2; exact ⟨a, c, e, h⟩
  have HV := Lib.hid hv2; have HO := Lib.hid hops
  unfold maxLen at hlm
  clear hv1 hvl hv2 hops hc1 hcw Ht
  go_enter Try.func6, Try.ntmps6
  go_wp2_with fail
  refine (awake_calls _).mono ?_
  rintro e w1 ⟨rfl, hg1⟩
  have G1 := Lib.hid hg1
  clear hg1
  go_wp2_with (first | (go_at_call 23; refine (Hf.out _).mono ?_; rintro e w' ⟨rfl, rfl⟩))
  refine (Hnew.out _ G1.out).mono ?_
  rintro e w2 ⟨p1, rfl, hp1, hB1, hg2⟩
  have G2 := Lib.hid (G1.out.tr hg2); have HB1 := Lib.hid hB1; have Hp1 := Lib.hid hp1
  clear hp1 hB1 hg2 Hnew
  go_wp2_with (first | (go_at_call 23; refine (Hf.out _).mono ?_; rintro e w' ⟨rfl, rfl⟩))
  refine (Hrnew.out (BX p1 none) _ G2.out (fun k hk => by rcases hk with rfl | hk; exact HB1.out.1; cases hk)).mono ?_
  rintro e w3 ⟨p2, rfl, hp2, hR2, hg3⟩
  have H0 := Lib.hid (show PlayI w w3 p1 p2 from ⟨none, bufNew room l12, roomOf room, plainV l12, .slice none 0 0, [], ⟨G2.out.tr hg3, BufX.gr' (BufX.wid HB1.out (fun k hk => by
    rcases hk with (hk | hk) | (hk | hk)
    · exact .inl (.inr hk)
    · cases hk
    · exact .inr (by rw [hk]; exact hp2)
    · cases hk)) hg3, ⟨hR2.blk, World.ownsRow_nil _ _ _ _, hR2.px, Nat.le_trans G2.out.size hp2, hR2.deps⟩, (fun k hk hz => by
      have hz' : k = p2 := by rcases hz with hz | hz; exact hz; cases hz
      rcases hk with hk | hk
      · have := HB1.out.1; omega
      · cases hk), fun k hk => by rcases hk with rfl | hk; exact Nat.le_trans G1.out.size Hp1.out; cases hk⟩, PlayP.new room l12⟩)
  clear hp2 hR2 hg3 HB1 Hp1 Hrnew G1 G2 Hf Hd
  go_wp2_with fail
  go_loopw [10] (fun iv wr => ∃ i : Nat, i ≤ ops.length ∧ i ≤ 60 ∧ iv = .int .i64 i ∧ Hid (PlayI w wr p1 p2)) (fun iv _ => ops.length - (intOf iv).toNat)
  case atStart => exact ⟨0, Nat.zero_le _, Nat.zero_le _, rfl, H0⟩
  case round =>
    obtain ⟨i, hi1, hi2, rfl, HI⟩ := hrel
    have hgr : Gr w wr := by obtain ⟨_, _, _, _, _, _, h1, _⟩ := HI.out; exact h1.gr
    have HG := Lib.hid hgr
    clear hgr
    by_cases hlt : i < ops.length ∧ i < 60
    · obtain ⟨hl1, hl2⟩ := hlt
      have hl1' : (i : Int) < ops.length := by omega
      have hl2' : (i : Int) < 60 := by omega
      obtain ⟨bs, os, cs, es, _, hrng⟩ := rd_range opC 10 (fun _ => rfl) HV.out (by omega)
      injection es with es1 es2 es3
      subst es1
      have Hrng := Lib.hid (rangeAt_gr HG.out (hrng i hl1))
      have Ho := Lib.hid (HO.out _ (List.getElem_mem hl1))
      clear hrng es3
      obtain ⟨o, ho⟩ : ∃ o, ops[i] = o := ⟨_, rfl⟩
      rw [ho] at Hrng Ho
      clear ho
      have hd1 : o.d.oneCell' = true := by obtain ⟨_, a, c, e, _⟩ := Ho.out.2.2.1; rw [e]; rfl
      have Hd1 := Lib.hid hd1
      clear hd1
      go_upto_if 50 with (first | (refine wpList_load_mid rfl 40 (.tmp 45) rfl bs (os + i * 10) rfl (opC o) _ Hrng.out Try.underlying40 rfl info_op ?_) | (refine wpList_store_blk rfl 40 (.tmp 11) (.tmp 46) rfl wr.heap.size (opC o).toArray rfl rfl _ _ (heap_alloc_new wr _) rfl info_op (opC_one o Hd1.out) (fun w3 b3 g3 s3 => ?_); have c110 := cell_of_row _ _ 0 _ _ _ b3; rw [show ((opC o).toArray)[0]? = some (.int .i64 o.k) from rfl] at c110))
      obtain ⟨A11, eA⟩ : ∃ A, wr.heap.size = A := ⟨_, rfl⟩
      have hg3 : Gr wr w3 := gr_new (Gr.al Gr.rfl' (.cells #[.int .i64 0, .int .i64 0, .string ⟨#[]⟩, .int .i64 0, .int .i64 0, .int .i64 0, .int .i64 0, .int .i64 0, .int .i64 0, .slice none 0 0] 40)) g3 (Nat.le_refl _)
      rw [eA] at b3 ⊢
      have B11 := Lib.hid b3
      have Hd := Lib.hid (Ho.out.2.2.1.gr (HG.out.tr hg3))
      have HI3 := Lib.hid (HI.out.grow hg3)
      clear b3 g3 s3 hg3 eA c110 HI Hrng HG
      obtain ⟨mb, B, most, out, v9, L, hW, hP⟩ := HI3.out
      have HW := Lib.hid hW; have HP := Lib.hid hP
      clear hW hP HI3
      go_cut [12] (fun v wx => v = .bool true ∧ PlayI w wx p1 p2)
      case first =>
        by_cases hk3 : o.k.tmod 4 = 3
        · have hk3' : (o.k.tmod 4 == 3) = true := by simp [hk3]
          clear hk3
          --[[
          go_wp2_with fail
          refine (next_calls (LX p2 v9) w3 p1 mb B HW.out.b HW.out.lt2 (by have := HP.out.inv.out; omega) HP.out.inv.k HP.out.inv.own).mono ?_
          intro e w4 hN
          have hkd : ∀ x ∈ L, x.1.d.length ≤ 1000000 := fun x hx => by have := recOk_len (HP.out.ok x.1 (List.mem_map.2 ⟨x, hx, rfl⟩)); omega
          have hlen := HP.out.len
          rw [recsOf_len] at hlen
          have ho8 := HP.out.out8
          have Hkd := Lib.hid hkd
          clear hkd
          rcases hN with ⟨k, r, d, hk, hn, hs, rfl, hd4, hB4, hT4⟩ | ⟨hn, rfl, hg4⟩
          · have HW4 := Lib.hid (HW.out.turnB hB4 hT4 (.inl rfl))
            have hd1 := rdX_one hd4
            have Hd1' := Lib.hid hd1; have Hd4 := Lib.hid hd4; have HT4 := Lib.hid hT4; have Hn := Lib.hid hn; have Hs := Lib.hid hs
            clear hd1 hd4 hB4 hT4 hn hs
            go_wp2_with (refine wpList_store_blk rfl 33 (.tmp 13) (.tmp 54) rfl w4.heap.size (recC r d) rfl rfl _ _ (heap_alloc_new w4 _) rfl info_rec (one_rec _ _ Hd1'.out) (fun w5 b5 g5 s5 => ?_))
            have hg5 : Gr w4 w5 := gr_new (Gr.al Gr.rfl' (.cells #[.int .i64 0, .string ⟨#[]⟩, .int .i64 0, .int .i64 0, .int .i64 0, .int .i64 0, .int .i64 0, .int .i64 0, .slice none 0 0] 33)) g5 (Nat.le_refl _)
            have HW5 := Lib.hid (HW4.out.grow hg5)
            have hA13 : ¬ LX p2 v9 w4.heap.size := fun z => by have := HW4.out.lt2 _ z; omega
            obtain ⟨A13, eA⟩ : ∃ A, w4.heap.size = A := ⟨_, rfl⟩
            rw [eA] at b5 hA13 ⊢
            have B13 := Lib.hid b5; have HA13 := Lib.hid hA13; have G5 := Lib.hid hg5
            clear b5 g5 s5 hg5 hA13 eA
            refine (rnext_calls (BX p1 mb) w5 p2 w.heap.size most out v9 L HW5.out.r (by omega) hlen Hkd.out HW5.out.lt1).mono ?_
            intro e w6 hR
            rcases hR with ⟨k', i', hi, hk', hn', hs', rfl, v6, hR6, hT6, hv6⟩ | ⟨hn', rfl, hg6⟩
            · obtain ⟨rfl, hi', hr, hst⟩ := HP.out.first Hn.out Hs.out hn' hs'
              rw [recsOf_get] at hr hst
              subst hr
              have HW6 := Lib.hid (HW5.out.turnR hR6 hT6 (fun b hb => .inr (hv6 b hb)))
              have HP6 := Lib.hid (HP.out.next hk hi' hs' (by rw [recsOf_get]; exact Hs.out) (by rw [recsOf_get]; exact hst))
              have hx := HW.out.r.deps _ (List.getElem_mem hi)
              have hx1 := rdX_one hx
              have Hx := Lib.hid ((((hx.bt HT4.out (fun _ z => .inr z)).gr G5.out).bt hT6 (fun _ z => .inl z)).1)
              have Hd6 := Lib.hid (((Hd4.out.gr G5.out).bt hT6 (fun _ z => .inr z)).1)
              have B13' := Lib.hid ((hT6.block A13 (blk_lt B13.out) HA13.out).trans B13.out)
              have Hx1 := Lib.hid hx1
              have hkx := Hkd.out _ (List.getElem_mem hi)
              rw [recsOf_get] at HP6
              have her : (recsOf L).eraseIdx i' = recsOf (L.eraseIdx i') := by unfold recsOf; simp [List.eraseIdx_eq_take_drop_succ, List.map_append, List.map_take, List.map_drop]
              rw [her] at HP6
              obtain ⟨x, ex⟩ : ∃ x, L[i'] = x := ⟨_, rfl⟩
              rw [ex] at Hx Hx1 Hd6 B13' HW6 HP6 hkx ⊢
              clear hR6 hT6 hv6 hx hx1 hn' hs' hst her Hs Hn B13 HA13 HT4 Hd4 HW5 HW4 hi' ex hi
              go_wp2_with (first | (refine wpList_store_blk rfl 33 (.tmp 15) (.tmp 59) rfl w6.heap.size (recC x.1 x.2) rfl rfl _ _ (heap_alloc_new w6 _) rfl info_rec (one_rec _ _ Hx1.out) (fun w7 b7 g7 s7 => ?_); have B15 := Lib.hid b7; (have G7 : Hid (Gr w6 w7) := Lib.hid (gr_new (Gr.al Gr.rfl' (.cells #[.int .i64 0, .string ⟨#[]⟩, .int .i64 0, .int .i64 0, .int .i64 0, .int .i64 0, .int .i64 0, .int .i64 0, .slice none 0 0] 33)) g7 (Nat.le_refl _))); clear b7 g7 s7) | (refine wpList_load_row rfl 33 (.tmp 13) rfl A13 rfl _ (recC x.1 d) (0, 0) _ (G7.out.blk B13'.out) Try.underlying33 rfl info_rec ?_) | (refine wpList_load_row rfl 33 (.tmp 15) rfl w6.heap.size rfl _ (recC x.1 x.2) (0, 0) _ B15.out Try.underlying33 rfl info_rec ?_))
              refine (rsame6_calls x.1 x.1 d x.2 w7 (Hd6.out.gr G7.out) (Hx.out.gr G7.out) hkx).mono ?_
              rintro e w8 ⟨sb, rfl, hsb, hb8⟩
              obtain rfl := hsb rfl
              have HI8 := Lib.hid (show PlayI w w8 p1 p2 from ⟨mb, _, most, _, v6, _, (HW6.out.grow G7.out).grow hb8, HP6.out⟩)
              clear hb8
              go_wp2_with fail
              go_meet
              exact ⟨rfl, HI8.out⟩
            · exact (HP.out.none1 hk Hs.out hn').elim
          · have hW4 := HW.out.grow hg4
            have HW4 := Lib.hid hW4; have Hn := Lib.hid hn
            clear hW4 hg4 hn
            have rz : recV noRec (.slice none 0 0) = .agg (recC noRec (.slice none 0 0)) := rfl
            go_wp2_with (refine wpList_store_blk rfl 33 (.tmp 13) (.tmp 54) rfl w4.heap.size (recC noRec (.slice none 0 0)) rfl rfl _ _ (heap_alloc_new w4 _) rfl info_rec (one_rec _ _ rfl) (fun w5 b5 g5 s5 => ?_))
            have hg5 : Gr w4 w5 := gr_new (Gr.al Gr.rfl' (.cells #[.int .i64 0, .string ⟨#[]⟩, .int .i64 0, .int .i64 0, .int .i64 0, .int .i64 0, .int .i64 0, .int .i64 0, .slice none 0 0] 33)) g5 (Nat.le_refl _)
            have HW5 := Lib.hid (HW4.out.grow hg5)
            obtain ⟨A13, eA⟩ : ∃ A, w4.heap.size = A := ⟨_, rfl⟩
            rw [eA] at b5 ⊢
            have B13 := Lib.hid b5
            clear b5 g5 s5 hg5 eA
            refine (rnext_calls (BX p1 mb) w5 p2 w.heap.size most out v9 L HW5.out.r (by omega) hlen Hkd.out HW5.out.lt1).mono ?_
            intro e w6 hR
            rcases hR with ⟨k', i', hi, hk', hn', hs', rfl, v6, hR6, hT6, hv6⟩ | ⟨hn', rfl, hg6⟩
            · exact (HP.out.none2 hk' hs' Hn.out).elim
            · have HW6 := Lib.hid (HW5.out.grow hg6)
              have B13' := Lib.hid (hg6.blk B13.out)
              clear hg6 hn' Hn HW5 HW4
              go_wp2_with (first | (refine wpList_store_blk rfl 33 (.tmp 15) (.tmp 59) rfl w6.heap.size (recC noRec (.slice none 0 0)) rfl rfl _ _ (heap_alloc_new w6 _) rfl info_rec (one_rec _ _ rfl) (fun w7 b7 g7 s7 => ?_); have B15 := Lib.hid b7; (have G7 : Hid (Gr w6 w7) := Lib.hid (gr_new (Gr.al Gr.rfl' (.cells #[.int .i64 0, .string ⟨#[]⟩, .int .i64 0, .int .i64 0, .int .i64 0, .int .i64 0, .int .i64 0, .int .i64 0, .slice none 0 0] 33)) g7 (Nat.le_refl _))); clear b7 g7 s7) | (refine wpList_load_row rfl 33 (.tmp 13) rfl A13 rfl _ (recC noRec (.slice none 0 0)) (0, 0) _ (G7.out.blk B13'.out) Try.underlying33 rfl info_rec ?_) | (refine wpList_load_row rfl 33 (.tmp 15) rfl w6.heap.size rfl _ (recC noRec (.slice none 0 0)) (0, 0) _ B15.out Try.underlying33 rfl info_rec ?_))
              have hnl : rdRow w7 1 (.slice none 0 0) noRec.d.length (encI noRec.d) := ⟨rfl, none, 0, rfl, Nat.le_refl _, fun h => absurd h (by decide)⟩
              refine (rsame6_calls noRec noRec (.slice none 0 0) (.slice none 0 0) w7 hnl hnl (by decide)).mono ?_
              rintro e w8 ⟨sb, rfl, hsb, hb8⟩
              obtain rfl := hsb rfl
              have HI8 := Lib.hid (show PlayI w w8 p1 p2 from ⟨mb, B, most, out, v9, L, (HW6.out.grow G7.out).grow hb8, HP.out⟩)
              clear hb8 hnl
              go_wp2_with fail
              go_meet
              exact ⟨rfl, HI8.out⟩
          --]]
        · have hk3' : (o.k.tmod 4 == 3) = false := by simp [hk3]
          clear hk3
          have hR23 := Lib.hid (rangeAt_blk B11.out 1 (recL (o.r, o.d)) (fun j u hu => by rw [List.getElem?_toArray, Nat.add_comm]; exact hu))
          go_wp2_with (first | (refine wpList_load_mid rfl 33 (.tmp 70) rfl A11 1 rfl (recL (o.r, o.d)) _ hR23.out Try.underlying33 rfl info_rec ?_) | (go_at_call 15; refine (small_q o.r o.d _ Hd.out Ho.out.2.2.2).mono ?_; rintro e w4 ⟨q, a4, n4, Hq, hq12, He4, rfl, hd4, hb4⟩) | (refine wpList_store_blk rfl 33 (.tmp 18) (.tmp 72) rfl w4.heap.size (recC q (.slice a4 q.d.length n4)) rfl rfl _ _ (heap_alloc_new w4 _) rfl info_rec (one_rec _ _ rfl) (fun w5 b5 g5 s5 => ?_)))
          have hg5 : Gr w3 w5 := gr_new (Gr.al hb4 (.cells #[.int .i64 0, .string ⟨#[]⟩, .int .i64 0, .int .i64 0, .int .i64 0, .int .i64 0, .int .i64 0, .int .i64 0, .slice none 0 0] 33)) g5 hb4.size
          have HW5 := Lib.hid (HW.out.grow hg5)
          have hd5 : rdRow w5 1 (.slice a4 q.d.length n4) q.d.length (encI q.d) := hd4.gr (gr_new (Gr.al Gr.rfl' (.cells #[.int .i64 0, .string ⟨#[]⟩, .int .i64 0, .int .i64 0, .int .i64 0, .int .i64 0, .int .i64 0, .int .i64 0, .slice none 0 0] 33)) g5 (Nat.le_refl _))
          have HQd := Lib.hid (show rdX (fun b => w.heap.size ≤ b) w5 (.slice a4 q.d.length n4) q.d from ⟨hd5, fun a n c e h0 hk => by
            injection e with e1 e2 e3
            obtain ⟨s', _, hq9⟩ := Hq.out
            have hlo : 0 < o.r.d.length := by rw [hq9] at h0; simp at h0; omega
            exact (rdX_below Ho.out.2.2.1).2 a o.r.d.length n4 (by rw [He4.out, e1]) hlo hk⟩)
          have hl3 := hb4.size
          have hA1 : ¬ BX p1 mb w4.heap.size := fun z => by have := HW.out.lt1 _ z; omega
          have hA2 : ¬ LX p2 v9 w4.heap.size := fun z => by have := HW.out.lt2 _ z; omega
          obtain ⟨A18, eA⟩ : ∃ A, w4.heap.size = A := ⟨_, rfl⟩
          rw [eA] at b5 hA1 hA2 ⊢
          have B18 := Lib.hid b5; have HA1 := Lib.hid hA1; have HA2 := Lib.hid hA2; have Hq12 := Lib.hid hq12
          have hlen := HP.out.len
          rw [recsOf_len] at hlen
          have ho8 := HP.out.out8
          have hbn := HP.out.inv.n'
          have hbo := HP.out.inv.out
          clear hg5 hd5 b5 g5 s5 hb4 hd4 hA1 hA2 eA hl3 hR23 B11 HW
          go_wp2_with fail
          refine region_start (S := fun w' => w'.heap[A18]? = some (.cells (recC q (.slice a4 q.d.length n4)) 33 (0, 0))) (by kernel_rfl) (by exact (Gr.dr Gr.rfl').blk B18.out) (fun wz hz0 hHeld => ?_)
          simp only [List.size_toArray, List.length_cons, List.length_nil, Nat.reduceAdd]
          refine wpAnyH_take (i := 0) (oi := ?_) (v := ?_) ?_ (by kernel_rfl) (by kernel_rfl) (by kernel_rfl) ?_ ?_ (by assumption) ?_; rotate_left 2; (focus (simp only [List.getElem?_toArray, List.getElem?_cons_zero]; rfl)); (focus (exact fun _ _ _ h => h)); first | (focus (refine Or.inl ⟨by rfl, ?_⟩; intro w hSw; (try dsimp only at hSw); (try dsimp only [Array.getD]); go_simp; (try with_reducible rfl))) | (focus (refine Or.inr ⟨by rfl, ?_⟩; rfl)) | fail "op 0"
          try simp only [Act.put, List.setIfInBounds_toArray, List.set_cons_zero, List.set_cons_succ]
          refine wpAnyH_take (i := 1) (oi := ?_) (v := ?_) ?_ (by kernel_rfl) (by kernel_rfl) (by kernel_rfl) ?_ ?_ (by assumption) ?_; rotate_left 2; (focus (simp only [List.getElem?_toArray, List.getElem?_cons_succ, List.getElem?_cons_zero]; rfl)); (focus (exact fun _ _ _ h => h)); first | (focus (refine Or.inl ⟨by rfl, ?_⟩; intro w hSw; (try dsimp only at hSw); refine (exec_load_row 33 (.tmp 18) (by rfl) A18 (by rfl) _ (recC q (.slice a4 q.d.length n4)) (0, 0) _ hSw Try.underlying33 rfl info_rec).trans ?_; with_reducible rfl)) | (focus (refine Or.inr ⟨by rfl, ?_⟩; rfl)) | fail "op 1"
          try simp only [Act.put, List.setIfInBounds_toArray, List.set_cons_zero, List.set_cons_succ]
          refine wpAnyH_take (i := 3) (oi := ?_) (v := ?_) ?_ (by kernel_rfl) (by kernel_rfl) (by kernel_rfl) ?_ ?_ (by assumption) ?_; rotate_left 2; (focus (simp only [List.getElem?_toArray, List.getElem?_cons_succ, List.getElem?_cons_zero]; rfl)); (focus (exact fun _ _ _ h => h)); first | (focus (refine Or.inl ⟨by rfl, ?_⟩; intro w hSw; (try dsimp only at hSw); (try dsimp only [Array.getD]); go_simp; (try with_reducible rfl))) | (focus (refine Or.inr ⟨by rfl, ?_⟩; rfl)) | fail "op 3"
          try simp only [Act.put, List.setIfInBounds_toArray, List.set_cons_zero, List.set_cons_succ]
          refine wpAnyH_take (i := 4) (oi := ?_) (v := ?_) ?_ (by kernel_rfl) (by kernel_rfl) (by kernel_rfl) ?_ ?_ (by assumption) ?_; rotate_left 2; (focus (simp only [List.getElem?_toArray, List.getElem?_cons_succ, List.getElem?_cons_zero]; rfl)); (focus (exact fun _ _ _ h => h)); first | (focus (refine Or.inl ⟨by rfl, ?_⟩; intro w hSw; (try dsimp only at hSw); refine (exec_load_row 33 (.tmp 18) (by rfl) A18 (by rfl) _ (recC q (.slice a4 q.d.length n4)) (0, 0) _ hSw Try.underlying33 rfl info_rec).trans ?_; with_reducible rfl)) | (focus (refine Or.inr ⟨by rfl, ?_⟩; rfl)) | fail "op 4"
          try simp only [Act.put, List.setIfInBounds_toArray, List.set_cons_zero, List.set_cons_succ]
          refine wpAnyH_ready (rs := [2]) (by kernel_rfl) (by simp) ?_
          refine AllReadyH.cons (o := ?_) ?_ (fun K hK => ?_) AllReadyH.nil; rotate_left; (focus (simp only [List.getElem?_toArray, List.getElem?_cons_succ, List.getElem?_cons_zero]; rfl))
          go_simp
          go_at_call 11
          have hWz := HW5.out.grow hz0
          refine (offer_calls (LX p2 v9) wz p1 mb B hWz.b hWz.lt2 (by omega) (by omega) q _ ((HQd.out.gr hz0).mono (fun k hk => hWz.n1 k hk)) (by have := Hq12.out; omega)).mono ?_
          rintro e w6 ⟨rfl, mb6, hB6, hT6, hm6, _⟩
          have HW6 := Lib.hid (hWz.turnB hB6 hT6 hm6)
          have HQ6 := Lib.hid ((HQd.out.gr hz0).bt hT6 hWz.n1)
          refine hK.out _ _ ((hT6.block A18 (blk_lt hHeld) HA1.out).trans hHeld) (fun hHeld => ?_)
          clear hK K
          try simp only [Act.put, List.setIfInBounds_toArray, List.set_cons_zero, List.set_cons_succ]
          refine wpAnyH_ready (rs := [5]) (by kernel_rfl) (by simp) ?_
          refine AllReadyH.cons (o := ?_) ?_ (fun K hK => ?_) AllReadyH.nil; rotate_left; (focus (simp only [List.getElem?_toArray, List.getElem?_cons_succ, List.getElem?_cons_zero]; rfl))
          go_simp
          go_at_call 26
          refine (roffer_calls (BX p1 mb6) w6 p2 w.heap.size most out v9 L HW6.out.r (by omega) hlen q _ (HQ6.out.mono (fun k hk => by rcases hk with hk | hk; exact (HW6.out.r.lt k hk).1; exact HW6.out.n1 k hk)) (by have := Hq12.out; omega) HW6.out.lt1).mono ?_
          rintro e w7 ⟨rfl, v7, hR7, hT7, hv7⟩
          have HW7 := Lib.hid (HW6.out.turnR hR7 hT7 hv7)
          refine hK.out _ _ ((hT7.block A18 (blk_lt hHeld) HA2.out).trans hHeld) (fun hHeld => ?_)
          clear hK K
          try simp only [Act.put, List.setIfInBounds_toArray, List.set_cons_zero, List.set_cons_succ]
          refine wpAnyH_take (i := 6) (oi := ?_) (v := ?_) ?_ (by kernel_rfl) (by kernel_rfl) (by kernel_rfl) ?_ ?_ (by assumption) ?_; rotate_left 2; (focus (simp only [List.getElem?_toArray, List.getElem?_cons_succ, List.getElem?_cons_zero]; rfl)); (focus (exact fun _ _ _ h => h)); first | (focus (refine Or.inl ⟨by rfl, ?_⟩; intro w hSw; (try dsimp only at hSw); (try dsimp only [Array.getD]); go_simp; (try with_reducible rfl))) | (focus (refine Or.inr ⟨by rfl, ?_⟩; rfl)) | fail "op 6"
          try simp only [Act.put, List.setIfInBounds_toArray, List.set_cons_zero, List.set_cons_succ]
          refine wpAnyH_take (i := 7) (oi := ?_) (v := ?_) ?_ (by kernel_rfl) (by kernel_rfl) (by kernel_rfl) ?_ ?_ (by assumption) ?_; rotate_left 2; (focus (simp only [List.getElem?_toArray, List.getElem?_cons_succ, List.getElem?_cons_zero]; rfl)); (focus (exact fun _ _ _ h => h)); first | (focus (refine Or.inl ⟨by rfl, ?_⟩; intro w hSw; (try dsimp only at hSw); (try dsimp only [Array.getD]); go_simp; (try with_reducible rfl))) | (focus (refine Or.inr ⟨by rfl, ?_⟩; rfl)) | fail "op 7"
          try simp only [Act.put, List.setIfInBounds_toArray, List.set_cons_zero, List.set_cons_succ]
          refine wpAnyH_done (by kernel_rfl) ?_ _
          have hoff := HP.out.pair.off q
          have hP7 := HP.out.offer q
          rw [← hoff] at HW7 hP7
          have her : recsOf (if offN B q = 0 then L ++ [(q, Value.slice a4 q.d.length n4)] else L) = (if offN B q = 0 then recsOf L ++ [q] else recsOf L) := by split <;> simp [recsOf]
          rw [← her] at hP7
          have HI7 := Lib.hid (show PlayI w w7 p1 p2 from ⟨mb6, _, _, _, v7, _, HW7.out, hP7⟩)
          have HOff := Lib.hid hoff
          clear hoff hP7 her hHeld HW7 HW6 HQ6 hT6 hT7 hR7 hB6 hm6 hv7 HQd B18
          go_wp2_with fail
          go_meet
          exact ⟨by rw [← HOff.out]; simp, HI7.out⟩
      case rest =>
        obtain ⟨rfl, hI⟩ := hcut
        obtain ⟨mb', B', most', out', v9', L', hW', hP'⟩ := hI
        have HW' := Lib.hid hW'; have HP' := Lib.hid hP'
        clear HW HP Ho B11 Hd
        obtain ⟨ov, hblk, hov⟩ := hW'.r.blk
        obtain ⟨a9, c9, rfl, hc9⟩ := hW'.r.form
        have hBo : B'.out = out' := hP'.pair.out
        have hBn : B'.n = L'.length := by rw [hP'.pair.n, recsOf_len]
        have ho8 := hP'.out8
        have hbo8 : B'.out.length ≤ 8 := by rw [hBo]; exact ho8
        have hlen := hP'.len
        rw [recsOf_len] at hlen
        have C1 := Lib.hid (fun W (hg : Gr wc W) => keepc hg ((cell_of_row wc p2 1 _ _ _ hblk).trans rfl))
        have C2 := Lib.hid (fun W (hg : Gr wc W) => keepc hg ((cell_of_row wc p2 2 _ _ _ hblk).trans rfl))
        have Hout := Lib.hid (fun W (hg : Gr wc W) => out_calls W p1 mb' B' (BufE.at (HW'.out.grow hg).b) (by omega))
        have Hsure := Lib.hid (fun W (hg : Gr wc W) => sure_calls W p1 mb' B' (BufE.at (HW'.out.grow hg).b) (by omega) hP'.inv.q)
        have Hrsure := Lib.hid (fun W (hg : Gr wc W) => rsure_calls W p2 w.heap.size most' out' (.slice a9 L'.length c9) L' (HW'.out.grow hg).r (by omega) hlen B' hP'.pair hP'.inv.q)
        have Hlacks := Lib.hid (fun W (hg : Gr wc W) => lacks_calls W p1 mb' B' (BufE.at (HW'.out.grow hg).b) (by omega) (by omega) (lkR out' (recsOf L') 8) (lkR_lt _ _ _) hP'.lacks)
        have Hrlacks := Lib.hid (fun W (hg : Gr wc W) => rlacks_calls W p2 w.heap.size most' out' (.slice a9 L'.length c9) L' (HW'.out.grow hg).r (by omega) hlen)
        have Hlen := Lib.hid (fun W (hg : Gr wc W) => (len_calls W p1 mb' B' (BufE.at (HW'.out.grow hg).b)).mono (fun e w' h => (show e = .returned (.int .i64 (L'.length : Int)) ∧ W = w' from ⟨by rw [h.1, hBn], h.2⟩)))
        have Hov := Lib.hid hov.1
        have hlk := lkR_len out' (recsOf L') 8
        have hres := Lib.hid (show Hid (PlayI w wc p1 p2) from Lib.hid ⟨mb', B', most', out', _, L', HW'.out, HP'.out⟩)
        rw [hBo] at Hout
        obtain ⟨lk, elk⟩ : ∃ lk, lkR out' (recsOf L') 8 = lk := ⟨_, rfl⟩
        rw [elk] at Hlacks Hrlacks hlk
        clear hW' hP' hblk hov hBo hbo8 hBn HW' HP' elk
        go_wp2_with fail
        refine region_start (S := fun w' => Gr wc w') (by kernel_rfl) (by exact Gr.dr Gr.rfl') (fun wz hz0 hHeld => ?_)
        simp only [List.size_toArray, List.length_cons, List.length_nil, Nat.reduceAdd]
        refine wpAnyH_take (i := 0) (oi := ?_) (v := ?_) ?_ (by kernel_rfl) (by kernel_rfl) (by kernel_rfl) ?_ ?_ (by assumption) ?_; rotate_left 2; (focus (simp only [List.getElem?_toArray, List.getElem?_cons_zero]; rfl)); (focus (exact fun _ _ _ h => h)); first | (focus (refine Or.inl ⟨by rfl, ?_⟩; intro w hSw; (try dsimp only at hSw); (try dsimp only [Array.getD]); go_simp; (try with_reducible rfl))) | (focus (refine Or.inr ⟨by rfl, ?_⟩; rfl)) | fail "op 0"
        try simp only [Act.put, List.setIfInBounds_toArray, List.set_cons_zero, List.set_cons_succ]
        refine wpAnyH_take (i := 2) (oi := ?_) (v := ?_) ?_ (by kernel_rfl) (by kernel_rfl) (by kernel_rfl) ?_ ?_ (by assumption) ?_; rotate_left 2; (focus (simp only [List.getElem?_toArray, List.getElem?_cons_succ, List.getElem?_cons_zero]; rfl)); (focus (exact fun _ _ _ h => h)); first | (focus (refine Or.inl ⟨by rfl, ?_⟩; intro w hSw; (try dsimp only at hSw); (try dsimp only [Array.getD]); go_simp; (try with_reducible rfl))) | (focus (refine Or.inr ⟨by rfl, ?_⟩; rfl)) | fail "op 2"
        try simp only [Act.put, List.setIfInBounds_toArray, List.set_cons_zero, List.set_cons_succ]
        refine wpAnyH_take (i := 3) (oi := ?_) (v := ?_) ?_ (by kernel_rfl) (by kernel_rfl) (by kernel_rfl) ?_ ?_ (by assumption) ?_; rotate_left 2; (focus (simp only [List.getElem?_toArray, List.getElem?_cons_succ, List.getElem?_cons_zero]; rfl)); (focus (exact fun _ _ _ h => h)); first | (focus (refine Or.inl ⟨by rfl, ?_⟩; intro w hSw; (try dsimp only at hSw); (try dsimp only [Array.getD]); go_simp; (try with_reducible rfl))) | (focus (refine Or.inr ⟨by rfl, ?_⟩; rfl)) | fail "op 3"
        try simp only [Act.put, List.setIfInBounds_toArray, List.set_cons_zero, List.set_cons_succ]
        refine wpAnyH_take (i := 4) (oi := ?_) (v := ?_) ?_ (by kernel_rfl) (by kernel_rfl) (by kernel_rfl) ?_ ?_ (by assumption) ?_; rotate_left 2; (focus (simp only [List.getElem?_toArray, List.getElem?_cons_succ, List.getElem?_cons_zero]; rfl)); (focus (exact fun _ _ _ h => h)); first | (focus (refine Or.inl ⟨by rfl, ?_⟩; intro w hSw; (try dsimp only at hSw); (try dsimp only [Array.getD]); go_simp; (try with_reducible rfl))) | (focus (refine Or.inr ⟨by rfl, ?_⟩; rfl)) | fail "op 4"
        try simp only [Act.put, List.setIfInBounds_toArray, List.set_cons_zero, List.set_cons_succ]
        refine wpAnyH_take (i := 5) (oi := ?_) (v := ?_) ?_ (by kernel_rfl) (by kernel_rfl) (by kernel_rfl) ?_ ?_ (by assumption) ?_; rotate_left 2; (focus (simp only [List.getElem?_toArray, List.getElem?_cons_succ, List.getElem?_cons_zero]; rfl)); (focus (exact fun _ _ _ h => h)); first | (focus (refine Or.inl ⟨by rfl, ?_⟩; intro w hSw; (try dsimp only at hSw); have c91 := C1.out w hSw; (try dsimp only [Array.getD]); go_simp; (try with_reducible rfl))) | (focus (refine Or.inr ⟨by rfl, ?_⟩; rfl)) | fail "op 5"
        try simp only [Act.put, List.setIfInBounds_toArray, List.set_cons_zero, List.set_cons_succ]
        refine wpAnyH_ready (rs := [1]) (by kernel_rfl) (by simp) ?_
        refine AllReadyH.cons (o := ?_) ?_ (fun K hK => ?_) AllReadyH.nil; rotate_left; (focus (simp only [List.getElem?_toArray, List.getElem?_cons_succ, List.getElem?_cons_zero]; rfl))
        go_simp
        go_at_call 13
        refine (Hout.out _ hHeld).mono ?_
        rintro e w5 ⟨v5, rfl, ho5, hb5⟩
        have Hr5 := Lib.hid (rdRow_of_own ho5)
        refine hK.out _ _ (hHeld.tr hb5) (fun hHeld => ?_)
        clear hK K
        try simp only [Act.put, List.setIfInBounds_toArray, List.set_cons_zero, List.set_cons_succ]
        refine wpAnyH_ready (rs := [6]) (by kernel_rfl) (by simp) ?_
        refine AllReadyH.cons (o := ?_) ?_ (fun K hK => ?_) AllReadyH.nil; rotate_left; (focus (simp only [List.getElem?_toArray, List.getElem?_cons_succ, List.getElem?_cons_zero]; rfl))
        go_simp
        go_at_call 21
        refine (same_calls v5 ov out' out' _ Hr5.out (Hov.out.gr hHeld) (by omega)).mono ?_
        rintro e w6 ⟨rfl, hb6⟩
        rw [decide_eq_true rfl]
        refine hK.out _ _ (hHeld.tr hb6) (fun hHeld => ?_)
        clear hK K
        try simp only [Act.put, List.setIfInBounds_toArray, List.set_cons_zero, List.set_cons_succ]
        refine wpAnyH_take (i := 7) (oi := ?_) (v := ?_) ?_ (by kernel_rfl) (by kernel_rfl) (by kernel_rfl) ?_ ?_ (by assumption) ?_; rotate_left 2; (focus (simp only [List.getElem?_toArray, List.getElem?_cons_succ, List.getElem?_cons_zero]; rfl)); (focus (exact fun _ _ _ h => h)); first | (focus (refine Or.inl ⟨by rfl, ?_⟩; intro w hSw; (try dsimp only at hSw); (try dsimp only [Array.getD]); go_simp; (try with_reducible rfl))) | (focus (refine Or.inr ⟨by rfl, ?_⟩; rfl)) | fail "op 7"
        try simp only [Act.put, List.setIfInBounds_toArray, List.set_cons_zero, List.set_cons_succ]
        refine wpAnyH_done (by kernel_rfl) ?_ _
        have G6 := Lib.hid hHeld
        clear Hr5 ho5 hb5 hb6 hHeld Hov
        go_wp2_with (first | (go_at_call 18; refine (Hsure.out _ G6.out).mono ?_; rintro e w7 ⟨M, v7, hM, rfl, hr7, hb7⟩; have HM := Lib.hid hM; have Hr7 := Lib.hid hr7; have G7 := Lib.hid (G6.out.tr hb7); clear hM hr7) | (go_at_call 27; refine (Hrsure.out _ G7.out).mono ?_; rintro e w8 ⟨M2, v8, hM2, rfl, hr8, hb8⟩; have HM2 := Lib.hid hM2; have Hr8 := Lib.hid hr8; have Hr78 := Lib.hid (Hr7.out.gr hb8); have G8 := Lib.hid (G7.out.tr hb8); clear hM2 hr8))
        have eM : vecOf M2 = vecOf M := vecOf_congr fun j hj => run_unique (HM2.out j hj) (HM.out j hj)
        have hr9 := Hr8.out
        rw [eM] at hr9
        refine (same_calls v7 v8 (vecOf M) (vecOf M) _ Hr78.out hr9 (by have := vecOf_le M; omega)).mono ?_
        rintro e w9 ⟨rfl, hb9⟩
        rw [decide_eq_true rfl]
        have G9 := Lib.hid (G8.out.tr hb9)
        clear hb9 hr9 eM Hr78 Hr7 Hr8 HM HM2 G6 G7 G8 hb7 hb8
        go_wp2_with (first | (go_at_call 22; refine (Hlacks.out _ G9.out).mono ?_; rintro e w7 ⟨v7, rfl, hr7, hb7⟩; have Hr7 := Lib.hid hr7; have G7 := Lib.hid (G9.out.tr hb7); clear hr7) | (go_at_call 28; refine (Hrlacks.out _ G7.out).mono ?_; rintro e w8 ⟨v8, rfl, ho8', hb8⟩; have Hr8 := Lib.hid (rdRow_of_own ho8'); have Hr78 := Lib.hid (Hr7.out.gr hb8); have G8 := Lib.hid (G7.out.tr hb8); clear ho8'))
        refine (same_calls v7 v8 lk lk _ Hr78.out Hr8.out (by omega)).mono ?_
        rintro e w9 ⟨rfl, hb9⟩
        rw [decide_eq_true rfl]
        have G10 := Lib.hid (G8.out.tr hb9)
        clear hb9 Hr78 Hr7 Hr8 G9 G7 G8 hb7 hb8
        go_wp2_with fail
        have c92 := fun g : GrW w9 => C2.out _ (G10.out.tr g.h)
        (refine region_gr (by kernel_rfl) (by kernel_rfl) ?_; (repeat (go_big_quiet_step ((first | (go_at_call 16; rename_i g9; refine (Hlen.out _ (G10.out.tr g9.h)).mono ?_; rintro e w2 ⟨rfl, rfl⟩; exact ⟨rfl, g9, rfl⟩))))); refine wpQuiet_nil ?_; intro wq hw9; obtain ⟨g9, e9⟩ := hw9; have hwq := g9.h; rw [← e9] at hwq; clear e9 g9)
        have G11 := Lib.hid (G10.out.tr hwq)
        clear c92 hwq
        go_wp2_with fail
        go_roundw
        case rel => exact ⟨i + 1, by omega, by omega, by go_num, Lib.hid (hres.out.out.grow G11.out)⟩
        case measure => simp [intOf]; omega
    · by_cases hl1 : i < ops.length
      · have hl1' : (i : Int) < ops.length := by omega
        have hl2' : ¬ (i : Int) < 60 := by omega
        clear hlt
        go_wp2_with fail
        go_ret
        exact ⟨rfl, HG.out⟩
      · have hl1' : ¬ (i : Int) < ops.length := by omega
        clear hlt
        go_wp2_with fail
        go_ret
        exact ⟨rfl, HG.out⟩
end Go.Proofs.Ytnneebdcaefgoaa
